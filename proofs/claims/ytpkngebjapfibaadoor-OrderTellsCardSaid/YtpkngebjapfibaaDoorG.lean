/- Order: who waits for whom: memory to begin with (printed by tool/waitreg.py). -/
import Derived.Test.YtpkngebjapfibaaDoorF
set_option linter.unusedSimpArgs false
set_option linter.unusedVariables false
namespace Go.Proofs.YtpkngebjapfibaaDoor
open Go.AM Go.Proofs
variable {Γ : Nat → Option AV}
abbrev gL (c:Ct):AV:=.list false c.kG (c.gates.map eGt)
abbrev tR (p:Nat) (x2 x3 a b c d e f g h i w:AV):List AV:=[U,.ptr p 0,x2,x3,w,U,U,U,U,U,U,U,U,a,b,c,d,e,f,g,h,i]++List.replicate 58 U
abbrev hW (c:Ct) (n:Nat):List Ob:=[.cells [.sl (n+1) 0 c.gates.length,.sl (n+2) 0 c.gates.length],.row 1 t_map_int_bool_2 (List.replicate c.gates.length .nilm) none true false,.row 1 t_int_2 (List.replicate c.gates.length (.list true 0 [])) none true false]
abbrev AW (Γ:Nat→Option AV) (k:List It) (base:Nat) (up:List Fr) (C:AM.Cfg) (ds:List Nat) (n:Nat) (t:List AV) (H:List Ob):Prop:=AnyO Tryd.prog Γ [[],[0],[1],[2,2],[],[4],[5],[6,6],[3,7],[],[9,8,0,1,2,3,4,5,6,7,8,9]] ynN n_order_wait k [] .norm base up C ds n t H
abbrev oA (c:Ct):Ob:=.row 1 t_map_int_bool_2 (List.replicate c.gates.length .nilm) none true false
abbrev oB (c:Ct):Ob:=.row 1 t_int_2 (List.replicate c.gates.length (.list true 0 [])) none true false
abbrev oN:Ob:=.row 1 t_map_int_bool_2 [] none true false
abbrev oM:Ob:=.row 1 t_int_2 [] none true false
abbrev iG (c:Ct):AV:=.int .i64 c.gates.length
abbrev sG (c:Ct) (H:List Ob) (j:Nat):AV:=.sl (H.length+j) 0 c.gates.length
section
variable {c : Ct} {p : Nat} {x2 x3 : AV} {H : List Ob} {up : List Fr} {base : Nat} {k : List It} {C : AM.Cfg}
set_option maxRecDepth 8000 in
theorem w_s_0_1_2_3_4_5_6_7_8_9_10_ABw (hw:belH H.length H=true) (hb:base≤H.length) (hp:p<H.length) (h2:bel H.length x2=true) (h3:bel H.length x3=true) (hk:belI H.length k=true)
  (hC:AM.Reach Tryd.prog Γ (.fr ⟨.run,n_order_wait,.ops []::k,tR p x2 x3 U U U U U U U U U (.ptr H.length 0),[],.norm,base⟩ up (H++hW c H.length)) C):AW Γ k base up C [0,1,2,3,4,5,6,7,8,9,10] 0 (tR p x2 x3 (.ptr p 3) (gL c) (iG c) (sG c H 0) (.ptr p 3) (gL c) (iG c) (sG c H 1) (.agg [sG c H 0,sG c H 1]) (.ptr (H.length+2) 0)) (H++[oA c,oB c,.cells [sG c H 0,sG c H 1],oN,oM]):=by
 refine .last ?_;refine .trans (.clrs [13,14,15,16,17,18,19,20,21] _) ?_;simp [clrT];refine .gcTo H.length [2,0,1] (by simp [okP_bel hw,okA_bel h2,okA_bel h3,hk,hb,hp]) (by decide) ?_
 have hlt:∀ j,(H.length+j<H.length)=False:=fun j=>eq_false (by omega)
 simp [rnH_bel hw,rnA_bel h2,rnA_bel h3,hp,hlt];simp at hC;exact hC
set_option maxRecDepth 8000 in
theorem w_s_0_1_2_3_4_5_6_7_8_9_10_AwB (hw:belH H.length H=true) (hb:base≤H.length) (hp:p<H.length) (h2:bel H.length x2=true) (h3:bel H.length x3=true) (hk:belI H.length k=true)
  (hC:AM.Reach Tryd.prog Γ (.fr ⟨.run,n_order_wait,.ops []::k,tR p x2 x3 U U U U U U U U U (.ptr H.length 0),[],.norm,base⟩ up (H++hW c H.length)) C):AW Γ k base up C [0,1,2,3,4,5,6,7,8,9,10] 0 (tR p x2 x3 (.ptr p 3) (gL c) (iG c) (sG c H 0) (.ptr p 3) (gL c) (iG c) (sG c H 4) (.agg [sG c H 0,sG c H 4]) (.ptr (H.length+1) 0)) (H++[oA c,.cells [sG c H 0,sG c H 4],oN,oM,oB c]):=by
 refine .last ?_;refine .trans (.clrs [13,14,15,16,17,18,19,20,21] _) ?_;simp [clrT];refine .gcTo H.length [1,0,4] (by simp [okP_bel hw,okA_bel h2,okA_bel h3,hk,hb,hp]) (by decide) ?_
 have hlt:∀ j,(H.length+j<H.length)=False:=fun j=>eq_false (by omega)
 simp [rnH_bel hw,rnA_bel h2,rnA_bel h3,hp,hlt];simp at hC;exact hC
set_option maxRecDepth 8000 in
theorem w_s_0_1_2_3_4_5_6_7_8_9_10_BAw (hw:belH H.length H=true) (hb:base≤H.length) (hp:p<H.length) (h2:bel H.length x2=true) (h3:bel H.length x3=true) (hk:belI H.length k=true)
  (hC:AM.Reach Tryd.prog Γ (.fr ⟨.run,n_order_wait,.ops []::k,tR p x2 x3 U U U U U U U U U (.ptr H.length 0),[],.norm,base⟩ up (H++hW c H.length)) C):AW Γ k base up C [0,1,2,3,4,5,6,7,8,9,10] 0 (tR p x2 x3 (.ptr p 3) (gL c) (iG c) (sG c H 1) (.ptr p 3) (gL c) (iG c) (sG c H 0) (.agg [sG c H 1,sG c H 0]) (.ptr (H.length+2) 0)) (H++[oB c,oA c,.cells [sG c H 1,sG c H 0],oN,oM]):=by
 refine .last ?_;refine .trans (.clrs [13,14,15,16,17,18,19,20,21] _) ?_;simp [clrT];refine .gcTo H.length [2,1,0] (by simp [okP_bel hw,okA_bel h2,okA_bel h3,hk,hb,hp]) (by decide) ?_
 have hlt:∀ j,(H.length+j<H.length)=False:=fun j=>eq_false (by omega)
 simp [rnH_bel hw,rnA_bel h2,rnA_bel h3,hp,hlt];simp at hC;exact hC
set_option maxRecDepth 8000 in
theorem w_s_0_1_2_3_4_5_6_7_8_9_10_BwA (hw:belH H.length H=true) (hb:base≤H.length) (hp:p<H.length) (h2:bel H.length x2=true) (h3:bel H.length x3=true) (hk:belI H.length k=true)
  (hC:AM.Reach Tryd.prog Γ (.fr ⟨.run,n_order_wait,.ops []::k,tR p x2 x3 U U U U U U U U U (.ptr H.length 0),[],.norm,base⟩ up (H++hW c H.length)) C):AW Γ k base up C [0,1,2,3,4,5,6,7,8,9,10] 0 (tR p x2 x3 (.ptr p 3) (gL c) (iG c) (sG c H 4) (.ptr p 3) (gL c) (iG c) (sG c H 0) (.agg [sG c H 4,sG c H 0]) (.ptr (H.length+1) 0)) (H++[oB c,.cells [sG c H 4,sG c H 0],oN,oM,oA c]):=by
 refine .last ?_;refine .trans (.clrs [13,14,15,16,17,18,19,20,21] _) ?_;simp [clrT];refine .gcTo H.length [1,4,0] (by simp [okP_bel hw,okA_bel h2,okA_bel h3,hk,hb,hp]) (by decide) ?_
 have hlt:∀ j,(H.length+j<H.length)=False:=fun j=>eq_false (by omega)
 simp [rnH_bel hw,rnA_bel h2,rnA_bel h3,hp,hlt];simp at hC;exact hC
set_option maxRecDepth 8000 in
theorem w_s_0_1_2_3_4_5_6_7_8_9_10_wAB (hw:belH H.length H=true) (hb:base≤H.length) (hp:p<H.length) (h2:bel H.length x2=true) (h3:bel H.length x3=true) (hk:belI H.length k=true)
  (hC:AM.Reach Tryd.prog Γ (.fr ⟨.run,n_order_wait,.ops []::k,tR p x2 x3 U U U U U U U U U (.ptr H.length 0),[],.norm,base⟩ up (H++hW c H.length)) C):AW Γ k base up C [0,1,2,3,4,5,6,7,8,9,10] 0 (tR p x2 x3 (.ptr p 3) (gL c) (iG c) (sG c H 3) (.ptr p 3) (gL c) (iG c) (sG c H 4) (.agg [sG c H 3,sG c H 4]) (.ptr H.length 0)) (H++[.cells [sG c H 3,sG c H 4],oN,oM,oA c,oB c]):=by
 refine .last ?_;refine .trans (.clrs [13,14,15,16,17,18,19,20,21] _) ?_;simp [clrT];refine .gcTo H.length [0,3,4] (by simp [okP_bel hw,okA_bel h2,okA_bel h3,hk,hb,hp]) (by decide) ?_
 have hlt:∀ j,(H.length+j<H.length)=False:=fun j=>eq_false (by omega)
 simp [rnH_bel hw,rnA_bel h2,rnA_bel h3,hp,hlt];simp at hC;exact hC
set_option maxRecDepth 8000 in
theorem w_s_0_1_2_3_4_5_6_7_8_9_10_wBA (hw:belH H.length H=true) (hb:base≤H.length) (hp:p<H.length) (h2:bel H.length x2=true) (h3:bel H.length x3=true) (hk:belI H.length k=true)
  (hC:AM.Reach Tryd.prog Γ (.fr ⟨.run,n_order_wait,.ops []::k,tR p x2 x3 U U U U U U U U U (.ptr H.length 0),[],.norm,base⟩ up (H++hW c H.length)) C):AW Γ k base up C [0,1,2,3,4,5,6,7,8,9,10] 0 (tR p x2 x3 (.ptr p 3) (gL c) (iG c) (sG c H 4) (.ptr p 3) (gL c) (iG c) (sG c H 3) (.agg [sG c H 4,sG c H 3]) (.ptr H.length 0)) (H++[.cells [sG c H 4,sG c H 3],oN,oM,oB c,oA c]):=by
 refine .last ?_;refine .trans (.clrs [13,14,15,16,17,18,19,20,21] _) ?_;simp [clrT];refine .gcTo H.length [0,4,3] (by simp [okP_bel hw,okA_bel h2,okA_bel h3,hk,hb,hp]) (by decide) ?_
 have hlt:∀ j,(H.length+j<H.length)=False:=fun j=>eq_false (by omega)
 simp [rnH_bel hw,rnA_bel h2,rnA_bel h3,hp,hlt];simp at hC;exact hC
set_option maxRecDepth 8000 in
set_option maxHeartbeats 20000000 in
theorem r_waitR (hc:CtFew c) (hp:H[p]? = some (.cells (AV.cells (eCt c)))) (hw:belH H.length H=true) (hb:base≤H.length) (h2:bel H.length x2=true) (h3:bel H.length x3=true) (hk:belI H.length k=true)
  (hC:AM.Reach Tryd.prog Γ (.fr ⟨.run,n_order_wait,.ops []::k,tR p x2 x3 U U U U U U U U U (.ptr H.length 0),[],.norm,base⟩ up (H++hW c H.length)) C) :
  AM.Reach Tryd.prog Γ (.fr ⟨.run,n_order_wait,.code (.oreg [[],[0],[1],[2,2],[],[4],[5],[6,6],[3,7],[],[9,8,0,1,2,3,4,5,6,7,8,9]] ynN)::k,tR p x2 x3 U U U U U U U U U U,[],.norm,base⟩ up H) C:=by
 have hG:=hc.2.2.2.1
 have hget:=fun os=>get_app hp os
 have hpl:=lt_of_get hp;have b8:((c.gates.length:Int)*8≤140737488355328∧(c.gates.length:Int)≤140737488355328)=True:=eq_true (by omega);have b24:((c.gates.length:Int)*24≤140737488355328∧(c.gates.length:Int)≤140737488355328)=True:=eq_true (by omega);have s_0_1_2_3_4_5_6_7_8_9_10_ABw:AW Γ k base up C [0,1,2,3,4,5,6,7,8,9,10] 0 (tR p x2 x3 (.ptr p 3) (gL c) (iG c) (sG c H 0) (.ptr p 3) (gL c) (iG c) (sG c H 1) (.agg [sG c H 0,sG c H 1]) (.ptr (H.length+2) 0)) (H++[oA c,oB c,.cells [sG c H 0,sG c H 1],oN,oM]):=w_s_0_1_2_3_4_5_6_7_8_9_10_ABw hw hb hpl h2 h3 hk hC
 have s_0_1_2_3_4_5_6_7_8_9_ABw:AW Γ k base up C [0,1,2,3,4,5,6,7,8,9] 1 (tR p x2 x3 (.ptr p 3) (gL c) (iG c) (sG c H 0) (.ptr p 3) (gL c) (iG c) (sG c H 1) (.agg [sG c H 0,sG c H 1]) (.ptr (H.length+2) 0)) (H++[oA c,oB c,.cells [.sl (H.length+3) 0 0,.sl (H.length+4) 0 0],oN,oM]):=by
  refine .step fun i hi => ?_
  have hi':i∈[10]:=hi;simp only [List.mem_cons,List.not_mem_nil,or_false] at hi'
  rcases hi' with rfl
  ·exact ⟨_,_,.tup [],(H++[oA c,oB c,.cells [sG c H 0,sG c H 1],oN,oM]),rfl,.inr ⟨rfl,by simp [hp,hget,b8,b24]⟩,s_0_1_2_3_4_5_6_7_8_9_10_ABw.perm (by decide)⟩
 have s_0_1_2_3_4_5_6_7_8_AB:AW Γ k base up C [0,1,2,3,4,5,6,7,8] 2 (tR p x2 x3 (.ptr p 3) (gL c) (iG c) (sG c H 0) (.ptr p 3) (gL c) (iG c) (sG c H 1) (.agg [sG c H 0,sG c H 1]) U) (H++[oA c,oB c]):=by
  refine .step fun i hi => ?_
  have hi':i∈[9]:=hi;simp only [List.mem_cons,List.not_mem_nil,or_false] at hi'
  rcases hi' with rfl
  ·exact ⟨_,_,.ptr (H.length+2) 0,(H++[oA c,oB c,.cells [.sl (H.length+3) 0 0,.sl (H.length+4) 0 0],oN,oM]),rfl,.inl (by simp [hp,hget,b8,b24]),s_0_1_2_3_4_5_6_7_8_9_ABw.perm (by decide)⟩
 have s_0_1_2_3_4_5_6_7_9_ABw:AW Γ k base up C [0,1,2,3,4,5,6,7,9] 2 (tR p x2 x3 (.ptr p 3) (gL c) (iG c) (sG c H 0) (.ptr p 3) (gL c) (iG c) (sG c H 1) U (.ptr (H.length+2) 0)) (H++[oA c,oB c,.cells [.sl (H.length+3) 0 0,.sl (H.length+4) 0 0],oN,oM]):=by
  refine .step fun i hi => ?_
  have hi':i∈[8]:=hi;simp only [List.mem_cons,List.not_mem_nil,or_false] at hi'
  rcases hi' with rfl
  ·exact ⟨_,_,.agg [sG c H 0,sG c H 1],(H++[oA c,oB c,.cells [.sl (H.length+3) 0 0,.sl (H.length+4) 0 0],oN,oM]),rfl,.inl (by simp [hp,hget,b8,b24]),s_0_1_2_3_4_5_6_7_8_9_ABw.perm (by decide)⟩
 have s_0_1_2_3_4_5_6_7_AB:AW Γ k base up C [0,1,2,3,4,5,6,7] 3 (tR p x2 x3 (.ptr p 3) (gL c) (iG c) (sG c H 0) (.ptr p 3) (gL c) (iG c) (sG c H 1) U U) (H++[oA c,oB c]):=by
  refine .step fun i hi => ?_
  have hi':i∈[8,9]:=hi;simp only [List.mem_cons,List.not_mem_nil,or_false] at hi'
  rcases hi' with rfl | rfl
  ·exact ⟨_,_,.agg [sG c H 0,sG c H 1],(H++[oA c,oB c]),rfl,.inl (by simp [hp,hget,b8,b24]),s_0_1_2_3_4_5_6_7_8_AB.perm (by decide)⟩
  ·exact ⟨_,_,.ptr (H.length+2) 0,(H++[oA c,oB c,.cells [.sl (H.length+3) 0 0,.sl (H.length+4) 0 0],oN,oM]),rfl,.inl (by simp [hp,hget,b8,b24]),s_0_1_2_3_4_5_6_7_9_ABw.perm (by decide)⟩
 have s_0_1_2_3_4_5_6_7_8_9_10_AwB:AW Γ k base up C [0,1,2,3,4,5,6,7,8,9,10] 0 (tR p x2 x3 (.ptr p 3) (gL c) (iG c) (sG c H 0) (.ptr p 3) (gL c) (iG c) (sG c H 4) (.agg [sG c H 0,sG c H 4]) (.ptr (H.length+1) 0)) (H++[oA c,.cells [sG c H 0,sG c H 4],oN,oM,oB c]):=w_s_0_1_2_3_4_5_6_7_8_9_10_AwB hw hb hpl h2 h3 hk hC
 have s_0_1_2_3_4_5_6_7_8_9_AwB:AW Γ k base up C [0,1,2,3,4,5,6,7,8,9] 1 (tR p x2 x3 (.ptr p 3) (gL c) (iG c) (sG c H 0) (.ptr p 3) (gL c) (iG c) (sG c H 4) (.agg [sG c H 0,sG c H 4]) (.ptr (H.length+1) 0)) (H++[oA c,.cells [.sl (H.length+2) 0 0,.sl (H.length+3) 0 0],oN,oM,oB c]):=by
  refine .step fun i hi => ?_
  have hi':i∈[10]:=hi;simp only [List.mem_cons,List.not_mem_nil,or_false] at hi'
  rcases hi' with rfl
  ·exact ⟨_,_,.tup [],(H++[oA c,.cells [sG c H 0,sG c H 4],oN,oM,oB c]),rfl,.inr ⟨rfl,by simp [hp,hget,b8,b24]⟩,s_0_1_2_3_4_5_6_7_8_9_10_AwB.perm (by decide)⟩
 have s_0_1_2_3_4_5_6_7_9_AwB:AW Γ k base up C [0,1,2,3,4,5,6,7,9] 2 (tR p x2 x3 (.ptr p 3) (gL c) (iG c) (sG c H 0) (.ptr p 3) (gL c) (iG c) (sG c H 4) U (.ptr (H.length+1) 0)) (H++[oA c,.cells [.sl (H.length+2) 0 0,.sl (H.length+3) 0 0],oN,oM,oB c]):=by
  refine .step fun i hi => ?_
  have hi':i∈[8]:=hi;simp only [List.mem_cons,List.not_mem_nil,or_false] at hi'
  rcases hi' with rfl
  ·exact ⟨_,_,.agg [sG c H 0,sG c H 4],(H++[oA c,.cells [.sl (H.length+2) 0 0,.sl (H.length+3) 0 0],oN,oM,oB c]),rfl,.inl (by simp [hp,hget,b8,b24]),s_0_1_2_3_4_5_6_7_8_9_AwB.perm (by decide)⟩
 have s_0_1_2_3_4_5_6_9_Aw:AW Γ k base up C [0,1,2,3,4,5,6,9] 3 (tR p x2 x3 (.ptr p 3) (gL c) (iG c) (sG c H 0) (.ptr p 3) (gL c) (iG c) U U (.ptr (H.length+1) 0)) (H++[oA c,.cells [.sl (H.length+2) 0 0,.sl (H.length+3) 0 0],oN,oM]):=by
  refine .step fun i hi => ?_
  have hi':i∈[7]:=hi;simp only [List.mem_cons,List.not_mem_nil,or_false] at hi'
  rcases hi' with rfl
  ·exact ⟨_,_,sG c H 4,(H++[oA c,.cells [.sl (H.length+2) 0 0,.sl (H.length+3) 0 0],oN,oM,oB c]),rfl,.inl (by simp [hp,hget,b8,b24]),s_0_1_2_3_4_5_6_7_9_AwB.perm (by decide)⟩
 have s_0_1_2_3_4_5_6_A:AW Γ k base up C [0,1,2,3,4,5,6] 4 (tR p x2 x3 (.ptr p 3) (gL c) (iG c) (sG c H 0) (.ptr p 3) (gL c) (iG c) U U U) (H++[oA c]):=by
  refine .step fun i hi => ?_
  have hi':i∈[7,9]:=hi;simp only [List.mem_cons,List.not_mem_nil,or_false] at hi'
  rcases hi' with rfl | rfl
  ·exact ⟨_,_,sG c H 1,(H++[oA c,oB c]),rfl,.inl (by simp [hp,hget,b8,b24]),s_0_1_2_3_4_5_6_7_AB.perm (by decide)⟩
  ·exact ⟨_,_,.ptr (H.length+1) 0,(H++[oA c,.cells [.sl (H.length+2) 0 0,.sl (H.length+3) 0 0],oN,oM]),rfl,.inl (by simp [hp,hget,b8,b24]),s_0_1_2_3_4_5_6_9_Aw.perm (by decide)⟩
 have s_0_1_2_3_4_5_9_Aw:AW Γ k base up C [0,1,2,3,4,5,9] 4 (tR p x2 x3 (.ptr p 3) (gL c) (iG c) (sG c H 0) (.ptr p 3) (gL c) U U U (.ptr (H.length+1) 0)) (H++[oA c,.cells [.sl (H.length+2) 0 0,.sl (H.length+3) 0 0],oN,oM]):=by
  refine .step fun i hi => ?_
  have hi':i∈[6]:=hi;simp only [List.mem_cons,List.not_mem_nil,or_false] at hi'
  rcases hi' with rfl
  ·exact ⟨_,_,iG c,(H++[oA c,.cells [.sl (H.length+2) 0 0,.sl (H.length+3) 0 0],oN,oM]),rfl,.inl (by simp [hp,hget,b8,b24]),s_0_1_2_3_4_5_6_9_Aw.perm (by decide)⟩
 have s_0_1_2_3_4_5_A:AW Γ k base up C [0,1,2,3,4,5] 5 (tR p x2 x3 (.ptr p 3) (gL c) (iG c) (sG c H 0) (.ptr p 3) (gL c) U U U U) (H++[oA c]):=by
  refine .step fun i hi => ?_
  have hi':i∈[6,9]:=hi;simp only [List.mem_cons,List.not_mem_nil,or_false] at hi'
  rcases hi' with rfl | rfl
  ·exact ⟨_,_,iG c,(H++[oA c]),rfl,.inl (by simp [hp,hget,b8,b24]),s_0_1_2_3_4_5_6_A.perm (by decide)⟩
  ·exact ⟨_,_,.ptr (H.length+1) 0,(H++[oA c,.cells [.sl (H.length+2) 0 0,.sl (H.length+3) 0 0],oN,oM]),rfl,.inl (by simp [hp,hget,b8,b24]),s_0_1_2_3_4_5_9_Aw.perm (by decide)⟩
 have s_0_1_2_3_4_9_Aw:AW Γ k base up C [0,1,2,3,4,9] 5 (tR p x2 x3 (.ptr p 3) (gL c) (iG c) (sG c H 0) (.ptr p 3) U U U U (.ptr (H.length+1) 0)) (H++[oA c,.cells [.sl (H.length+2) 0 0,.sl (H.length+3) 0 0],oN,oM]):=by
  refine .step fun i hi => ?_
  have hi':i∈[5]:=hi;simp only [List.mem_cons,List.not_mem_nil,or_false] at hi'
  rcases hi' with rfl
  ·exact ⟨_,_,gL c,(H++[oA c,.cells [.sl (H.length+2) 0 0,.sl (H.length+3) 0 0],oN,oM]),rfl,.inl (by simp [hp,hget,b8,b24]),s_0_1_2_3_4_5_9_Aw.perm (by decide)⟩
 have s_0_1_2_3_4_A:AW Γ k base up C [0,1,2,3,4] 6 (tR p x2 x3 (.ptr p 3) (gL c) (iG c) (sG c H 0) (.ptr p 3) U U U U U) (H++[oA c]):=by
  refine .step fun i hi => ?_
  have hi':i∈[5,9]:=hi;simp only [List.mem_cons,List.not_mem_nil,or_false] at hi'
  rcases hi' with rfl | rfl
  ·exact ⟨_,_,gL c,(H++[oA c]),rfl,.inl (by simp [hp,hget,b8,b24]),s_0_1_2_3_4_5_A.perm (by decide)⟩
  ·exact ⟨_,_,.ptr (H.length+1) 0,(H++[oA c,.cells [.sl (H.length+2) 0 0,.sl (H.length+3) 0 0],oN,oM]),rfl,.inl (by simp [hp,hget,b8,b24]),s_0_1_2_3_4_9_Aw.perm (by decide)⟩
 have s_0_1_2_3_9_Aw:AW Γ k base up C [0,1,2,3,9] 6 (tR p x2 x3 (.ptr p 3) (gL c) (iG c) (sG c H 0) U U U U U (.ptr (H.length+1) 0)) (H++[oA c,.cells [.sl (H.length+2) 0 0,.sl (H.length+3) 0 0],oN,oM]):=by
  refine .step fun i hi => ?_
  have hi':i∈[4]:=hi;simp only [List.mem_cons,List.not_mem_nil,or_false] at hi'
  rcases hi' with rfl
  ·exact ⟨_,_,.ptr p 3,(H++[oA c,.cells [.sl (H.length+2) 0 0,.sl (H.length+3) 0 0],oN,oM]),rfl,.inl (by simp [hp,hget,b8,b24]),s_0_1_2_3_4_9_Aw.perm (by decide)⟩
 have s_0_1_2_3_A:AW Γ k base up C [0,1,2,3] 7 (tR p x2 x3 (.ptr p 3) (gL c) (iG c) (sG c H 0) U U U U U U) (H++[oA c]):=by
  refine .step fun i hi => ?_
  have hi':i∈[4,9]:=hi;simp only [List.mem_cons,List.not_mem_nil,or_false] at hi'
  rcases hi' with rfl | rfl
  ·exact ⟨_,_,.ptr p 3,(H++[oA c]),rfl,.inl (by simp [hp,hget,b8,b24]),s_0_1_2_3_4_A.perm (by decide)⟩
  ·exact ⟨_,_,.ptr (H.length+1) 0,(H++[oA c,.cells [.sl (H.length+2) 0 0,.sl (H.length+3) 0 0],oN,oM]),rfl,.inl (by simp [hp,hget,b8,b24]),s_0_1_2_3_9_Aw.perm (by decide)⟩
 have s_0_1_2_3_4_5_6_7_8_9_10_BAw:AW Γ k base up C [0,1,2,3,4,5,6,7,8,9,10] 0 (tR p x2 x3 (.ptr p 3) (gL c) (iG c) (sG c H 1) (.ptr p 3) (gL c) (iG c) (sG c H 0) (.agg [sG c H 1,sG c H 0]) (.ptr (H.length+2) 0)) (H++[oB c,oA c,.cells [sG c H 1,sG c H 0],oN,oM]):=w_s_0_1_2_3_4_5_6_7_8_9_10_BAw hw hb hpl h2 h3 hk hC
 have s_0_1_2_3_4_5_6_7_8_9_BAw:AW Γ k base up C [0,1,2,3,4,5,6,7,8,9] 1 (tR p x2 x3 (.ptr p 3) (gL c) (iG c) (sG c H 1) (.ptr p 3) (gL c) (iG c) (sG c H 0) (.agg [sG c H 1,sG c H 0]) (.ptr (H.length+2) 0)) (H++[oB c,oA c,.cells [.sl (H.length+3) 0 0,.sl (H.length+4) 0 0],oN,oM]):=by
  refine .step fun i hi => ?_
  have hi':i∈[10]:=hi;simp only [List.mem_cons,List.not_mem_nil,or_false] at hi'
  rcases hi' with rfl
  ·exact ⟨_,_,.tup [],(H++[oB c,oA c,.cells [sG c H 1,sG c H 0],oN,oM]),rfl,.inr ⟨rfl,by simp [hp,hget,b8,b24]⟩,s_0_1_2_3_4_5_6_7_8_9_10_BAw.perm (by decide)⟩
 have s_0_1_2_3_4_5_6_7_8_BA:AW Γ k base up C [0,1,2,3,4,5,6,7,8] 2 (tR p x2 x3 (.ptr p 3) (gL c) (iG c) (sG c H 1) (.ptr p 3) (gL c) (iG c) (sG c H 0) (.agg [sG c H 1,sG c H 0]) U) (H++[oB c,oA c]):=by
  refine .step fun i hi => ?_
  have hi':i∈[9]:=hi;simp only [List.mem_cons,List.not_mem_nil,or_false] at hi'
  rcases hi' with rfl
  ·exact ⟨_,_,.ptr (H.length+2) 0,(H++[oB c,oA c,.cells [.sl (H.length+3) 0 0,.sl (H.length+4) 0 0],oN,oM]),rfl,.inl (by simp [hp,hget,b8,b24]),s_0_1_2_3_4_5_6_7_8_9_BAw.perm (by decide)⟩
 have s_0_1_2_3_4_5_6_7_9_BAw:AW Γ k base up C [0,1,2,3,4,5,6,7,9] 2 (tR p x2 x3 (.ptr p 3) (gL c) (iG c) (sG c H 1) (.ptr p 3) (gL c) (iG c) (sG c H 0) U (.ptr (H.length+2) 0)) (H++[oB c,oA c,.cells [.sl (H.length+3) 0 0,.sl (H.length+4) 0 0],oN,oM]):=by
  refine .step fun i hi => ?_
  have hi':i∈[8]:=hi;simp only [List.mem_cons,List.not_mem_nil,or_false] at hi'
  rcases hi' with rfl
  ·exact ⟨_,_,.agg [sG c H 1,sG c H 0],(H++[oB c,oA c,.cells [.sl (H.length+3) 0 0,.sl (H.length+4) 0 0],oN,oM]),rfl,.inl (by simp [hp,hget,b8,b24]),s_0_1_2_3_4_5_6_7_8_9_BAw.perm (by decide)⟩
 have s_0_1_2_3_4_5_6_7_BA:AW Γ k base up C [0,1,2,3,4,5,6,7] 3 (tR p x2 x3 (.ptr p 3) (gL c) (iG c) (sG c H 1) (.ptr p 3) (gL c) (iG c) (sG c H 0) U U) (H++[oB c,oA c]):=by
  refine .step fun i hi => ?_
  have hi':i∈[8,9]:=hi;simp only [List.mem_cons,List.not_mem_nil,or_false] at hi'
  rcases hi' with rfl | rfl
  ·exact ⟨_,_,.agg [sG c H 1,sG c H 0],(H++[oB c,oA c]),rfl,.inl (by simp [hp,hget,b8,b24]),s_0_1_2_3_4_5_6_7_8_BA.perm (by decide)⟩
  ·exact ⟨_,_,.ptr (H.length+2) 0,(H++[oB c,oA c,.cells [.sl (H.length+3) 0 0,.sl (H.length+4) 0 0],oN,oM]),rfl,.inl (by simp [hp,hget,b8,b24]),s_0_1_2_3_4_5_6_7_9_BAw.perm (by decide)⟩
 have s_0_1_2_3_4_5_6_7_8_9_10_BwA:AW Γ k base up C [0,1,2,3,4,5,6,7,8,9,10] 0 (tR p x2 x3 (.ptr p 3) (gL c) (iG c) (sG c H 4) (.ptr p 3) (gL c) (iG c) (sG c H 0) (.agg [sG c H 4,sG c H 0]) (.ptr (H.length+1) 0)) (H++[oB c,.cells [sG c H 4,sG c H 0],oN,oM,oA c]):=w_s_0_1_2_3_4_5_6_7_8_9_10_BwA hw hb hpl h2 h3 hk hC
 have s_0_1_2_3_4_5_6_7_8_9_BwA:AW Γ k base up C [0,1,2,3,4,5,6,7,8,9] 1 (tR p x2 x3 (.ptr p 3) (gL c) (iG c) (sG c H 4) (.ptr p 3) (gL c) (iG c) (sG c H 0) (.agg [sG c H 4,sG c H 0]) (.ptr (H.length+1) 0)) (H++[oB c,.cells [.sl (H.length+2) 0 0,.sl (H.length+3) 0 0],oN,oM,oA c]):=by
  refine .step fun i hi => ?_
  have hi':i∈[10]:=hi;simp only [List.mem_cons,List.not_mem_nil,or_false] at hi'
  rcases hi' with rfl
  ·exact ⟨_,_,.tup [],(H++[oB c,.cells [sG c H 4,sG c H 0],oN,oM,oA c]),rfl,.inr ⟨rfl,by simp [hp,hget,b8,b24]⟩,s_0_1_2_3_4_5_6_7_8_9_10_BwA.perm (by decide)⟩
 have s_0_1_2_3_4_5_6_7_9_BwA:AW Γ k base up C [0,1,2,3,4,5,6,7,9] 2 (tR p x2 x3 (.ptr p 3) (gL c) (iG c) (sG c H 4) (.ptr p 3) (gL c) (iG c) (sG c H 0) U (.ptr (H.length+1) 0)) (H++[oB c,.cells [.sl (H.length+2) 0 0,.sl (H.length+3) 0 0],oN,oM,oA c]):=by
  refine .step fun i hi => ?_
  have hi':i∈[8]:=hi;simp only [List.mem_cons,List.not_mem_nil,or_false] at hi'
  rcases hi' with rfl
  ·exact ⟨_,_,.agg [sG c H 4,sG c H 0],(H++[oB c,.cells [.sl (H.length+2) 0 0,.sl (H.length+3) 0 0],oN,oM,oA c]),rfl,.inl (by simp [hp,hget,b8,b24]),s_0_1_2_3_4_5_6_7_8_9_BwA.perm (by decide)⟩
 have s_0_1_2_4_5_6_7_9_Bw:AW Γ k base up C [0,1,2,4,5,6,7,9] 3 (tR p x2 x3 (.ptr p 3) (gL c) (iG c) U (.ptr p 3) (gL c) (iG c) (sG c H 0) U (.ptr (H.length+1) 0)) (H++[oB c,.cells [.sl (H.length+2) 0 0,.sl (H.length+3) 0 0],oN,oM]):=by
  refine .step fun i hi => ?_
  have hi':i∈[3]:=hi;simp only [List.mem_cons,List.not_mem_nil,or_false] at hi'
  rcases hi' with rfl
  ·exact ⟨_,_,sG c H 4,(H++[oB c,.cells [.sl (H.length+2) 0 0,.sl (H.length+3) 0 0],oN,oM,oA c]),rfl,.inl (by simp [hp,hget,b8,b24]),s_0_1_2_3_4_5_6_7_9_BwA.perm (by decide)⟩
 have s_0_1_2_4_5_6_7_B:AW Γ k base up C [0,1,2,4,5,6,7] 4 (tR p x2 x3 (.ptr p 3) (gL c) (iG c) U (.ptr p 3) (gL c) (iG c) (sG c H 0) U U) (H++[oB c]):=by
  refine .step fun i hi => ?_
  have hi':i∈[3,9]:=hi;simp only [List.mem_cons,List.not_mem_nil,or_false] at hi'
  rcases hi' with rfl | rfl
  ·exact ⟨_,_,sG c H 1,(H++[oB c,oA c]),rfl,.inl (by simp [hp,hget,b8,b24]),s_0_1_2_3_4_5_6_7_BA.perm (by decide)⟩
  ·exact ⟨_,_,.ptr (H.length+1) 0,(H++[oB c,.cells [.sl (H.length+2) 0 0,.sl (H.length+3) 0 0],oN,oM]),rfl,.inl (by simp [hp,hget,b8,b24]),s_0_1_2_4_5_6_7_9_Bw.perm (by decide)⟩
 have s_0_1_2_3_4_5_6_7_8_9_10_wAB:AW Γ k base up C [0,1,2,3,4,5,6,7,8,9,10] 0 (tR p x2 x3 (.ptr p 3) (gL c) (iG c) (sG c H 3) (.ptr p 3) (gL c) (iG c) (sG c H 4) (.agg [sG c H 3,sG c H 4]) (.ptr H.length 0)) (H++[.cells [sG c H 3,sG c H 4],oN,oM,oA c,oB c]):=w_s_0_1_2_3_4_5_6_7_8_9_10_wAB hw hb hpl h2 h3 hk hC
 have s_0_1_2_3_4_5_6_7_8_9_wAB:AW Γ k base up C [0,1,2,3,4,5,6,7,8,9] 1 (tR p x2 x3 (.ptr p 3) (gL c) (iG c) (sG c H 3) (.ptr p 3) (gL c) (iG c) (sG c H 4) (.agg [sG c H 3,sG c H 4]) (.ptr H.length 0)) (H++[.cells [.sl (H.length+1) 0 0,.sl (H.length+2) 0 0],oN,oM,oA c,oB c]):=by
  refine .step fun i hi => ?_
  have hi':i∈[10]:=hi;simp only [List.mem_cons,List.not_mem_nil,or_false] at hi'
  rcases hi' with rfl
  ·exact ⟨_,_,.tup [],(H++[.cells [sG c H 3,sG c H 4],oN,oM,oA c,oB c]),rfl,.inr ⟨rfl,by simp [hp,hget,b8,b24]⟩,s_0_1_2_3_4_5_6_7_8_9_10_wAB.perm (by decide)⟩
 have s_0_1_2_3_4_5_6_7_9_wAB:AW Γ k base up C [0,1,2,3,4,5,6,7,9] 2 (tR p x2 x3 (.ptr p 3) (gL c) (iG c) (sG c H 3) (.ptr p 3) (gL c) (iG c) (sG c H 4) U (.ptr H.length 0)) (H++[.cells [.sl (H.length+1) 0 0,.sl (H.length+2) 0 0],oN,oM,oA c,oB c]):=by
  refine .step fun i hi => ?_
  have hi':i∈[8]:=hi;simp only [List.mem_cons,List.not_mem_nil,or_false] at hi'
  rcases hi' with rfl
  ·exact ⟨_,_,.agg [sG c H 3,sG c H 4],(H++[.cells [.sl (H.length+1) 0 0,.sl (H.length+2) 0 0],oN,oM,oA c,oB c]),rfl,.inl (by simp [hp,hget,b8,b24]),s_0_1_2_3_4_5_6_7_8_9_wAB.perm (by decide)⟩
 have s_0_1_2_3_4_5_6_9_wA:AW Γ k base up C [0,1,2,3,4,5,6,9] 3 (tR p x2 x3 (.ptr p 3) (gL c) (iG c) (sG c H 3) (.ptr p 3) (gL c) (iG c) U U (.ptr H.length 0)) (H++[.cells [.sl (H.length+1) 0 0,.sl (H.length+2) 0 0],oN,oM,oA c]):=by
  refine .step fun i hi => ?_
  have hi':i∈[7]:=hi;simp only [List.mem_cons,List.not_mem_nil,or_false] at hi'
  rcases hi' with rfl
  ·exact ⟨_,_,sG c H 4,(H++[.cells [.sl (H.length+1) 0 0,.sl (H.length+2) 0 0],oN,oM,oA c,oB c]),rfl,.inl (by simp [hp,hget,b8,b24]),s_0_1_2_3_4_5_6_7_9_wAB.perm (by decide)⟩
 have s_0_1_2_3_4_5_6_7_8_9_10_wBA:AW Γ k base up C [0,1,2,3,4,5,6,7,8,9,10] 0 (tR p x2 x3 (.ptr p 3) (gL c) (iG c) (sG c H 4) (.ptr p 3) (gL c) (iG c) (sG c H 3) (.agg [sG c H 4,sG c H 3]) (.ptr H.length 0)) (H++[.cells [sG c H 4,sG c H 3],oN,oM,oB c,oA c]):=w_s_0_1_2_3_4_5_6_7_8_9_10_wBA hw hb hpl h2 h3 hk hC
 have s_0_1_2_3_4_5_6_7_8_9_wBA:AW Γ k base up C [0,1,2,3,4,5,6,7,8,9] 1 (tR p x2 x3 (.ptr p 3) (gL c) (iG c) (sG c H 4) (.ptr p 3) (gL c) (iG c) (sG c H 3) (.agg [sG c H 4,sG c H 3]) (.ptr H.length 0)) (H++[.cells [.sl (H.length+1) 0 0,.sl (H.length+2) 0 0],oN,oM,oB c,oA c]):=by
  refine .step fun i hi => ?_
  have hi':i∈[10]:=hi;simp only [List.mem_cons,List.not_mem_nil,or_false] at hi'
  rcases hi' with rfl
  ·exact ⟨_,_,.tup [],(H++[.cells [sG c H 4,sG c H 3],oN,oM,oB c,oA c]),rfl,.inr ⟨rfl,by simp [hp,hget,b8,b24]⟩,s_0_1_2_3_4_5_6_7_8_9_10_wBA.perm (by decide)⟩
 have s_0_1_2_3_4_5_6_7_9_wBA:AW Γ k base up C [0,1,2,3,4,5,6,7,9] 2 (tR p x2 x3 (.ptr p 3) (gL c) (iG c) (sG c H 4) (.ptr p 3) (gL c) (iG c) (sG c H 3) U (.ptr H.length 0)) (H++[.cells [.sl (H.length+1) 0 0,.sl (H.length+2) 0 0],oN,oM,oB c,oA c]):=by
  refine .step fun i hi => ?_
  have hi':i∈[8]:=hi;simp only [List.mem_cons,List.not_mem_nil,or_false] at hi'
  rcases hi' with rfl
  ·exact ⟨_,_,.agg [sG c H 4,sG c H 3],(H++[.cells [.sl (H.length+1) 0 0,.sl (H.length+2) 0 0],oN,oM,oB c,oA c]),rfl,.inl (by simp [hp,hget,b8,b24]),s_0_1_2_3_4_5_6_7_8_9_wBA.perm (by decide)⟩
 have s_0_1_2_4_5_6_7_9_wB:AW Γ k base up C [0,1,2,4,5,6,7,9] 3 (tR p x2 x3 (.ptr p 3) (gL c) (iG c) U (.ptr p 3) (gL c) (iG c) (sG c H 3) U (.ptr H.length 0)) (H++[.cells [.sl (H.length+1) 0 0,.sl (H.length+2) 0 0],oN,oM,oB c]):=by
  refine .step fun i hi => ?_
  have hi':i∈[3]:=hi;simp only [List.mem_cons,List.not_mem_nil,or_false] at hi'
  rcases hi' with rfl
  ·exact ⟨_,_,sG c H 4,(H++[.cells [.sl (H.length+1) 0 0,.sl (H.length+2) 0 0],oN,oM,oB c,oA c]),rfl,.inl (by simp [hp,hget,b8,b24]),s_0_1_2_3_4_5_6_7_9_wBA.perm (by decide)⟩
 have s_0_1_2_4_5_6_9_w:AW Γ k base up C [0,1,2,4,5,6,9] 4 (tR p x2 x3 (.ptr p 3) (gL c) (iG c) U (.ptr p 3) (gL c) (iG c) U U (.ptr H.length 0)) (H++[.cells [.sl (H.length+1) 0 0,.sl (H.length+2) 0 0],oN,oM]):=by
  refine .step fun i hi => ?_
  have hi':i∈[3,7]:=hi;simp only [List.mem_cons,List.not_mem_nil,or_false] at hi'
  rcases hi' with rfl | rfl
  ·exact ⟨_,_,sG c H 3,(H++[.cells [.sl (H.length+1) 0 0,.sl (H.length+2) 0 0],oN,oM,oA c]),rfl,.inl (by simp [hp,hget,b8,b24]),s_0_1_2_3_4_5_6_9_wA.perm (by decide)⟩
  ·exact ⟨_,_,sG c H 3,(H++[.cells [.sl (H.length+1) 0 0,.sl (H.length+2) 0 0],oN,oM,oB c]),rfl,.inl (by simp [hp,hget,b8,b24]),s_0_1_2_4_5_6_7_9_wB.perm (by decide)⟩
 have s_0_1_2_4_5_6:AW Γ k base up C [0,1,2,4,5,6] 5 (tR p x2 x3 (.ptr p 3) (gL c) (iG c) U (.ptr p 3) (gL c) (iG c) U U U) H:=by
  refine .step fun i hi => ?_
  have hi':i∈[3,7,9]:=hi;simp only [List.mem_cons,List.not_mem_nil,or_false] at hi'
  rcases hi' with rfl | rfl | rfl
  ·exact ⟨_,_,sG c H 0,(H++[oA c]),rfl,.inl (by simp [hp,hget,b8,b24]),s_0_1_2_3_4_5_6_A.perm (by decide)⟩
  ·exact ⟨_,_,sG c H 0,(H++[oB c]),rfl,.inl (by simp [hp,hget,b8,b24]),s_0_1_2_4_5_6_7_B.perm (by decide)⟩
  ·exact ⟨_,_,.ptr H.length 0,(H++[.cells [.sl (H.length+1) 0 0,.sl (H.length+2) 0 0],oN,oM]),rfl,.inl (by simp [hp,hget,b8,b24]),s_0_1_2_4_5_6_9_w.perm (by decide)⟩
 have s_0_1_2_3_4_5_9_wA:AW Γ k base up C [0,1,2,3,4,5,9] 4 (tR p x2 x3 (.ptr p 3) (gL c) (iG c) (sG c H 3) (.ptr p 3) (gL c) U U U (.ptr H.length 0)) (H++[.cells [.sl (H.length+1) 0 0,.sl (H.length+2) 0 0],oN,oM,oA c]):=by
  refine .step fun i hi => ?_
  have hi':i∈[6]:=hi;simp only [List.mem_cons,List.not_mem_nil,or_false] at hi'
  rcases hi' with rfl
  ·exact ⟨_,_,iG c,(H++[.cells [.sl (H.length+1) 0 0,.sl (H.length+2) 0 0],oN,oM,oA c]),rfl,.inl (by simp [hp,hget,b8,b24]),s_0_1_2_3_4_5_6_9_wA.perm (by decide)⟩
 have s_0_1_2_4_5_9_w:AW Γ k base up C [0,1,2,4,5,9] 5 (tR p x2 x3 (.ptr p 3) (gL c) (iG c) U (.ptr p 3) (gL c) U U U (.ptr H.length 0)) (H++[.cells [.sl (H.length+1) 0 0,.sl (H.length+2) 0 0],oN,oM]):=by
  refine .step fun i hi => ?_
  have hi':i∈[3,6]:=hi;simp only [List.mem_cons,List.not_mem_nil,or_false] at hi'
  rcases hi' with rfl | rfl
  ·exact ⟨_,_,sG c H 3,(H++[.cells [.sl (H.length+1) 0 0,.sl (H.length+2) 0 0],oN,oM,oA c]),rfl,.inl (by simp [hp,hget,b8,b24]),s_0_1_2_3_4_5_9_wA.perm (by decide)⟩
  ·exact ⟨_,_,iG c,(H++[.cells [.sl (H.length+1) 0 0,.sl (H.length+2) 0 0],oN,oM]),rfl,.inl (by simp [hp,hget,b8,b24]),s_0_1_2_4_5_6_9_w.perm (by decide)⟩
 have s_0_1_2_4_5:AW Γ k base up C [0,1,2,4,5] 6 (tR p x2 x3 (.ptr p 3) (gL c) (iG c) U (.ptr p 3) (gL c) U U U U) H:=by
  refine .step fun i hi => ?_
  have hi':i∈[3,6,9]:=hi;simp only [List.mem_cons,List.not_mem_nil,or_false] at hi'
  rcases hi' with rfl | rfl | rfl
  ·exact ⟨_,_,sG c H 0,(H++[oA c]),rfl,.inl (by simp [hp,hget,b8,b24]),s_0_1_2_3_4_5_A.perm (by decide)⟩
  ·exact ⟨_,_,iG c,H,rfl,.inl (by simp [hp,hget,b8,b24]),s_0_1_2_4_5_6.perm (by decide)⟩
  ·exact ⟨_,_,.ptr H.length 0,(H++[.cells [.sl (H.length+1) 0 0,.sl (H.length+2) 0 0],oN,oM]),rfl,.inl (by simp [hp,hget,b8,b24]),s_0_1_2_4_5_9_w.perm (by decide)⟩
 have s_0_1_2_3_4_9_wA:AW Γ k base up C [0,1,2,3,4,9] 5 (tR p x2 x3 (.ptr p 3) (gL c) (iG c) (sG c H 3) (.ptr p 3) U U U U (.ptr H.length 0)) (H++[.cells [.sl (H.length+1) 0 0,.sl (H.length+2) 0 0],oN,oM,oA c]):=by
  refine .step fun i hi => ?_
  have hi':i∈[5]:=hi;simp only [List.mem_cons,List.not_mem_nil,or_false] at hi'
  rcases hi' with rfl
  ·exact ⟨_,_,gL c,(H++[.cells [.sl (H.length+1) 0 0,.sl (H.length+2) 0 0],oN,oM,oA c]),rfl,.inl (by simp [hp,hget,b8,b24]),s_0_1_2_3_4_5_9_wA.perm (by decide)⟩
 have s_0_1_2_4_9_w:AW Γ k base up C [0,1,2,4,9] 6 (tR p x2 x3 (.ptr p 3) (gL c) (iG c) U (.ptr p 3) U U U U (.ptr H.length 0)) (H++[.cells [.sl (H.length+1) 0 0,.sl (H.length+2) 0 0],oN,oM]):=by
  refine .step fun i hi => ?_
  have hi':i∈[3,5]:=hi;simp only [List.mem_cons,List.not_mem_nil,or_false] at hi'
  rcases hi' with rfl | rfl
  ·exact ⟨_,_,sG c H 3,(H++[.cells [.sl (H.length+1) 0 0,.sl (H.length+2) 0 0],oN,oM,oA c]),rfl,.inl (by simp [hp,hget,b8,b24]),s_0_1_2_3_4_9_wA.perm (by decide)⟩
  ·exact ⟨_,_,gL c,(H++[.cells [.sl (H.length+1) 0 0,.sl (H.length+2) 0 0],oN,oM]),rfl,.inl (by simp [hp,hget,b8,b24]),s_0_1_2_4_5_9_w.perm (by decide)⟩
 have s_0_1_2_4:AW Γ k base up C [0,1,2,4] 7 (tR p x2 x3 (.ptr p 3) (gL c) (iG c) U (.ptr p 3) U U U U U) H:=by
  refine .step fun i hi => ?_
  have hi':i∈[3,5,9]:=hi;simp only [List.mem_cons,List.not_mem_nil,or_false] at hi'
  rcases hi' with rfl | rfl | rfl
  ·exact ⟨_,_,sG c H 0,(H++[oA c]),rfl,.inl (by simp [hp,hget,b8,b24]),s_0_1_2_3_4_A.perm (by decide)⟩
  ·exact ⟨_,_,gL c,H,rfl,.inl (by simp [hp,hget,b8,b24]),s_0_1_2_4_5.perm (by decide)⟩
  ·exact ⟨_,_,.ptr H.length 0,(H++[.cells [.sl (H.length+1) 0 0,.sl (H.length+2) 0 0],oN,oM]),rfl,.inl (by simp [hp,hget,b8,b24]),s_0_1_2_4_9_w.perm (by decide)⟩
 have s_0_1_2_3_9_wA:AW Γ k base up C [0,1,2,3,9] 6 (tR p x2 x3 (.ptr p 3) (gL c) (iG c) (sG c H 3) U U U U U (.ptr H.length 0)) (H++[.cells [.sl (H.length+1) 0 0,.sl (H.length+2) 0 0],oN,oM,oA c]):=by
  refine .step fun i hi => ?_
  have hi':i∈[4]:=hi;simp only [List.mem_cons,List.not_mem_nil,or_false] at hi'
  rcases hi' with rfl
  ·exact ⟨_,_,.ptr p 3,(H++[.cells [.sl (H.length+1) 0 0,.sl (H.length+2) 0 0],oN,oM,oA c]),rfl,.inl (by simp [hp,hget,b8,b24]),s_0_1_2_3_4_9_wA.perm (by decide)⟩
 have s_0_1_2_9_w:AW Γ k base up C [0,1,2,9] 7 (tR p x2 x3 (.ptr p 3) (gL c) (iG c) U U U U U U (.ptr H.length 0)) (H++[.cells [.sl (H.length+1) 0 0,.sl (H.length+2) 0 0],oN,oM]):=by
  refine .step fun i hi => ?_
  have hi':i∈[3,4]:=hi;simp only [List.mem_cons,List.not_mem_nil,or_false] at hi'
  rcases hi' with rfl | rfl
  ·exact ⟨_,_,sG c H 3,(H++[.cells [.sl (H.length+1) 0 0,.sl (H.length+2) 0 0],oN,oM,oA c]),rfl,.inl (by simp [hp,hget,b8,b24]),s_0_1_2_3_9_wA.perm (by decide)⟩
  ·exact ⟨_,_,.ptr p 3,(H++[.cells [.sl (H.length+1) 0 0,.sl (H.length+2) 0 0],oN,oM]),rfl,.inl (by simp [hp,hget,b8,b24]),s_0_1_2_4_9_w.perm (by decide)⟩
 have s_0_1_2:AW Γ k base up C [0,1,2] 8 (tR p x2 x3 (.ptr p 3) (gL c) (iG c) U U U U U U U) H:=by
  refine .step fun i hi => ?_
  have hi':i∈[3,4,9]:=hi;simp only [List.mem_cons,List.not_mem_nil,or_false] at hi'
  rcases hi' with rfl | rfl | rfl
  ·exact ⟨_,_,sG c H 0,(H++[oA c]),rfl,.inl (by simp [hp,hget,b8,b24]),s_0_1_2_3_A.perm (by decide)⟩
  ·exact ⟨_,_,.ptr p 3,H,rfl,.inl (by simp [hp,hget,b8,b24]),s_0_1_2_4.perm (by decide)⟩
  ·exact ⟨_,_,.ptr H.length 0,(H++[.cells [.sl (H.length+1) 0 0,.sl (H.length+2) 0 0],oN,oM]),rfl,.inl (by simp [hp,hget,b8,b24]),s_0_1_2_9_w.perm (by decide)⟩
 have s_0_1_4_5_6_7_9_Bw:AW Γ k base up C [0,1,4,5,6,7,9] 4 (tR p x2 x3 (.ptr p 3) (gL c) U U (.ptr p 3) (gL c) (iG c) (sG c H 0) U (.ptr (H.length+1) 0)) (H++[oB c,.cells [.sl (H.length+2) 0 0,.sl (H.length+3) 0 0],oN,oM]):=by
  refine .step fun i hi => ?_
  have hi':i∈[2]:=hi;simp only [List.mem_cons,List.not_mem_nil,or_false] at hi'
  rcases hi' with rfl
  ·exact ⟨_,_,iG c,(H++[oB c,.cells [.sl (H.length+2) 0 0,.sl (H.length+3) 0 0],oN,oM]),rfl,.inl (by simp [hp,hget,b8,b24]),s_0_1_2_4_5_6_7_9_Bw.perm (by decide)⟩
 have s_0_1_4_5_6_7_B:AW Γ k base up C [0,1,4,5,6,7] 5 (tR p x2 x3 (.ptr p 3) (gL c) U U (.ptr p 3) (gL c) (iG c) (sG c H 0) U U) (H++[oB c]):=by
  refine .step fun i hi => ?_
  have hi':i∈[2,9]:=hi;simp only [List.mem_cons,List.not_mem_nil,or_false] at hi'
  rcases hi' with rfl | rfl
  ·exact ⟨_,_,iG c,(H++[oB c]),rfl,.inl (by simp [hp,hget,b8,b24]),s_0_1_2_4_5_6_7_B.perm (by decide)⟩
  ·exact ⟨_,_,.ptr (H.length+1) 0,(H++[oB c,.cells [.sl (H.length+2) 0 0,.sl (H.length+3) 0 0],oN,oM]),rfl,.inl (by simp [hp,hget,b8,b24]),s_0_1_4_5_6_7_9_Bw.perm (by decide)⟩
 have s_0_1_4_5_6_7_9_wB:AW Γ k base up C [0,1,4,5,6,7,9] 4 (tR p x2 x3 (.ptr p 3) (gL c) U U (.ptr p 3) (gL c) (iG c) (sG c H 3) U (.ptr H.length 0)) (H++[.cells [.sl (H.length+1) 0 0,.sl (H.length+2) 0 0],oN,oM,oB c]):=by
  refine .step fun i hi => ?_
  have hi':i∈[2]:=hi;simp only [List.mem_cons,List.not_mem_nil,or_false] at hi'
  rcases hi' with rfl
  ·exact ⟨_,_,iG c,(H++[.cells [.sl (H.length+1) 0 0,.sl (H.length+2) 0 0],oN,oM,oB c]),rfl,.inl (by simp [hp,hget,b8,b24]),s_0_1_2_4_5_6_7_9_wB.perm (by decide)⟩
 have s_0_1_4_5_6_9_w:AW Γ k base up C [0,1,4,5,6,9] 5 (tR p x2 x3 (.ptr p 3) (gL c) U U (.ptr p 3) (gL c) (iG c) U U (.ptr H.length 0)) (H++[.cells [.sl (H.length+1) 0 0,.sl (H.length+2) 0 0],oN,oM]):=by
  refine .step fun i hi => ?_
  have hi':i∈[2,7]:=hi;simp only [List.mem_cons,List.not_mem_nil,or_false] at hi'
  rcases hi' with rfl | rfl
  ·exact ⟨_,_,iG c,(H++[.cells [.sl (H.length+1) 0 0,.sl (H.length+2) 0 0],oN,oM]),rfl,.inl (by simp [hp,hget,b8,b24]),s_0_1_2_4_5_6_9_w.perm (by decide)⟩
  ·exact ⟨_,_,sG c H 3,(H++[.cells [.sl (H.length+1) 0 0,.sl (H.length+2) 0 0],oN,oM,oB c]),rfl,.inl (by simp [hp,hget,b8,b24]),s_0_1_4_5_6_7_9_wB.perm (by decide)⟩
 have s_0_1_4_5_6:AW Γ k base up C [0,1,4,5,6] 6 (tR p x2 x3 (.ptr p 3) (gL c) U U (.ptr p 3) (gL c) (iG c) U U U) H:=by
  refine .step fun i hi => ?_
  have hi':i∈[2,7,9]:=hi;simp only [List.mem_cons,List.not_mem_nil,or_false] at hi'
  rcases hi' with rfl | rfl | rfl
  ·exact ⟨_,_,iG c,H,rfl,.inl (by simp [hp,hget,b8,b24]),s_0_1_2_4_5_6.perm (by decide)⟩
  ·exact ⟨_,_,sG c H 0,(H++[oB c]),rfl,.inl (by simp [hp,hget,b8,b24]),s_0_1_4_5_6_7_B.perm (by decide)⟩
  ·exact ⟨_,_,.ptr H.length 0,(H++[.cells [.sl (H.length+1) 0 0,.sl (H.length+2) 0 0],oN,oM]),rfl,.inl (by simp [hp,hget,b8,b24]),s_0_1_4_5_6_9_w.perm (by decide)⟩
 have s_0_1_4_5_9_w:AW Γ k base up C [0,1,4,5,9] 6 (tR p x2 x3 (.ptr p 3) (gL c) U U (.ptr p 3) (gL c) U U U (.ptr H.length 0)) (H++[.cells [.sl (H.length+1) 0 0,.sl (H.length+2) 0 0],oN,oM]):=by
  refine .step fun i hi => ?_
  have hi':i∈[2,6]:=hi;simp only [List.mem_cons,List.not_mem_nil,or_false] at hi'
  rcases hi' with rfl | rfl
  ·exact ⟨_,_,iG c,(H++[.cells [.sl (H.length+1) 0 0,.sl (H.length+2) 0 0],oN,oM]),rfl,.inl (by simp [hp,hget,b8,b24]),s_0_1_2_4_5_9_w.perm (by decide)⟩
  ·exact ⟨_,_,iG c,(H++[.cells [.sl (H.length+1) 0 0,.sl (H.length+2) 0 0],oN,oM]),rfl,.inl (by simp [hp,hget,b8,b24]),s_0_1_4_5_6_9_w.perm (by decide)⟩
 have s_0_1_4_5:AW Γ k base up C [0,1,4,5] 7 (tR p x2 x3 (.ptr p 3) (gL c) U U (.ptr p 3) (gL c) U U U U) H:=by
  refine .step fun i hi => ?_
  have hi':i∈[2,6,9]:=hi;simp only [List.mem_cons,List.not_mem_nil,or_false] at hi'
  rcases hi' with rfl | rfl | rfl
  ·exact ⟨_,_,iG c,H,rfl,.inl (by simp [hp,hget,b8,b24]),s_0_1_2_4_5.perm (by decide)⟩
  ·exact ⟨_,_,iG c,H,rfl,.inl (by simp [hp,hget,b8,b24]),s_0_1_4_5_6.perm (by decide)⟩
  ·exact ⟨_,_,.ptr H.length 0,(H++[.cells [.sl (H.length+1) 0 0,.sl (H.length+2) 0 0],oN,oM]),rfl,.inl (by simp [hp,hget,b8,b24]),s_0_1_4_5_9_w.perm (by decide)⟩
 have s_0_1_4_9_w:AW Γ k base up C [0,1,4,9] 7 (tR p x2 x3 (.ptr p 3) (gL c) U U (.ptr p 3) U U U U (.ptr H.length 0)) (H++[.cells [.sl (H.length+1) 0 0,.sl (H.length+2) 0 0],oN,oM]):=by
  refine .step fun i hi => ?_
  have hi':i∈[2,5]:=hi;simp only [List.mem_cons,List.not_mem_nil,or_false] at hi'
  rcases hi' with rfl | rfl
  ·exact ⟨_,_,iG c,(H++[.cells [.sl (H.length+1) 0 0,.sl (H.length+2) 0 0],oN,oM]),rfl,.inl (by simp [hp,hget,b8,b24]),s_0_1_2_4_9_w.perm (by decide)⟩
  ·exact ⟨_,_,gL c,(H++[.cells [.sl (H.length+1) 0 0,.sl (H.length+2) 0 0],oN,oM]),rfl,.inl (by simp [hp,hget,b8,b24]),s_0_1_4_5_9_w.perm (by decide)⟩
 have s_0_1_4:AW Γ k base up C [0,1,4] 8 (tR p x2 x3 (.ptr p 3) (gL c) U U (.ptr p 3) U U U U U) H:=by
  refine .step fun i hi => ?_
  have hi':i∈[2,5,9]:=hi;simp only [List.mem_cons,List.not_mem_nil,or_false] at hi'
  rcases hi' with rfl | rfl | rfl
  ·exact ⟨_,_,iG c,H,rfl,.inl (by simp [hp,hget,b8,b24]),s_0_1_2_4.perm (by decide)⟩
  ·exact ⟨_,_,gL c,H,rfl,.inl (by simp [hp,hget,b8,b24]),s_0_1_4_5.perm (by decide)⟩
  ·exact ⟨_,_,.ptr H.length 0,(H++[.cells [.sl (H.length+1) 0 0,.sl (H.length+2) 0 0],oN,oM]),rfl,.inl (by simp [hp,hget,b8,b24]),s_0_1_4_9_w.perm (by decide)⟩
 have s_0_1_9_w:AW Γ k base up C [0,1,9] 8 (tR p x2 x3 (.ptr p 3) (gL c) U U U U U U U (.ptr H.length 0)) (H++[.cells [.sl (H.length+1) 0 0,.sl (H.length+2) 0 0],oN,oM]):=by
  refine .step fun i hi => ?_
  have hi':i∈[2,4]:=hi;simp only [List.mem_cons,List.not_mem_nil,or_false] at hi'
  rcases hi' with rfl | rfl
  ·exact ⟨_,_,iG c,(H++[.cells [.sl (H.length+1) 0 0,.sl (H.length+2) 0 0],oN,oM]),rfl,.inl (by simp [hp,hget,b8,b24]),s_0_1_2_9_w.perm (by decide)⟩
  ·exact ⟨_,_,.ptr p 3,(H++[.cells [.sl (H.length+1) 0 0,.sl (H.length+2) 0 0],oN,oM]),rfl,.inl (by simp [hp,hget,b8,b24]),s_0_1_4_9_w.perm (by decide)⟩
 have s_0_1:AW Γ k base up C [0,1] 9 (tR p x2 x3 (.ptr p 3) (gL c) U U U U U U U U) H:=by
  refine .step fun i hi => ?_
  have hi':i∈[2,4,9]:=hi;simp only [List.mem_cons,List.not_mem_nil,or_false] at hi'
  rcases hi' with rfl | rfl | rfl
  ·exact ⟨_,_,iG c,H,rfl,.inl (by simp [hp,hget,b8,b24]),s_0_1_2.perm (by decide)⟩
  ·exact ⟨_,_,.ptr p 3,H,rfl,.inl (by simp [hp,hget,b8,b24]),s_0_1_4.perm (by decide)⟩
  ·exact ⟨_,_,.ptr H.length 0,(H++[.cells [.sl (H.length+1) 0 0,.sl (H.length+2) 0 0],oN,oM]),rfl,.inl (by simp [hp,hget,b8,b24]),s_0_1_9_w.perm (by decide)⟩
 have s_0_4_5_6_7_9_Bw:AW Γ k base up C [0,4,5,6,7,9] 5 (tR p x2 x3 (.ptr p 3) U U U (.ptr p 3) (gL c) (iG c) (sG c H 0) U (.ptr (H.length+1) 0)) (H++[oB c,.cells [.sl (H.length+2) 0 0,.sl (H.length+3) 0 0],oN,oM]):=by
  refine .step fun i hi => ?_
  have hi':i∈[1]:=hi;simp only [List.mem_cons,List.not_mem_nil,or_false] at hi'
  rcases hi' with rfl
  ·exact ⟨_,_,gL c,(H++[oB c,.cells [.sl (H.length+2) 0 0,.sl (H.length+3) 0 0],oN,oM]),rfl,.inl (by simp [hp,hget,b8,b24]),s_0_1_4_5_6_7_9_Bw.perm (by decide)⟩
 have s_0_4_5_6_7_B:AW Γ k base up C [0,4,5,6,7] 6 (tR p x2 x3 (.ptr p 3) U U U (.ptr p 3) (gL c) (iG c) (sG c H 0) U U) (H++[oB c]):=by
  refine .step fun i hi => ?_
  have hi':i∈[1,9]:=hi;simp only [List.mem_cons,List.not_mem_nil,or_false] at hi'
  rcases hi' with rfl | rfl
  ·exact ⟨_,_,gL c,(H++[oB c]),rfl,.inl (by simp [hp,hget,b8,b24]),s_0_1_4_5_6_7_B.perm (by decide)⟩
  ·exact ⟨_,_,.ptr (H.length+1) 0,(H++[oB c,.cells [.sl (H.length+2) 0 0,.sl (H.length+3) 0 0],oN,oM]),rfl,.inl (by simp [hp,hget,b8,b24]),s_0_4_5_6_7_9_Bw.perm (by decide)⟩
 have s_0_4_5_6_7_9_wB:AW Γ k base up C [0,4,5,6,7,9] 5 (tR p x2 x3 (.ptr p 3) U U U (.ptr p 3) (gL c) (iG c) (sG c H 3) U (.ptr H.length 0)) (H++[.cells [.sl (H.length+1) 0 0,.sl (H.length+2) 0 0],oN,oM,oB c]):=by
  refine .step fun i hi => ?_
  have hi':i∈[1]:=hi;simp only [List.mem_cons,List.not_mem_nil,or_false] at hi'
  rcases hi' with rfl
  ·exact ⟨_,_,gL c,(H++[.cells [.sl (H.length+1) 0 0,.sl (H.length+2) 0 0],oN,oM,oB c]),rfl,.inl (by simp [hp,hget,b8,b24]),s_0_1_4_5_6_7_9_wB.perm (by decide)⟩
 have s_0_4_5_6_9_w:AW Γ k base up C [0,4,5,6,9] 6 (tR p x2 x3 (.ptr p 3) U U U (.ptr p 3) (gL c) (iG c) U U (.ptr H.length 0)) (H++[.cells [.sl (H.length+1) 0 0,.sl (H.length+2) 0 0],oN,oM]):=by
  refine .step fun i hi => ?_
  have hi':i∈[1,7]:=hi;simp only [List.mem_cons,List.not_mem_nil,or_false] at hi'
  rcases hi' with rfl | rfl
  ·exact ⟨_,_,gL c,(H++[.cells [.sl (H.length+1) 0 0,.sl (H.length+2) 0 0],oN,oM]),rfl,.inl (by simp [hp,hget,b8,b24]),s_0_1_4_5_6_9_w.perm (by decide)⟩
  ·exact ⟨_,_,sG c H 3,(H++[.cells [.sl (H.length+1) 0 0,.sl (H.length+2) 0 0],oN,oM,oB c]),rfl,.inl (by simp [hp,hget,b8,b24]),s_0_4_5_6_7_9_wB.perm (by decide)⟩
 have s_0_4_5_6:AW Γ k base up C [0,4,5,6] 7 (tR p x2 x3 (.ptr p 3) U U U (.ptr p 3) (gL c) (iG c) U U U) H:=by
  refine .step fun i hi => ?_
  have hi':i∈[1,7,9]:=hi;simp only [List.mem_cons,List.not_mem_nil,or_false] at hi'
  rcases hi' with rfl | rfl | rfl
  ·exact ⟨_,_,gL c,H,rfl,.inl (by simp [hp,hget,b8,b24]),s_0_1_4_5_6.perm (by decide)⟩
  ·exact ⟨_,_,sG c H 0,(H++[oB c]),rfl,.inl (by simp [hp,hget,b8,b24]),s_0_4_5_6_7_B.perm (by decide)⟩
  ·exact ⟨_,_,.ptr H.length 0,(H++[.cells [.sl (H.length+1) 0 0,.sl (H.length+2) 0 0],oN,oM]),rfl,.inl (by simp [hp,hget,b8,b24]),s_0_4_5_6_9_w.perm (by decide)⟩
 have s_0_4_5_9_w:AW Γ k base up C [0,4,5,9] 7 (tR p x2 x3 (.ptr p 3) U U U (.ptr p 3) (gL c) U U U (.ptr H.length 0)) (H++[.cells [.sl (H.length+1) 0 0,.sl (H.length+2) 0 0],oN,oM]):=by
  refine .step fun i hi => ?_
  have hi':i∈[1,6]:=hi;simp only [List.mem_cons,List.not_mem_nil,or_false] at hi'
  rcases hi' with rfl | rfl
  ·exact ⟨_,_,gL c,(H++[.cells [.sl (H.length+1) 0 0,.sl (H.length+2) 0 0],oN,oM]),rfl,.inl (by simp [hp,hget,b8,b24]),s_0_1_4_5_9_w.perm (by decide)⟩
  ·exact ⟨_,_,iG c,(H++[.cells [.sl (H.length+1) 0 0,.sl (H.length+2) 0 0],oN,oM]),rfl,.inl (by simp [hp,hget,b8,b24]),s_0_4_5_6_9_w.perm (by decide)⟩
 have s_0_4_5:AW Γ k base up C [0,4,5] 8 (tR p x2 x3 (.ptr p 3) U U U (.ptr p 3) (gL c) U U U U) H:=by
  refine .step fun i hi => ?_
  have hi':i∈[1,6,9]:=hi;simp only [List.mem_cons,List.not_mem_nil,or_false] at hi'
  rcases hi' with rfl | rfl | rfl
  ·exact ⟨_,_,gL c,H,rfl,.inl (by simp [hp,hget,b8,b24]),s_0_1_4_5.perm (by decide)⟩
  ·exact ⟨_,_,iG c,H,rfl,.inl (by simp [hp,hget,b8,b24]),s_0_4_5_6.perm (by decide)⟩
  ·exact ⟨_,_,.ptr H.length 0,(H++[.cells [.sl (H.length+1) 0 0,.sl (H.length+2) 0 0],oN,oM]),rfl,.inl (by simp [hp,hget,b8,b24]),s_0_4_5_9_w.perm (by decide)⟩
 have s_0_4_9_w:AW Γ k base up C [0,4,9] 8 (tR p x2 x3 (.ptr p 3) U U U (.ptr p 3) U U U U (.ptr H.length 0)) (H++[.cells [.sl (H.length+1) 0 0,.sl (H.length+2) 0 0],oN,oM]):=by
  refine .step fun i hi => ?_
  have hi':i∈[1,5]:=hi;simp only [List.mem_cons,List.not_mem_nil,or_false] at hi'
  rcases hi' with rfl | rfl
  ·exact ⟨_,_,gL c,(H++[.cells [.sl (H.length+1) 0 0,.sl (H.length+2) 0 0],oN,oM]),rfl,.inl (by simp [hp,hget,b8,b24]),s_0_1_4_9_w.perm (by decide)⟩
  ·exact ⟨_,_,gL c,(H++[.cells [.sl (H.length+1) 0 0,.sl (H.length+2) 0 0],oN,oM]),rfl,.inl (by simp [hp,hget,b8,b24]),s_0_4_5_9_w.perm (by decide)⟩
 have s_0_4:AW Γ k base up C [0,4] 9 (tR p x2 x3 (.ptr p 3) U U U (.ptr p 3) U U U U U) H:=by
  refine .step fun i hi => ?_
  have hi':i∈[1,5,9]:=hi;simp only [List.mem_cons,List.not_mem_nil,or_false] at hi'
  rcases hi' with rfl | rfl | rfl
  ·exact ⟨_,_,gL c,H,rfl,.inl (by simp [hp,hget,b8,b24]),s_0_1_4.perm (by decide)⟩
  ·exact ⟨_,_,gL c,H,rfl,.inl (by simp [hp,hget,b8,b24]),s_0_4_5.perm (by decide)⟩
  ·exact ⟨_,_,.ptr H.length 0,(H++[.cells [.sl (H.length+1) 0 0,.sl (H.length+2) 0 0],oN,oM]),rfl,.inl (by simp [hp,hget,b8,b24]),s_0_4_9_w.perm (by decide)⟩
 have s_0_9_w:AW Γ k base up C [0,9] 9 (tR p x2 x3 (.ptr p 3) U U U U U U U U (.ptr H.length 0)) (H++[.cells [.sl (H.length+1) 0 0,.sl (H.length+2) 0 0],oN,oM]):=by
  refine .step fun i hi => ?_
  have hi':i∈[1,4]:=hi;simp only [List.mem_cons,List.not_mem_nil,or_false] at hi'
  rcases hi' with rfl | rfl
  ·exact ⟨_,_,gL c,(H++[.cells [.sl (H.length+1) 0 0,.sl (H.length+2) 0 0],oN,oM]),rfl,.inl (by simp [hp,hget,b8,b24]),s_0_1_9_w.perm (by decide)⟩
  ·exact ⟨_,_,.ptr p 3,(H++[.cells [.sl (H.length+1) 0 0,.sl (H.length+2) 0 0],oN,oM]),rfl,.inl (by simp [hp,hget,b8,b24]),s_0_4_9_w.perm (by decide)⟩
 have s_0:AW Γ k base up C [0] 10 (tR p x2 x3 (.ptr p 3) U U U U U U U U U) H:=by
  refine .step fun i hi => ?_
  have hi':i∈[1,4,9]:=hi;simp only [List.mem_cons,List.not_mem_nil,or_false] at hi'
  rcases hi' with rfl | rfl | rfl
  ·exact ⟨_,_,gL c,H,rfl,.inl (by simp [hp,hget,b8,b24]),s_0_1.perm (by decide)⟩
  ·exact ⟨_,_,.ptr p 3,H,rfl,.inl (by simp [hp,hget,b8,b24]),s_0_4.perm (by decide)⟩
  ·exact ⟨_,_,.ptr H.length 0,(H++[.cells [.sl (H.length+1) 0 0,.sl (H.length+2) 0 0],oN,oM]),rfl,.inl (by simp [hp,hget,b8,b24]),s_0_9_w.perm (by decide)⟩
 have s_4_5_6_7_9_Bw:AW Γ k base up C [4,5,6,7,9] 6 (tR p x2 x3 U U U U (.ptr p 3) (gL c) (iG c) (sG c H 0) U (.ptr (H.length+1) 0)) (H++[oB c,.cells [.sl (H.length+2) 0 0,.sl (H.length+3) 0 0],oN,oM]):=by
  refine .step fun i hi => ?_
  have hi':i∈[0]:=hi;simp only [List.mem_cons,List.not_mem_nil,or_false] at hi'
  rcases hi' with rfl
  ·exact ⟨_,_,.ptr p 3,(H++[oB c,.cells [.sl (H.length+2) 0 0,.sl (H.length+3) 0 0],oN,oM]),rfl,.inl (by simp [hp,hget,b8,b24]),s_0_4_5_6_7_9_Bw.perm (by decide)⟩
 have s_4_5_6_7_B:AW Γ k base up C [4,5,6,7] 7 (tR p x2 x3 U U U U (.ptr p 3) (gL c) (iG c) (sG c H 0) U U) (H++[oB c]):=by
  refine .step fun i hi => ?_
  have hi':i∈[0,9]:=hi;simp only [List.mem_cons,List.not_mem_nil,or_false] at hi'
  rcases hi' with rfl | rfl
  ·exact ⟨_,_,.ptr p 3,(H++[oB c]),rfl,.inl (by simp [hp,hget,b8,b24]),s_0_4_5_6_7_B.perm (by decide)⟩
  ·exact ⟨_,_,.ptr (H.length+1) 0,(H++[oB c,.cells [.sl (H.length+2) 0 0,.sl (H.length+3) 0 0],oN,oM]),rfl,.inl (by simp [hp,hget,b8,b24]),s_4_5_6_7_9_Bw.perm (by decide)⟩
 have s_4_5_6_7_9_wB:AW Γ k base up C [4,5,6,7,9] 6 (tR p x2 x3 U U U U (.ptr p 3) (gL c) (iG c) (sG c H 3) U (.ptr H.length 0)) (H++[.cells [.sl (H.length+1) 0 0,.sl (H.length+2) 0 0],oN,oM,oB c]):=by
  refine .step fun i hi => ?_
  have hi':i∈[0]:=hi;simp only [List.mem_cons,List.not_mem_nil,or_false] at hi'
  rcases hi' with rfl
  ·exact ⟨_,_,.ptr p 3,(H++[.cells [.sl (H.length+1) 0 0,.sl (H.length+2) 0 0],oN,oM,oB c]),rfl,.inl (by simp [hp,hget,b8,b24]),s_0_4_5_6_7_9_wB.perm (by decide)⟩
 have s_4_5_6_9_w:AW Γ k base up C [4,5,6,9] 7 (tR p x2 x3 U U U U (.ptr p 3) (gL c) (iG c) U U (.ptr H.length 0)) (H++[.cells [.sl (H.length+1) 0 0,.sl (H.length+2) 0 0],oN,oM]):=by
  refine .step fun i hi => ?_
  have hi':i∈[0,7]:=hi;simp only [List.mem_cons,List.not_mem_nil,or_false] at hi'
  rcases hi' with rfl | rfl
  ·exact ⟨_,_,.ptr p 3,(H++[.cells [.sl (H.length+1) 0 0,.sl (H.length+2) 0 0],oN,oM]),rfl,.inl (by simp [hp,hget,b8,b24]),s_0_4_5_6_9_w.perm (by decide)⟩
  ·exact ⟨_,_,sG c H 3,(H++[.cells [.sl (H.length+1) 0 0,.sl (H.length+2) 0 0],oN,oM,oB c]),rfl,.inl (by simp [hp,hget,b8,b24]),s_4_5_6_7_9_wB.perm (by decide)⟩
 have s_4_5_6:AW Γ k base up C [4,5,6] 8 (tR p x2 x3 U U U U (.ptr p 3) (gL c) (iG c) U U U) H:=by
  refine .step fun i hi => ?_
  have hi':i∈[0,7,9]:=hi;simp only [List.mem_cons,List.not_mem_nil,or_false] at hi'
  rcases hi' with rfl | rfl | rfl
  ·exact ⟨_,_,.ptr p 3,H,rfl,.inl (by simp [hp,hget,b8,b24]),s_0_4_5_6.perm (by decide)⟩
  ·exact ⟨_,_,sG c H 0,(H++[oB c]),rfl,.inl (by simp [hp,hget,b8,b24]),s_4_5_6_7_B.perm (by decide)⟩
  ·exact ⟨_,_,.ptr H.length 0,(H++[.cells [.sl (H.length+1) 0 0,.sl (H.length+2) 0 0],oN,oM]),rfl,.inl (by simp [hp,hget,b8,b24]),s_4_5_6_9_w.perm (by decide)⟩
 have s_4_5_9_w:AW Γ k base up C [4,5,9] 8 (tR p x2 x3 U U U U (.ptr p 3) (gL c) U U U (.ptr H.length 0)) (H++[.cells [.sl (H.length+1) 0 0,.sl (H.length+2) 0 0],oN,oM]):=by
  refine .step fun i hi => ?_
  have hi':i∈[0,6]:=hi;simp only [List.mem_cons,List.not_mem_nil,or_false] at hi'
  rcases hi' with rfl | rfl
  ·exact ⟨_,_,.ptr p 3,(H++[.cells [.sl (H.length+1) 0 0,.sl (H.length+2) 0 0],oN,oM]),rfl,.inl (by simp [hp,hget,b8,b24]),s_0_4_5_9_w.perm (by decide)⟩
  ·exact ⟨_,_,iG c,(H++[.cells [.sl (H.length+1) 0 0,.sl (H.length+2) 0 0],oN,oM]),rfl,.inl (by simp [hp,hget,b8,b24]),s_4_5_6_9_w.perm (by decide)⟩
 have s_4_5:AW Γ k base up C [4,5] 9 (tR p x2 x3 U U U U (.ptr p 3) (gL c) U U U U) H:=by
  refine .step fun i hi => ?_
  have hi':i∈[0,6,9]:=hi;simp only [List.mem_cons,List.not_mem_nil,or_false] at hi'
  rcases hi' with rfl | rfl | rfl
  ·exact ⟨_,_,.ptr p 3,H,rfl,.inl (by simp [hp,hget,b8,b24]),s_0_4_5.perm (by decide)⟩
  ·exact ⟨_,_,iG c,H,rfl,.inl (by simp [hp,hget,b8,b24]),s_4_5_6.perm (by decide)⟩
  ·exact ⟨_,_,.ptr H.length 0,(H++[.cells [.sl (H.length+1) 0 0,.sl (H.length+2) 0 0],oN,oM]),rfl,.inl (by simp [hp,hget,b8,b24]),s_4_5_9_w.perm (by decide)⟩
 have s_4_9_w:AW Γ k base up C [4,9] 9 (tR p x2 x3 U U U U (.ptr p 3) U U U U (.ptr H.length 0)) (H++[.cells [.sl (H.length+1) 0 0,.sl (H.length+2) 0 0],oN,oM]):=by
  refine .step fun i hi => ?_
  have hi':i∈[0,5]:=hi;simp only [List.mem_cons,List.not_mem_nil,or_false] at hi'
  rcases hi' with rfl | rfl
  ·exact ⟨_,_,.ptr p 3,(H++[.cells [.sl (H.length+1) 0 0,.sl (H.length+2) 0 0],oN,oM]),rfl,.inl (by simp [hp,hget,b8,b24]),s_0_4_9_w.perm (by decide)⟩
  ·exact ⟨_,_,gL c,(H++[.cells [.sl (H.length+1) 0 0,.sl (H.length+2) 0 0],oN,oM]),rfl,.inl (by simp [hp,hget,b8,b24]),s_4_5_9_w.perm (by decide)⟩
 have s_4:AW Γ k base up C [4] 10 (tR p x2 x3 U U U U (.ptr p 3) U U U U U) H:=by
  refine .step fun i hi => ?_
  have hi':i∈[0,5,9]:=hi;simp only [List.mem_cons,List.not_mem_nil,or_false] at hi'
  rcases hi' with rfl | rfl | rfl
  ·exact ⟨_,_,.ptr p 3,H,rfl,.inl (by simp [hp,hget,b8,b24]),s_0_4.perm (by decide)⟩
  ·exact ⟨_,_,gL c,H,rfl,.inl (by simp [hp,hget,b8,b24]),s_4_5.perm (by decide)⟩
  ·exact ⟨_,_,.ptr H.length 0,(H++[.cells [.sl (H.length+1) 0 0,.sl (H.length+2) 0 0],oN,oM]),rfl,.inl (by simp [hp,hget,b8,b24]),s_4_9_w.perm (by decide)⟩
 have s_9_w:AW Γ k base up C [9] 10 (tR p x2 x3 U U U U U U U U U (.ptr H.length 0)) (H++[.cells [.sl (H.length+1) 0 0,.sl (H.length+2) 0 0],oN,oM]):=by
  refine .step fun i hi => ?_
  have hi':i∈[0,4]:=hi;simp only [List.mem_cons,List.not_mem_nil,or_false] at hi'
  rcases hi' with rfl | rfl
  ·exact ⟨_,_,.ptr p 3,(H++[.cells [.sl (H.length+1) 0 0,.sl (H.length+2) 0 0],oN,oM]),rfl,.inl (by simp [hp,hget,b8,b24]),s_0_9_w.perm (by decide)⟩
  ·exact ⟨_,_,.ptr p 3,(H++[.cells [.sl (H.length+1) 0 0,.sl (H.length+2) 0 0],oN,oM]),rfl,.inl (by simp [hp,hget,b8,b24]),s_4_9_w.perm (by decide)⟩
 have s_:AW Γ k base up C [] 11 (tR p x2 x3 U U U U U U U U U U) H:=by
  refine .step fun i hi => ?_
  have hi':i∈[0,4,9]:=hi;simp only [List.mem_cons,List.not_mem_nil,or_false] at hi'
  rcases hi' with rfl | rfl | rfl
  ·exact ⟨_,_,.ptr p 3,H,rfl,.inl (by simp [hp,hget,b8,b24]),s_0.perm (by decide)⟩
  ·exact ⟨_,_,.ptr p 3,H,rfl,.inl (by simp [hp,hget,b8,b24]),s_4.perm (by decide)⟩
  ·exact ⟨_,_,.ptr H.length 0,(H++[.cells [.sl (H.length+1) 0 0,.sl (H.length+2) 0 0],oN,oM]),rfl,.inl (by simp [hp,hget,b8,b24]),s_9_w.perm (by decide)⟩
 exact AnyO.all s_
end
abbrev iN (k:Nat):AV:=.int .i64 k
abbrev eK (k:Nat):AV×AV:=(.int .i64 k,.bool true)
def rowI (l:List Nat):Ob:=.row 1 t_int (l.map iN) none true false
def mapI (l:List Nat):Ob:=.map (l.map eK) true
def needE (n N m:Nat):List AV:=(List.range m).map (fun i=>AV.mp (n+(3+(N+i))))++List.replicate (N - m) .nilm
def byE (n:Nat) (b:List (List Nat)):List AV:=b.mapIdx fun j l=>AV.sl (n+(3+j)) 0 l.length
def hF (n N m:Nat) (b:List (List Nat)):List Ob:=[.cells [.sl (n+1) 0 N,.sl (n+2) 0 N],.row 1 t_map_int_bool_2 (needE n N m) none (decide (m=0)) false,.row 1 t_int_2 (byE n b) none (decide (b.length=0)) false]
def hQ (H:List Ob) (nd b:List (List Nat)):List Ob:=H++(hF H.length b.length nd.length b++(b.map rowI++nd.map mapI))
section
variable {H : List Ob} {nd b : List (List Nat)}
theorem hQ_len:(hQ H nd b).length=H.length+(3+(b.length+nd.length)):=by simp [hQ,hF]; omega
theorem hQ_lo {i:Nat} (h:i<H.length):(hQ H nd b)[i]? = H[i]? := by rw [hQ,List.getElem?_append_left h]
theorem hQ_hi (i:Nat):(hQ H nd b)[H.length+i]? = (hF H.length b.length nd.length b++(b.map rowI++nd.map mapI))[i]? := by
 rw [hQ,List.getElem?_append_right (by omega)]; congr 1; omega
theorem hQ_w:(hQ H nd b)[H.length]? = some (.cells [.sl (H.length+1) 0 b.length,.sl (H.length+2) 0 b.length]):=hQ_hi 0
theorem hQ_n:(hQ H nd b)[H.length+1]? = some (.row 1 t_map_int_bool_2 (needE H.length b.length nd.length) none (decide (nd.length=0)) false):=hQ_hi 1
theorem hQ_b:(hQ H nd b)[H.length+2]? = some (.row 1 t_int_2 (byE H.length b) none (decide (b.length=0)) false):=hQ_hi 2
theorem hQ_r {k:Nat} (h:k<b.length):(hQ H nd b)[H.length+(3+k)]? = some (rowI b[k]):=by
 rw [hQ_hi,List.getElem?_append_right (by simp [hF]),List.getElem?_append_left (by simp [hF]; omega)];simp [hF,h]
theorem hQ_m {i:Nat} (h:i<nd.length):(hQ H nd b)[H.length+(3+(b.length+i))]? = some (mapI nd[i]):=by
 rw [hQ_hi,List.getElem?_append_right (by simp [hF]),List.getElem?_append_right (by simp [hF])];simp [hF,h]
theorem needE_get {n N m i:Nat} (h:i<m):(needE n N m)[i]? = some (.mp (n+(3+(N+i)))):=by
 rw [needE,List.getElem?_append_left (by simpa using h)]; simp [h]
theorem needE_len {n N m:Nat} (h:m≤N):(needE n N m).length=N:=by simp [needE]; omega
theorem byE_len (n:Nat) (b:List (List Nat)):(byE n b).length=b.length:=by simp [byE]
theorem byE_get {n k:Nat} (h:k<b.length):(byE n b)[k]? = some (.sl (n+(3+k)) 0 b[k].length):=by simp [byE,h]
theorem byE_set {n k:Nat} (l:List Nat) (h:k<b.length):(byE n b).set k (.sl (n+(3+k)) 0 l.length)=byE n (b.set k l):=by
 apply List.ext_getElem?;intro j
 by_cases hj:k=j
 ·subst hj;rw [List.getElem?_set_self (by rw [byE_len]; exact h),byE_get (by simpa using h)];simp
 ·rw [List.getElem?_set_ne hj]
  by_cases hjb:j<b.length
  ·rw [byE_get hjb,byE_get (by simpa using hjb),List.getElem_set_ne hj]
  ·rw [List.getElem?_eq_none (by rw [byE_len]; omega),List.getElem?_eq_none (by rw [byE_len]; simp; omega)]
theorem hQ_setm {i:Nat} (l:List Nat) (h:i<nd.length):(hQ H nd b).set (H.length+(3+(b.length+i))) (mapI l)=hQ H (nd.set i l) b:=by
 have e:H.length+(3+(b.length+i))=H.length+((hF H.length b.length nd.length b).length+((b.map rowI).length+i)):=by simp [hF]
 have ap:∀ (a c:List Ob) (j:Nat) (o:Ob),(a++c).set (a.length+j) o=a++c.set j o:=fun a c j o=>by
  rw [List.set_append_right _ _ (by omega)]; congr 2; omega
 rw [hQ,e,ap,ap,ap,hQ,List.length_set,← List.map_set]
theorem ap_set (a c:List Ob) (j:Nat) (o:Ob):(a++c).set (a.length+j) o=a++c.set j o:=by rw [List.set_append_right _ _ (by omega)]; congr 2; omega
theorem hQ_setr {k:Nat} (l:List Nat) (h:k<b.length):((hQ H nd b).set (H.length+(3+k)) (rowI l)).set (H.length+2) (.row 1 t_int_2 (byE H.length (b.set k l)) none (decide (b.length=0)) false)=hQ H nd (b.set k l):=by
 have e:H.length+(3+k)=H.length+((hF H.length b.length nd.length b).length+k):=by simp [hF]
 have ap:∀ (a c:List Ob) (j:Nat) (o:Ob),(a++c).set (a.length+j) o=a++c.set j o:=fun a c j o=>by
  rw [List.set_append_right _ _ (by omega)]; congr 2; omega
 rw [hQ,e,ap,ap,ap,hQ,List.length_set,show ((b.map rowI++nd.map mapI).set k (rowI l))=(b.map rowI).set k (rowI l)++nd.map mapI from List.set_append_left _ _ (by simpa using h),← List.map_set];simp [hF]
theorem bel_byE {n m:Nat} (b:List (List Nat)) (h:n+(3+b.length)≤m):belL m (byE n b)=true:=by
 have:∀ (l:List (List Nat)) (q:Nat),q+(3+l.length)≤m→belL m (l.mapIdx fun j x=>AV.sl (q+(3+j)) 0 x.length)=true:=by
  intro l
  induction l with
  | nil=>intro q _; rfl
  | cons a l ih =>
   intro q hq;simp only [List.length_cons] at hq;have h2:=ih (q+1) (by omega)
   have e:(fun (i:Nat) (x:List Nat)=>AV.sl (q+(3+(i+1))) 0 x.length)=fun j x=>AV.sl (q+1+(3+j)) 0 x.length:=by
    funext j x; congr 1; omega
   rw [List.mapIdx_cons,e]
   simp only [belL,h2,bel,Bool.and_true,decide_eq_true_eq]; omega
 exact this b n h
theorem bel_needE {n N m q:Nat} (h:n+(3+(N+m))≤q):belL q (needE n N m)=true:=by
 have h1:∀ l:List Nat,(∀ i∈l,i<m)→belL q (l.map fun i=>AV.mp (n+(3+(N+i))))=true:=by
  intro l
  induction l with
  | nil=>intro _; rfl
  | cons a l ih =>
   intro hl;have:=hl a (by simp)
   simp only [List.map_cons,belL,bel,ih fun i hi=>hl i (by simp [hi]),Bool.and_true,decide_eq_true_eq]; omega
 have h2:∀ k,belL q (List.replicate k AV.nilm)=true:=by
  intro k
  induction k with
  | zero=>rfl
  | succ k ih=>simp [List.replicate_succ,ih]
 rw [needE,belL_append,h1 _ (fun i hi=>by simpa using hi),h2]; rfl
theorem bel_rows (m:Nat):∀ b:List (List Nat),belH m (b.map rowI)=true
 | []=>rfl
 | l::b=>by simp [rowI,bel_rows m b]
theorem bel_eK (m:Nat):∀ l:List Nat,belM m (l.map eK)=true
 | []=>rfl
 | l::b=>by simp [bel_eK m b]
theorem bel_maps (m:Nat):∀ b:List (List Nat),belH m (b.map mapI)=true
 | []=>rfl
 | l::b=>by
  have:=bel_eK m l;simp only [List.map_cons,belH,mapI,belO,this,Bool.true_and];exact bel_maps m b
theorem hQ_wf (hw:WfO H):WfO (hQ H nd b):=fun m hm=>by
 rw [hQ_len] at hm;have h1:=hw m (by omega);have h2:=bel_byE (n:=H.length) (m:=m) b (by omega);have h3:=bel_needE (n:=H.length) (N:=b.length) (m:=nd.length) (q:=m) (by omega);rw [hQ,belH_append,belH_append,belH_append,h1,bel_rows,bel_maps];simp [hF,h2,h3];omega
theorem vld_byE {n i m:Nat} (b:List (List Nat)) (h:∀ j (hj:j<b.length),n+(3+j)=i→b[j].length=m):vldL i m (byE n b)=true:=by
 have:∀ l:List AV,(∀ a∈l,vld i m a=true)→vldL i m l=true:=by
  intro l
  induction l with
  | nil=>intro _; rfl
  | cons a l ih=>intro hl; simp only [vldL,hl a (by simp),ih fun x hx=>hl x (by simp [hx]),Bool.and_self]
 refine this _ fun a ha => ?_
 obtain ⟨j,hj,rfl⟩:=List.getElem_of_mem ha;rw [byE_len] at hj
 have e:(byE n b)[j]'(by rw [byE_len]; exact hj)=.sl (n+(3+j)) 0 b[j].length:=by
  have:=byE_get (n:=n) hj;exact (List.getElem?_eq_some_iff.1 this).2
 rw [e];simp only [vld,Bool.or_eq_true,Bool.not_eq_true',beq_eq_false_iff_ne,Nat.zero_add,beq_iff_eq]
 by_cases hi:n+(3+j)=i
 ·exact .inr (h j hj hi)
 ·exact .inl hi
theorem vld_needE {n N m i q:Nat}:vldL i q (needE n N m)=true:=by
 have:∀ l:List AV,(∀ a∈l,vld i q a=true)→vldL i q l=true:=by
  intro l
  induction l with
  | nil=>intro _; rfl
  | cons a l ih=>intro hl; simp only [vldL,hl a (by simp),ih fun x hx=>hl x (by simp [hx]),Bool.and_self]
 refine this _ fun a ha => ?_
 simp only [needE,List.mem_append,List.mem_map,List.mem_range,List.mem_replicate] at ha
 rcases ha with ⟨j,_,rfl⟩ | ⟨_,rfl⟩ <;> rfl
theorem vld_rows (i m:Nat):∀ b:List (List Nat),vldH i m (b.map rowI)=true
 | []=>rfl
 | l::b=>by simp [rowI,vld_rows i m b]
theorem vld_eK (i m:Nat):∀ l:List Nat,vldM i m (l.map eK)=true
 | []=>rfl
 | l::b=>by simp [vld_eK i m b]
theorem vld_maps (i m:Nat):∀ b:List (List Nat),vldH i m (b.map mapI)=true
 | []=>rfl
 | l::b=>by
  have:=vld_eK i m l;simp only [List.map_cons,vldH,mapI,vldO,this,Bool.true_and];exact vld_maps i m b
theorem vldH_append (i m:Nat):∀ a b:List Ob,vldH i m (a++b)=(vldH i m a&&vldH i m b)
 | [],b=>rfl
 | o::a,b=>by simp [vldH,vldH_append i m a b,Bool.and_assoc]
theorem hQ_vld (hv:WfV H) {k:Nat} (h:k<b.length):vldH (H.length+(3+k)) b[k].length (hQ H nd b)=true:=by
 have h1:=hv (H.length+(3+k)) b[k].length (by omega)
 have h2:vldL (H.length+(3+k)) b[k].length (byE H.length b)=true:=vld_byE b fun j hj he=>by
  obtain rfl:j=k:=by omega
  rfl
 have h3:=vld_needE (n:=H.length) (N:=b.length) (m:=nd.length) (i:=H.length+(3+k)) (q:=b[k].length);rw [hQ,vldH_append,vldH_append,vldH_append,h1,vld_rows,vld_maps];simp [hF,h2,h3];omega
end
def convE (n N j:Nat):List AV:=(List.range j).map (fun i=>AV.sl (n+(3+i)) 0 0)++List.replicate (N - j) (.list true 0 [])
def hConv (H:List Ob) (N j:Nat):List Ob:=H++([.cells [.sl (H.length+1) 0 N,.sl (H.length+2) 0 N],.row 1 t_map_int_bool_2 (needE H.length N 0) none true false,.row 1 t_int_2 (convE H.length N j) none (decide (j=0)) false]++List.replicate j (rowI []))
theorem hConv_len (H:List Ob) (N j:Nat):(hConv H N j).length=H.length+(3+j):=by simp [hConv]; omega
theorem r_conv (H:List Ob) (N:Nat) (f:Fr) (up:List Fr):∀ m j:Nat,j+m=N→AM.Reach Tryd.prog Γ (.fr f up (hConv H N j)) (.fr f up (hConv H N N)):=by
 intro m
 induction m with
 | zero =>
  intro j hj
  obtain rfl:j=N:=by omega
  exact .refl _
 | succ m ih =>
  intro j hj;have hlen:=hConv_len H N j
  have hi:(hConv H N j)[H.length+2]? = some (.row 1 t_int_2 (convE H.length N j) none (decide (j=0)) false):=by
   rw [hConv,List.getElem?_append_right (by omega),show H.length+2 - H.length=2 by omega]; rfl
  have hj2:(convE H.length N j)[j]? = some (.list true 0 []):=by
   rw [convE,List.getElem?_append_right (by simp),List.length_map,List.length_range,Nat.sub_self,show N - j=(N - (j+1))+1 by omega,List.replicate_succ];rfl
  have hst:=AM.Reach.nilelem (P:=Tryd.prog) (Γ:=Γ) (f:=f) (up:=up) (k:=1) t_int hi hj2 (by omega);refine .trans hst ?_
  have e:((hConv H N j++[Ob.row 1 t_int [] none true false]).set (H.length+2) (.row 1 t_int_2 ((convE H.length N j).set j (.sl (hConv H N j).length 0 0)) none false false))=hConv H N (j+1):=by
   have e1:(convE H.length N j).set j (.sl (hConv H N j).length 0 0)=convE H.length N (j+1):=by
    rw [hlen,convE,List.set_append_right _ _ (by simp)]
    have e2:List.replicate (N - j) (AV.list true 0 [])=.list true 0 []::List.replicate (N - (j+1)) (.list true 0 []):=by
     rw [show N - j=(N - (j+1))+1 by omega,List.replicate_succ]
    rw [e2];simp [convE,List.range_succ]
   rw [e1,hConv,hConv,List.append_assoc,ap_set];have e3:List.replicate (j+1) (rowI [])=List.replicate j (rowI [])++[rowI []]:=List.replicate_succ';rw [e3];simp [rowI]
  rw [e];exact ih (j+1) (by omega)
theorem hConv_zero (c:Ct) (H:List Ob):hConv H c.gates.length 0=H++hW c H.length:=by simp [hConv,hW,needE,convE]
theorem hConv_end (H:List Ob) (N:Nat):hConv H N N=hQ H [] (List.replicate N []):=by
 have e:convE H.length N N=byE H.length (List.replicate N []):=by
  apply List.ext_getElem?;intro j
  by_cases hj:j<N
  ·rw [byE_get (by simpa using hj)];simp [convE,hj]
  ·rw [List.getElem?_eq_none (by simp [convE]; omega),List.getElem?_eq_none (by rw [byE_len]; simp; omega)]
 simp [hConv,hQ,hF,e]
theorem find_cur (k:Nat):∀ l:List Nat,findIn (.sc .int) (.int .i64 k) (l.map eK)=some (if k∈l then some (.bool true) else none)
 | []=>rfl
 | a::l=>by
  simp only [List.map_cons,findIn,eq_nat]
  by_cases h:k=a
  ·simp [h]
  ·simp [h,find_cur k l]
theorem put_cur {k:Nat}:∀ {l:List Nat},k∉l→putIn (.sc .int) (.int .i64 k) (.bool true) (l.map eK)=some ((l++[k]).map eK)
 | [],_=>rfl
 | a::l,h=>by
  simp only [List.mem_cons,not_or] at h;simp only [List.map_cons,putIn,eq_nat,h.1,decide_false,put_cur h.2,Option.map_some,List.cons_append]
theorem plM_lt {c:Ct} {s:Bs} {k:Nat} (h:getM s (plM c)=some k):k<c.gates.length:=by
 have:∀ l:List (Bs×Nat),getM s l=some k→∃ x∈l,x.2=k:=by
  intro l
  induction l with
  | nil=>intro h; cases h
  | cons x l ih =>
   obtain ⟨a,v⟩:=x;intro h;rw [getM] at h
   split at h
   ·exact ⟨(a,v),by simp,Option.some.inj h⟩
   ·obtain ⟨x,h1,h2⟩:=ih h; exact ⟨x,by simp [h1],h2⟩
 obtain ⟨x,h1,rfl⟩:=this _ h;obtain ⟨j,hj,rfl⟩:=List.getElem_of_mem h1;rw [plM_len] at hj
 rw [plM_get c j hj]; exact hj
def needL (pl:List (Bs×Nat)):List Bs→List Nat→List Nat
 | [],a=>a
 | s::r,a=>match getM s pl with
  | none=>needL pl r a
  | some k=>needL pl r (if k∈a then a else a++[k])
def byL (pl:List (Bs×Nat)) (i:Nat):List Bs→List Nat→List (List Nat)→List (List Nat)
 | [],_,b=>b
 | s::r,a,b=>match getM s pl with
  | none=>byL pl i r a b
  | some k=>byL pl i r (if k∈a then a else a++[k]) (if k∈a then b else b.set k (b.getD k []++[i]))
theorem swap_set {A:List Ob} {r s:Nat} (h:s≠r) (o o1 o2:Ob):((A.set r o1).set s o2).set r o=(A.set r o).set s o2:=by
 rw [List.set_comm _ _ h,List.set_set]
theorem set_sm {h:List Ob} {i:Nat} {o:Ob} (hi:h[i]? = some o):h.set i o=h:=by
 apply List.ext_getElem?;intro j
 by_cases hj:i=j
 ·subst hj; rw [List.getElem?_set_self (lt_of_get hi),hi]
 ·rw [List.getElem?_set_ne hj]
theorem vldH_set {i m:Nat} {o:Ob} (ho:vldO i m o=true):∀ {h:List Ob} (j:Nat),vldH i m h=true→vldH i m (h.set j o)=true
 | [],_,h1=>h1
 | o'::h,0,h1=>by
  simp only [vldH,Bool.and_eq_true,List.set_cons_zero] at h1 ⊢;exact ⟨ho,h1.2⟩
 | o'::h,j+1,h1=>by
  simp only [vldH,Bool.and_eq_true,List.set_cons_succ] at h1 ⊢;exact ⟨h1.1,vldH_set ho j h1.2⟩
set_option maxRecDepth 8000 in
theorem r_wait3 (c:Ct) (hc:CtFew c) {H:List Ob} (hw:WfO H) (hv:WfV H) {m0:Nat} (hm:H[m0]? = some (.map ((plM c).map ePl) true)) (nd:List (List Nat)) (i:Nat) (hi:i<c.gates.length) (hnd:nd.length=i) (up:List Fr) (base:Nat) (hbase:base≤H.length) (p2:Nat):∀ n q:Nat,q+n=c.gates[i].ins.length→∀ (cur:List Nat) (b:List (List Nat)),b.length=c.gates.length→(∀ l∈b,l.length≤2^20+i*2^10+q) →
  AM.Reach Tryd.prog Γ (ynR (.ptr p2 0) (.mp m0) (.ptr H.length 0) (.int .i64 i) (.list false c.kG (c.gates.map eGt)) (.int .i64 c.gates.length) (.int .i64 i) (.list false c.gates[i].ki (c.gates[i].ins.map .str)) (.int .i64 c.gates[i].ins.length) (.int .i64 q) (hQ H (nd++[cur]) b) ⟨[],.norm,base,up⟩)
   (ynS (.ptr p2 0) (.mp m0) (.ptr H.length 0) (.list false c.kG (c.gates.map eGt)) (.int .i64 c.gates.length) (.int .i64 i) (hQ H (nd++[needL (plM c) (c.gates[i].ins.drop q) cur]) (byL (plM c) i (c.gates[i].ins.drop q) cur b)) ⟨[],.norm,base,up⟩):=by
 have hiB:i<2^10:=by have:=hc.2.2.2.1; omega
 have hqB:c.gates[i].ins.length<2^10:=(hc.2.2.2.2.1 _ (List.getElem_mem hi)).2.1;intro n
 induction n with
 | zero =>
  intro q hq cur b hb hbl
  have q1:¬ q<c.gates[i].ins.length:=by omega
  rw [List.drop_eq_nil_of_le (by omega),needL,byL];refine .goS 60 ?_;simp [q1];exact .exit rfl rfl
 | succ n ih =>
  intro q hqn cur b hb hbl
  have hq:q<c.gates[i].ins.length:=by omega
  have q2:=eq_true (c.gates[i].hi.of hq)
  have hget:(hQ H (nd++[cur]) b)[m0]? = some (.map ((plM c).map ePl) true):=by rw [hQ_lo (lt_of_get hm)]; exact hm
  have hfi:=findIn_gen (E:=.sc .str) (e:=AV.str) eq_str (fun n:Nat=>AV.int .i64 n) c.gates[i].ins[q] (plM c);rw [List.drop_eq_getElem_cons hq,needL,byL]
  cases hk:getM c.gates[i].ins[q] (plM c) with
  | none =>
   rw [hk] at hfi;have hh:=ih (q+1) (by omega) cur b hb (fun l hl=>by have:=hbl l hl; omega);refine .goS 60 ?_;simp (disch:=omega) [hq,q2,hget,hfi,isKey,allDatum,isDatum];refine .reLoop ?_;simp at hh ⊢;exact hh
  | some k =>
   rw [hk] at hfi;have hkl:=plM_lt hk
   have hkb:k<b.length:=by omega
   have xw:=hQ_w (H:=H) (nd:=nd++[cur]) (b:=b);have xn:=hQ_n (H:=H) (nd:=nd++[cur]) (b:=b)
   have hii:i<(nd++[cur]).length:=by simp; omega
   have xm:=hQ_m (H:=H) (b:=b) hii
   have ecur:(nd++[cur])[i]=cur:=by rw [List.getElem_append_right (by omega)]; simp [hnd]
   have yn:=needE_get (n:=H.length) (N:=b.length) hii
   have hm1:(nd++[cur]).length=nd.length+1:=by simp
   have yl:=needE_len (n:=H.length) (N:=b.length) (m:=nd.length+1) (by omega);have yt:List.take b.length (needE H.length b.length (nd.length+1))=needE H.length b.length (nd.length+1):=List.take_of_length_le (by rw [yl]; exact Nat.le_refl _);have fc:=find_cur k cur;rw [ecur] at xm;rw [hm1] at yn xn;rw [hb] at xm yn xw xn yl yt;obtain ⟨_,yn'⟩:=List.getElem?_eq_some_iff.1 yn
   by_cases hkc:k∈cur
   ·rw [if_pos hkc] at fc;have hh:=ih (q+1) (by omega) cur b hb (fun l hl=>by have:=hbl l hl; omega);simp only [if_pos hkc];generalize hQ H (nd++[cur]) b=X at *;refine .goS 60 ?_;simp (disch:=omega) [hq,q2,hget,hfi,isKey,allDatum,isDatum,xw,xn,xm,yn,yl,yt,yn',hi,mapI,fc];refine .reLoop ?_;simp at hh ⊢;exact hh
   ·rw [if_neg hkc] at fc;have pc:=put_cur hkc;have xb:=hQ_b (H:=H) (nd:=nd++[cur]) (b:=b);have xr:=hQ_r (H:=H) (nd:=nd++[cur]) hkb;have yb:=byE_get (n:=H.length) hkb
    have hh:=ih (q+1) (by omega) (cur++[k]) (b.set k (b.getD k []++[i])) (by simpa using hb) (fun l hl=>by
     rcases List.mem_or_eq_of_mem_set hl with h1 | h1
     ·have:=hbl l h1; omega
     ·have egd:b.getD k []=b[k]:=by rw [List.getD_eq_getElem?_getD,List.getElem?_eq_getElem hkb]; rfl
      have:=hbl _ (List.getElem_mem hkb)
      rw [h1,egd,List.length_append,List.length_singleton]; omega)
    simp only [if_neg hkc]
    have fin:((((hQ H (nd++[cur]) b).set (H.length+(3+(c.gates.length+i))) (.map (List.map eK cur++[eK k]) true)).set (H.length+(3+k)) (.row 1 t_int (List.map iN b[k]++[.int .i64 i]) (some 0) true false)).set (H.length+2) (.row 1 t_int_2 ((byE H.length b).set k (.sl (H.length+(3+k)) 0 (b[k].length+1))) none false false)) =
      (hQ H (nd++[cur++[k]]) (b.set k (b[k]++[i]))).set (H.length+(3+k)) (.row 1 t_int (List.map iN b[k]++[.int .i64 i]) (some 0) true false):=by
     have f1:=hQ_setm (H:=H) (b:=b) (cur++[k]) hii;have f2:=hQ_setr (H:=H) (nd:=nd++[cur++[k]]) (b[k]++[i]) hkb;have f3:=byE_set (n:=H.length) (b[k]++[i]) hkb
     have f4:(nd++[cur]).set i (cur++[k])=nd++[cur++[k]]:=by rw [List.set_append_right _ _ (by omega)]; simp [hnd]
     have f5:mapI (cur++[k])=.map (List.map eK cur++[eK k]) true:=by simp [mapI]
     have f6:decide (b.length=0)=false:=decide_eq_false (by omega)
     have f7:(b[k]++[i]).length=b[k].length+1:=by simp
     rw [f4,f5,hb] at f1;rw [f6] at f2;rw [f7] at f3;rw [f1,f3,← f2,swap_set (by omega)]
    have vfin:=hQ_vld (H:=H) (nd:=nd++[cur++[k]]) (b:=b.set k (b[k]++[i])) hv (k:=k) (by simpa using hkb);have zget:=hQ_r (H:=H) (nd:=nd++[cur++[k]]) (b:=b.set k (b[k]++[i])) (k:=k) (by simpa using hkb);have zlen:=hQ_len (H:=H) (nd:=nd++[cur++[k]]) (b:=b.set k (b[k]++[i]));rw [List.getElem_set_self] at vfin zget;have zl:=byE_len H.length b;have zt:List.take b.length (byE H.length b)=byE H.length b:=List.take_of_length_le (by rw [zl]; exact Nat.le_refl _);rw [hb] at xb zl zt;obtain ⟨_,yb'⟩:=List.getElem?_eq_some_iff.1 yb;generalize hQ H (nd++[cur]) b=X at *;clear zlen;refine .goS 60 ?_;simp (disch:=omega) [hq,q2,hget,hfi,isKey,allDatum,isDatum,xw,xn,xm,yn,yl,yt,yn',hi,mapI,fc,pc];refine .drS 60 ?_
    have d1:¬ c.gates.length+i=k:=by omega
    have b8:(b[k].length+1)*8≤140737488355328:=by have:=hbl _ (List.getElem_mem hkb); omega
    simp (disch:=omega) [xw,xb,xr,yb,yb',zl,zt,rowI,d1,b8];rw [fin];have zlen:=hQ_len (H:=H) (nd:=nd++[cur++[k]]) (b:=b.set k (b[k]++[i]))
    have egd:b.getD k []=b[k]:=by rw [List.getD_eq_getElem?_getD,List.getElem?_eq_getElem hkb]; rfl
    rw [egd] at hh
    try rw [egd]
    generalize hQ H (nd++[cur++[k]]) (b.set k (b[k]++[i]))=Z at *
    have zlt:H.length+(3+k)<Z.length:=by rw [zlen]; simp; omega
    refine .reLoop ?_;simp
    refine .resetTo (i:=H.length+(3+k)) (k:=1) (E:=t_int) (es:=(b[k]++[i]).map iN) (fl:=true) (sh:=false) (by rw [List.getElem?_set_self zlt]; simp) (by simp; omega) (by simp) (by
     simp only [List.length_map]
     exact vldH_set (by simp [vldO]) _ vfin) ?_
    rw [List.set_set,show Ob.row 1 t_int ((b[k]++[i]).map iN) none true false=rowI (b[k]++[i]) from rfl,set_sm zget];simp at hh ⊢;exact hh
theorem okP_set {n:Nat} {τ:List Nat} {k:Nat} {E:TypeId} {es:List AV} (ho:okL n τ es=true):∀ {h:List Ob} (j:Nat),okP n τ h=true→okP n τ (h.set j (.row k E es none false false))=true
 | [],_,h1=>h1
 | o'::h,0,h1=>by
  have h2:okP n τ h=true:=by cases o' <;> simp only [okP,Bool.and_eq_true] at h1 <;> exact h1.2
  simp [okP,okO,ho,h2]
 | o'::h,j+1,h1=>by
  cases o' <;> simp only [okP,Bool.and_eq_true,List.set_cons_succ] at h1 ⊢ <;> exact ⟨h1.1,okP_set ho j h1.2⟩
theorem rnH_set {n:Nat} {τ:List Nat} (o:Ob):∀ {h:List Ob} (j:Nat),belH n h=true→rnH n τ (h.set j o)=h.set j (rnO n τ o)
 | [],_,_=>rfl
 | o'::h,0,h1=>by
  simp only [belH,Bool.and_eq_true] at h1;simp only [List.set_cons_zero,rnH,rnH_bel h1.2]
 | o'::h,j+1,h1=>by
  simp only [belH,Bool.and_eq_true] at h1;simp only [List.set_cons_succ,rnH,rnO_bel h1.1,rnH_set o j h1.2]
theorem needE_split {n N m:Nat} (h:m<N) (v:AV):(needE n N m).set m v=(List.range m).map (fun i=>AV.mp (n+(3+(N+i))))++(v::List.replicate (N - (m+1)) .nilm):=by
 rw [needE,List.set_append_right _ _ (by simp),show N - m=(N - (m+1))+1 by omega,List.replicate_succ];simp
theorem needE_succ {n N m:Nat} (h:m<N):(List.range m).map (fun i=>AV.mp (n+(3+(N+i))))++(.mp (n+(3+(N+m)))::List.replicate (N - (m+1)) .nilm)=needE n N (m+1):=by
 rw [needE,List.range_succ]; simp
theorem bel_mps {n N m q:Nat} (h:n+(3+(N+m))≤q):belL q ((List.range m).map (fun i=>AV.mp (n+(3+(N+i)))))=true:=by
 have:=bel_needE h;rw [needE,belL_append,Bool.and_eq_true] at this;exact this.1
theorem bel_nils (q:Nat):∀ k,belL q (List.replicate k AV.nilm)=true
 | 0=>rfl
 | k+1=>by simp [List.replicate_succ,bel_nils q k]
theorem hQ_new {H:List Ob} {nd b:List (List Nat)} (h:nd.length<b.length):(hQ H nd b).set (H.length+1) (.row 1 t_map_int_bool_2 (needE H.length b.length (nd.length+1)) none false false)++[.map [] true]=hQ H (nd++[[]]) b:=by
 have e:H.length+1=H.length+1:=rfl;rw [hQ,ap_set,hQ,List.append_assoc];have f6:decide ((nd++[[]]).length=0)=false:=decide_eq_false (by simp);simp [hF,mapI]
theorem ofCells_nilm (c:AV):ofCells [c] .nilm=c:=rfl
def waitF (pl:List (Bs×Nat)):List Gt→Nat→List (List Nat)→List (List Nat)→List (List Nat)×List (List Nat)
 | [],_,nd,b=>(nd,b)
 | g::r,i,nd,b=>waitF pl r (i+1) (nd++[needL pl g.ins []]) (byL pl i g.ins [] b)
theorem byL_len (pl:List (Bs×Nat)) (i:Nat):∀ (l:List Bs) (a:List Nat) (b:List (List Nat)),(byL pl i l a b).length=b.length
 | [],_,_=>rfl
 | s::r,a,b=>by
  rw [byL]
  split
  ·exact byL_len pl i r a b
  ·rw [byL_len]; split <;> simp
theorem byL_bnd (pl:List (Bs×Nat)) (i M:Nat):∀ (l:List Bs) (a:List Nat) (b:List (List Nat)),(∀ x∈b,x.length≤M)→∀ x∈byL pl i l a b,x.length≤M+l.length
 | [],_,_,h=>fun x hx=>by have:=h x hx; simpa using this
 | s::r,a,b,h=>fun x hx=>by
  rw [byL] at hx
  have hM:∀ x∈b,x.length≤M+1:=fun x hx=>by have:=h x hx; omega
  have key:∀ (b':List (List Nat)) (a':List Nat),(∀ x∈b',x.length≤M+1)→x∈byL pl i r a' b'→x.length≤M+(s::r).length:=fun b' a' h1 h2=>by
   have:=byL_bnd pl i (M+1) r a' b' h1 x h2
   simp only [List.length_cons]; omega
  split at hx
  ·exact key _ _ hM hx
  ·rename_i k _
   split at hx
   ·exact key _ _ hM hx
   ·refine key _ _ (fun y hy => ?_) hx
    rcases List.mem_or_eq_of_mem_set hy with h1 | h1
    ·exact hM y h1
    ·rw [h1,List.length_append,List.length_singleton]
     by_cases hk:k<b.length
     ·rw [List.getD_eq_getElem?_getD,List.getElem?_eq_getElem hk];have:=h _ (List.getElem_mem hk)
      simp only [Option.getD_some]; omega
     ·rw [List.getD_eq_getElem?_getD,List.getElem?_eq_none (by omega)]; simp
theorem hQ_setlo {H:List Ob} {nd b:List (List Nat)} {p:Nat} (h:p<H.length) (o:Ob):(hQ H nd b).set p o=hQ (H.set p o) nd b:=by
 rw [hQ,List.set_append_left _ _ h,hQ,List.length_set]
set_option maxRecDepth 8000 in
theorem r_wait1 (c:Ct) (hc:CtFew c) {H:List Ob} (hw:WfO H) (hv:WfV H) {m0:Nat} (hm:H[m0]? = some (.map ((plM c).map ePl) true)) (up:List Fr) (base:Nat) (hbase:base≤H.length) (p2:Nat) (hp2:p2<H.length) (C:AM.Cfg) (i:Nat) (hi:i<c.gates.length) (nd b:List (List Nat)) (hnd:nd.length=i) (hb:b.length=c.gates.length) (hbl:∀ l∈b,l.length≤2^20+i*2^10)
  (hC:AM.Reach Tryd.prog Γ (ynU (.ptr p2 0) (.mp m0) (.ptr H.length 0) (.list false c.kG (c.gates.map eGt)) (.int .i64 c.gates.length) (.int .i64 (i+1:Nat)) (hQ H (nd++[needL (plM c) c.gates[i].ins []]) (byL (plM c) i c.gates[i].ins [] b)) ⟨[],.norm,base,up⟩) C) :
  AM.Reach Tryd.prog Γ (ynU (.ptr p2 0) (.mp m0) (.ptr H.length 0) (.list false c.kG (c.gates.map eGt)) (.int .i64 c.gates.length) (.int .i64 i) (hQ H nd b) ⟨[],.norm,base,up⟩) C:=by
 have q2:=eq_true (c.hG.of hi);have xw:=hQ_w (H:=H) (nd:=nd) (b:=b);have xn:=hQ_n (H:=H) (nd:=nd) (b:=b);have yl:=needE_len (n:=H.length) (N:=b.length) (m:=nd.length) (by omega);have hlen:=hQ_len (H:=H) (nd:=nd) (b:=b);have hm0:=lt_of_get hm;have hnew:=hQ_new (H:=H) (nd:=nd) (b:=b) (by omega);have hsp:=needE_split (n:=H.length) (N:=b.length) (m:=nd.length) (by omega) (.mp ((hQ H nd b).length+3));have hsu:=needE_succ (n:=H.length) (N:=b.length) (m:=nd.length) (by omega);have hwf:=hQ_wf (nd:=nd) (b:=b) hw (hQ H nd b).length (Nat.le_refl _);have hbm:=bel_mps (n:=H.length) (N:=b.length) (m:=nd.length) (q:=(hQ H nd b).length) (by omega);have hbn:=bel_nils (hQ H nd b).length (b.length - (nd.length+1))
 have yc:∀ h,(needE H.length b.length nd.length)[nd.length]'h=.nilm:=fun h=>by
  have e:(needE H.length b.length nd.length)[nd.length]? = some .nilm:=by
   rw [needE,List.getElem?_append_right (by simp),List.length_map,List.length_range,Nat.sub_self,show b.length - nd.length=(b.length - (nd.length+1))+1 by omega,List.replicate_succ]; rfl
  exact (List.getElem?_eq_some_iff.1 e).2
 have hin:=r_wait3 (Γ:=Γ) c hc hw hv hm nd i hi hnd up base hbase p2 c.gates[i].ins.length 0 (by omega) [] b hb (fun l hl=>by have:=hbl l hl; omega);subst hnd;rw [hb] at xw xn yl hlen hnew hsp hsu hbm hbn yc
 have w1:∀ os,(hQ H nd b++os)[H.length]? = some (.cells [.sl (H.length+1) 0 c.gates.length,.sl (H.length+2) 0 c.gates.length]):=fun os=>get_app xw os
 have w2:∀ os,(hQ H nd b++os)[H.length+1]? = some (.row 1 t_map_int_bool_2 (needE H.length c.gates.length nd.length) none (decide (nd.length=0)) false):=fun os=>get_app xn os
 have w3:∀ os o,(hQ H nd b++os).set (H.length+1) o=(hQ H nd b).set (H.length+1) o++os:=fun os o=>List.set_append_left _ _ (by rw [hlen]; omega)
 have w4:∀ o os,((hQ H nd b).set (H.length+1) o++os)[(hQ H nd b).length]? = os[0]? := fun o os=>by rw [List.getElem?_append_right (by simp)]; simp
 have hX:(hQ H nd b).length=H.length+(3+(c.gates.length+nd.length)):=hlen;generalize hQ H nd b=X at *;clear hlen
 have hb2:base≤X.length:=by omega
 have hX1:H.length<X.length:=by omega
 have hX2:H.length+1<X.length:=by omega
 have hX3:p2<X.length:=by omega
 have hX4:m0<X.length:=by omega
 refine .goB 60 ?_;simp (disch:=omega) [hi,q2,w1,w2,w3,w4,yl,yc,ofCells_nilm];rw [hsp]
 have hmp:(AV.mp (H.length+(3+(c.gates.length+nd.length))))=.mp X.length:=by rw [hX]
 rw [hmp] at hsu;refine .trans (.clrs [6,27,28,29,30,31,32,33,34,35] _) ?_;simp [clrT]
 refine .gcTo X.length [3] (by
  simp [hb2,hX1,hX3,hX4]
  exact okP_set (by simp [okL_bel hbm,okL_bel hbn]) _ (okP_bel hwf)) (by decide) ?_
 have hlt3:(X.length+3<X.length)=False:=eq_false (by omega);simp [hX1,hX3,hX4,rnH_set _ _ hwf,rnL_bel hbm,rnL_bel hbn,hlt3];rw [hsu,hnew];refine .inLoop ?_;simp at hin ⊢;refine .trans hin ?_;refine .goB 60 ?_
 have hB:nd.length<2^10:=by have:=hc.2.2.2.1; omega
 simp (disch:=omega);refine .reLoop ?_;simp at hC ⊢;exact hC
set_option maxRecDepth 8000 in
theorem r_waitL (c:Ct) (hc:CtFew c) {H:List Ob} (hw:WfO H) (hv:WfV H) {m0:Nat} (hm:H[m0]? = some (.map ((plM c).map ePl) true)) (up:List Fr) (base:Nat) (hbase:base≤H.length) (p2:Nat) (hp2:p2<H.length) {r0 r1:AV} (hr:H[p2]? = some (.cells [r0,r1])):∀ n i:Nat,i+n=c.gates.length→∀ nd b:List (List Nat),nd.length=i→b.length=c.gates.length→(∀ l∈b,l.length≤2^20+i*2^10) →
  AM.Reach Tryd.prog Γ (ynU (.ptr p2 0) (.mp m0) (.ptr H.length 0) (.list false c.kG (c.gates.map eGt)) (.int .i64 c.gates.length) (.int .i64 i) (hQ H nd b) ⟨[],.norm,base,up⟩)
   (.back up (.agg [.sl (H.length+1) 0 c.gates.length,.sl (H.length+2) 0 c.gates.length]) (hQ (H.set p2 (.cells [.sl (H.length+1) 0 c.gates.length,.sl (H.length+2) 0 c.gates.length])) (waitF (plM c) (c.gates.drop i) i nd b).1 (waitF (plM c) (c.gates.drop i) i nd b).2)):=by
 intro n
 induction n with
 | zero =>
  intro i hi nd b hnd hb hbl
  have q1:¬ i<c.gates.length:=by omega
  rw [List.drop_eq_nil_of_le (by omega),waitF];have xw:=hQ_w (H:=H) (nd:=nd) (b:=b)
  have xp:(hQ H nd b)[p2]? = some (.cells [r0,r1]):=by rw [hQ_lo hp2]; exact hr
  have xs:=fun o=>hQ_setlo (nd:=nd) (b:=b) hp2 o
  have xp2:∀ o,((hQ H nd b).set p2 o)[p2]? = some o:=fun o=>by rw [List.getElem?_set_self (by rw [hQ_len]; omega)]
  rw [hb] at xw;refine .goB 60 ?_;simp [q1,xw,xp,xp2];rw [xs];exact .refl _
 | succ n ih =>
  intro i hi nd b hnd hb hbl
  have q1:i<c.gates.length:=by omega
  have hiB:c.gates[i].ins.length<2^10:=(hc.2.2.2.2.1 _ (List.getElem_mem q1)).2.1;rw [List.drop_eq_getElem_cons q1,waitF];refine r_wait1 c hc hw hv hm up base hbase p2 hp2 _ i q1 nd b hnd hb hbl ?_
  exact ih (i+1) (by omega) _ _ (by simp [hnd]) (by rw [byL_len]; exact hb) (fun l hl=>by
   have:=byL_bnd (plM c) i (2^20+i*2^10) c.gates[i].ins [] b hbl l hl
   rw [Nat.succ_mul]; omega)
def needsC (c:Ct):List (List Nat):=(waitF (plM c) c.gates 0 [] (List.replicate c.gates.length [])).1
def bysC (c:Ct):List (List Nat):=(waitF (plM c) c.gates 0 [] (List.replicate c.gates.length [])).2
def hWt (c:Ct) (n:Nat) (x y:AV):List Ob:=[.cells (AV.cells (eCt c)),.cells [x,y],.row 1 t_map_int_bool_2 [] none true false,.row 1 t_int_2 [] none true false,.cells (AV.cells (eCt c)),.map ((plM c).map ePl) true]
def hWait (c:Ct) (h:List Ob):List Ob:=h++hWt c h.length (.sl (h.length+7) 0 c.gates.length) (.sl (h.length+8) 0 c.gates.length)
theorem hWait_len (c:Ct) (h:List Ob):(hWait c h).length=h.length+6:=by simp [hWait,hWt]
theorem hWait_lo (c:Ct) (h:List Ob) {i:Nat} (hi:i<h.length):(hWait c h)[i]? = h[i]? := by rw [hWait,List.getElem?_append_left hi]
theorem vld_pl (i m:Nat):∀ l:List (Bs×Nat),vldM i m (l.map ePl)=true
 | []=>rfl
 | x::l=>by simp [vld_pl i m l]
set_option maxRecDepth 8000 in
theorem r_wait (c:Ct) (hc:CtFew c) (hd:(c.gates.map (·.name)).Nodup) {h:List Ob} (hw:WfO h) (hv:WfV h):∀ up,AM.Reach Tryd.prog Γ (.cl n_order_wait [eCt c] up h)
  (.back up (.agg [.sl ((hWait c h).length+1) 0 c.gates.length,.sl ((hWait c h).length+2) 0 c.gates.length]) (hQ (hWait c h) (needsC c) (bysC c))):=by
 intro up;have hN:=hc.2.2.2.1;generalize hH:h++hWt c h.length (.sl (h.length+2) 0 0) (.sl (h.length+3) 0 0)=H
 have hHl:H.length=h.length+6:=by rw [← hH]; simp [hWt]
 have hp:H[h.length]? = some (.cells (AV.cells (eCt c))):=by rw [← hH]; simp [hWt]
 have hp2:H[h.length+1]? = some (.cells [.sl (h.length+2) 0 0,.sl (h.length+3) 0 0]):=by rw [← hH]; simp [hWt]
 have hm:H[h.length+5]? = some (.map ((plM c).map ePl) true):=by rw [← hH]; simp [hWt]
 have hwH:WfO H:=fun m hm=>by
  have h1:=hw m (by omega);have h2:=bel_pl m (plM c);rw [← hH,belH_append,h1]
  simp [hWt,h2]; omega
 have hvH:WfV H:=fun i m hi=>by
  have h1:=hv i m (by omega);have h2:=vld_pl i m (plM c);rw [← hH,vldH_append,h1]
  simp [hWt,h2]; omega
 have hend:H.set (h.length+1) (.cells [.sl (H.length+1) 0 c.gates.length,.sl (H.length+2) 0 c.gates.length])=hWait c h:=by
  rw [← hH,ap_set,hWait];simp [hWt]
 have hL:=r_waitL (Γ:=Γ) c hc hwH hvH hm up h.length (by omega) (h.length+1) (by omega) hp2 c.gates.length 0 (by omega) [] (List.replicate c.gates.length []) rfl (by simp) (by simp)
 have hcv:=fun f=>r_conv (Γ:=Γ) H c.gates.length f up c.gates.length 0 (by omega)
 rw [hConv_end,hConv_zero] at hcv;rw [hend,List.drop_zero,hHl] at hL;refine .enterB 60 c_order_wait ?_;simp;refine .trans (r_places c hc hd ?_ _) ?_
 ·intro m hm;simp at hm;have h1:=hw m (by omega)
  simp [h1]; omega
 have e2:h.length+1+1=h.length+2:=rfl;have e3:h.length+1+1+1=h.length+3:=rfl;have e5:h.length+4+1=h.length+5:=rfl;refine .trans (.pop _) (.goB 60 ?_);simp [e2,e3,e5];refine .trans (.clrs [0,11,12] _) ?_;simp [clrT]
 have hR:=fun k hk C hC=>r_waitR (Γ:=Γ) (c:=c) (p:=h.length) (x2:=.ptr (h.length+1) 0) (x3:=.mp (h.length+5)) (H:=H) (up:=up) (base:=h.length) (k:=k) (C:=C) hc hp (hwH _ (Nat.le_refl _)) (by omega) (by simp; omega) (by simp; omega) hk hC
 rw [← hH] at hR;simp [hWt] at hR;refine hR _ ?_ _ ?_
 ·simp
 have hcv':∀ f,AM.Reach Tryd.prog Γ (.fr f up (h++(hWt c h.length (.sl (h.length+2) 0 0) (.sl (h.length+3) 0 0)++hW c (h.length+6)))) (.fr f up (hQ H [] (List.replicate c.gates.length []))):=fun f=>by
  rw [← List.append_assoc,hH,← hHl]; exact hcv f
 simp [hWt] at hcv';refine .trans (hcv' _) ?_;refine .goB 60 ?_;have hq:=hQ_lo (H:=H) (nd:=[]) (b:=List.replicate c.gates.length []) (lt_of_get hp);rw [hp] at hq;simp [hq];refine .inLoop ?_;simp at hL ⊢;rw [hWait_len];simp [needsC,bysC];exact hL
def hP (A:List Ob) (l s:List Nat) (g:Option Nat):List Ob:=A++[.row 1 t_int ((l++s).map iN) g true false,.cells [.sl A.length 0 l.length]]
def swp (l:List Nat) (i j:Nat):List Nat:=(l.set i (l.getD j 0)).set j (l.getD i 0)
section
variable {A : List Ob} {l s : List Nat} {g : Option Nat}
theorem hP_len:(hP A l s g).length=A.length+2:=by simp [hP]
theorem hP_r:(hP A l s g)[A.length]? = some (.row 1 t_int ((l++s).map iN) g true false):=by simp [hP]
theorem hP_c:(hP A l s g)[A.length+1]? = some (.cells [.sl A.length 0 l.length]):=by
 rw [hP,List.getElem?_append_right (by omega)]; simp
theorem hP_lo {i:Nat} (h:i<A.length):(hP A l s g)[i]? = A[i]? := by rw [hP,List.getElem?_append_left h]
theorem hP_setr {l' s':List Nat} (h:l'.length=l.length):(hP A l s g).set A.length (.row 1 t_int ((l'++s').map iN) g true false)=hP A l' s' g:=by
 have:=ap_set A [.row 1 t_int ((l++s).map iN) g true false,.cells [.sl A.length 0 l.length]] 0 (.row 1 t_int ((l'++s').map iN) g true false);rw [Nat.add_zero] at this
 rw [hP,this,hP,h]; rfl
theorem swp_len (i j:Nat):(swp l i j).length=l.length:=by simp [swp]
theorem get_iN {L:List Nat} {i:Nat} (h:i<L.length):(L.map iN)[i]? = some (.int .i64 (L.getD i 0:Nat)):=by simp [h]
end
theorem r_Len (A:List Ob) (l s:List Nat) (g:Option Nat) (hg:g=none∨g=some 0∧s=[]):∀ up,AM.Reach Tryd.prog Γ (.cl n_order_pile_Len [.sl A.length 0 l.length] up (hP A l s g)) (.back up (.int .i64 l.length) (hP A l s g)):=by
 intro up;have xr:=hP_r (A:=A) (l:=l) (s:=s) (g:=g)
 have hl2:s=[]→((l++s).map iN).length=l.length:=fun h=>by rw [h]; simp
 generalize hP A l s g=X at *;generalize hL:(l++s).map iN=L at *
 have hl:l.length≤L.length:=by rw [← hL]; simp
 rcases hg with rfl | ⟨rfl,rfl⟩
 ·refine .enterB 60 c_order_pile_Len ?_;simp [xr]
 ·have hl3:=hl2 rfl;refine .enterB 60 c_order_pile_Len ?_;simp [xr,hl3]
theorem r_Less (A:List Ob) (l s:List Nat) (g:Option Nat) (hg:g=none∨g=some 0∧s=[]) {i j:Nat} (hi:i<l.length) (hj:j<l.length):∀ up,AM.Reach Tryd.prog Γ (.cl n_order_pile_Less [.sl A.length 0 l.length,.int .i64 i,.int .i64 j] up (hP A l s g)) (.back up (.bool (decide (l.getD i 0<l.getD j 0))) (hP A l s g)):=by
 intro up;have xr:=hP_r (A:=A) (l:=l) (s:=s) (g:=g)
 have e:∀ k,k<l.length→(l++s).getD k 0=l.getD k 0:=fun k hk=>by simp [List.getElem?_append_left hk]
 have gi:=get_iN (L:=l++s) (i:=i) (by simp; omega);have gj:=get_iN (L:=l++s) (i:=j) (by simp; omega);rw [e i hi] at gi;rw [e j hj] at gj;generalize hP A l s g=X at *;generalize hL:(l++s).map iN=L at *
 have hl:l.length≤L.length:=by rw [← hL]; simp
 obtain ⟨_,gi'⟩:=List.getElem?_eq_some_iff.1 gi;obtain ⟨_,gj'⟩:=List.getElem?_eq_some_iff.1 gj;generalize l.getD i 0=vi at *;generalize l.getD j 0=vj at *
 have hl2:s=[]→L.length=l.length:=fun h=>by rw [← hL,h]; simp
 rcases hg with rfl | ⟨rfl,rfl⟩
 ·refine .enterB 60 c_order_pile_Less ?_;simp (disch:=omega) [xr,gi,gj,gi',gj',hi,hj,hl,ofCells]
 ·have hl3:=hl2 rfl;refine .enterB 60 c_order_pile_Less ?_;simp (disch:=omega) [xr,gi,gj,gi',gj',hi,hj,hl3,ofCells]
theorem setP {A:List Ob} {l s:List Nat} {i:Nat} {v:Nat} (hi:i<l.length):((l++s).map iN).set i (.int .i64 v)=(l.set i v++s).map iN:=by
 rw [List.map_append,List.set_append_left _ _ (by simpa using hi),List.map_append,List.map_set]
theorem r_Swap (A:List Ob) (l s:List Nat) (g:Option Nat) (hg:g=none∨g=some 0∧s=[]) {i j:Nat} (hi:i<l.length) (hj:j<l.length):∀ up,AM.Reach Tryd.prog Γ (.cl n_order_pile_Swap [.sl A.length 0 l.length,.int .i64 i,.int .i64 j] up (hP A l s g)) (.back up (.tup []) (hP A (swp l i j) s g)):=by
 intro up;have xr:=hP_r (A:=A) (l:=l) (s:=s) (g:=g);have xl:=hP_len (A:=A) (l:=l) (s:=s) (g:=g)
 have e:∀ k,k<l.length→(l++s).getD k 0=l.getD k 0:=fun k hk=>by simp [List.getElem?_append_left hk]
 have gi:=get_iN (L:=l++s) (i:=i) (by simp; omega);have gj:=get_iN (L:=l++s) (i:=j) (by simp; omega);rw [e i hi] at gi;rw [e j hj] at gj
 have fin:(hP A l s g).set A.length (.row 1 t_int ((((l++s).map iN).set i (.int .i64 (l.getD j 0))).set j (.int .i64 (l.getD i 0))) g true false)=hP A (swp l i j) s g:=by
  rw [setP (A:=A) hi,setP (A:=A) (by simpa using hj)];exact hP_setr (by simp)
 have hr:A.length<(hP A l s g).length:=by omega
 clear xl;generalize hP A l s g=X at *;generalize hL:(l++s).map iN=L at *
 have hl:l.length≤L.length:=by rw [← hL]; simp
 have hiL:i<L.length:=by omega
 have hjL:j<L.length:=by omega
 generalize l.getD i 0=vi at *;generalize l.getD j 0=vj at *;obtain ⟨_,gi'⟩:=List.getElem?_eq_some_iff.1 gi;obtain ⟨_,gj'⟩:=List.getElem?_eq_some_iff.1 gj;obtain ⟨_,xr'⟩:=List.getElem?_eq_some_iff.1 xr
 have gs:(L.set i (.int .i64 vj))[j]? = some (.int .i64 vj):=by
  by_cases hij:i=j
  ·subst hij; rw [List.getElem?_set_self hiL]
  ·rw [List.getElem?_set_ne hij]; exact gj
 have hl2:s=[]→L.length=l.length:=fun h=>by rw [← hL,h]; simp
 rcases hg with rfl | ⟨rfl,rfl⟩
 ·refine .enterB 60 c_order_pile_Swap ?_;simp (disch:=omega) [xr,xr',gs,gi,gj,gi',gj',hi,hj,hl,hiL,hjL,ofCells];rw [fin];exact .refl _
 ·have hl3:=hl2 rfl;refine .enterB 60 c_order_pile_Swap ?_;simp (disch:=omega) [xr,xr',gs,gi,gj,gi',gj',hi,hj,hl3,hiL,hjL,ofCells];rw [fin];exact .refl _
def upF (l:List Nat) (j:Nat):List Nat :=
 if j=0 then l else if l.getD j 0<l.getD ((j - 1) / 2) 0 then upF (swp l ((j - 1) / 2) j) ((j - 1) / 2) else l
termination_by j
decreasing_by omega
theorem upF_len (j:Nat):∀ l:List Nat,(upF l j).length=l.length:=by
 induction j using Nat.strongRecOn with
 | _ j ih =>
  intro l;rw [upF]
  split
  ·rfl
  ·rename_i h0
   split
   ·rw [ih _ (by omega),swp_len]
   ·rfl
theorem quo2 (j:Nat) (h:j≠0):((j:Int) - 1).tdiv 2=(((j - 1) / 2:Nat):Int):=by
 have e:(j:Int) - 1=((j - 1:Nat):Int):=by omega
 rw [e,Int.tdiv_eq_ediv_of_nonneg (by omega)];rfl
theorem r_up (A:List Ob) (s:List Nat) (g:Option Nat) (hg:g=none∨g=some 0∧s=[]) (up:List Fr) (base:Nat):∀ (j:Nat) (l:List Nat),j<l.length→l.length<2^40 →
  AM.Reach Tryd.prog Γ (yvn (.ifc t_order_pile (.ptr (A.length+1) 0)) (.int .i64 j) (hP A l s g) ⟨[],.norm,base,up⟩) (.back up (.tup []) (hP A (upF l j) s g)):=by
 intro j
 induction j using Nat.strongRecOn with
 | _ j ih =>
  intro l hj hl;have xc:=hP_c (A:=A) (l:=l) (s:=s) (g:=g);rw [upF]
  by_cases h0:j=0
  ·rw [if_pos h0];subst h0;generalize hP A l s g=X at *;refine .goB 60 ?_;simp [xc]
  ·rw [if_neg h0];have hq:=quo2 j h0
   have hlt:(j - 1) / 2<j:=by omega
   have hne:((((j - 1) / 2:Nat):Int)=(j:Int))=False:=eq_false (by omega);have hL:=r_Less (Γ:=Γ) A l s g hg hj (show (j - 1) / 2<l.length by omega);have hS:=r_Swap (Γ:=Γ) A l s g hg (show (j - 1) / 2<l.length by omega) hj
   by_cases hc:l.getD j 0<l.getD ((j - 1) / 2) 0
   ·rw [if_pos hc];have hh:=ih _ hlt (swp l ((j - 1) / 2) j) (by rw [swp_len]; omega) (by rw [swp_len]; exact hl);rw [decide_eq_true hc] at hL;generalize hP A l s g=X at *;generalize (j - 1) / 2=i at *;refine .goB 60 ?_;simp (disch:=omega) [xc,hq,hne];refine .rcall 60 hL ?_;simp [xc];refine .rcall 60 hS ?_;simp;refine .reLoop ?_;simp at hh ⊢;exact hh
   ·rw [if_neg hc];rw [decide_eq_false hc] at hL;generalize hP A l s g=X at *;generalize (j - 1) / 2=i at *;refine .goB 60 ?_;simp (disch:=omega) [xc,hq,hne];refine .rcall 60 hL ?_;simp [xc]
theorem r_upC (A:List Ob) (s:List Nat) (g:Option Nat) (hg:g=none∨g=some 0∧s=[]) (j:Nat) (l:List Nat) (hj:j<l.length) (hl:l.length<2^40):∀ up,
  AM.Reach Tryd.prog Γ (.cl n_container_heap_up [.ifc t_order_pile (.ptr (A.length+1) 0),.int .i64 j] up (hP A l s g)) (.back up (.tup []) (hP A (upF l j) s g)):=by
 intro up;have h:=r_up (Γ:=Γ) A s g hg up (hP A l s g).length j l hj hl;generalize hP A l s g=X at *;refine .enterB 60 c_container_heap_up ?_;simp;refine .inLoop ?_;simp at h ⊢;exact h
def kidF (l:List Nat) (j n:Nat):Nat:=if j+1<n∧l.getD (j+1) 0<l.getD j 0 then j+1 else j
def downF (n:Nat) (l:List Nat) (i:Nat):List Nat×Nat :=
 if n≤2*i+1 then (l,i) else if l.getD (kidF l (2*i+1) n) 0<l.getD i 0 then downF n (swp l i (kidF l (2*i+1) n)) (kidF l (2*i+1) n) else (l,i)
termination_by n - i
decreasing_by
 have:2*i+1≤kidF l (2*i+1) n:=by unfold kidF; split <;> omega
 omega
theorem kid_ge (l:List Nat) (j n:Nat):j≤kidF l j n:=by unfold kidF; split <;> omega
theorem kid_lt (l:List Nat) {j n:Nat} (h:j<n):kidF l j n<n:=by unfold kidF; split <;> omega
theorem downF_len (n:Nat):∀ (m i:Nat) (l:List Nat),n - i≤m→(downF n l i).1.length=l.length:=by
 intro m
 induction m with
 | zero =>
  intro i l h;rw [downF,if_pos (by omega)]
 | succ m ih =>
  intro i l h;rw [downF]
  split
  ·rfl
  ·split
   ·have:=kid_ge l (2*i+1) n;rw [ih _ _ (by omega),swp_len]
   ·rfl
theorem r_down (A:List Ob) (s:List Nat) (g:Option Nat) (hg:g=none∨g=some 0∧s=[]) (up:List Fr) (base:Nat) (n i0:Nat) (hn:n<2^40):∀ (m i:Nat) (l:List Nat),n - i≤m→i<2^41→n≤l.length→(i<l.length) →
  AM.Reach Tryd.prog Γ (yvF (.ifc t_order_pile (.ptr (A.length+1) 0)) (.int .i64 i0) (.int .i64 n) (.int .i64 i) (hP A l s g) ⟨[],.norm,base,up⟩) (.back up (.bool (decide (i0<(downF n l i).2))) (hP A (downF n l i).1 s g)):=by
 intro m
 induction m with
 | zero =>
  intro i l hm hi hnl hil;obtain ⟨j1,hj1⟩:∃ j1,j1=2*i+1:=⟨_,rfl⟩
  have e1:2*(i:Int)+1=(j1:Int):=by omega
  rw [downF,if_pos (by omega)]
  have q1:¬ j1<n:=by omega
  have q2:n≤j1:=by omega
  generalize hP A l s g=X at *;refine .goB 60 ?_;simp (disch:=omega) [e1,q1,q2]
 | succ m ih =>
  intro i l hm hi hnl hil;obtain ⟨j1,hj1⟩:∃ j1,j1=2*i+1:=⟨_,rfl⟩
  have e1:2*(i:Int)+1=(j1:Int):=by omega
  obtain ⟨j2,hj2⟩:∃ j2,j2=j1+1:=⟨_,rfl⟩
  have e2:(j1:Int)+1=(j2:Int):=by omega
  rw [downF]
  by_cases h1:n≤2*i+1
  ·rw [if_pos h1]
   have q1:¬ j1<n:=by omega
   have q2:n≤j1:=by omega
   generalize hP A l s g=X at *;refine .goB 60 ?_;simp (disch:=omega) [e1,q1,q2]
  ·rw [if_neg h1]
   have q1:j1<n:=by omega
   have q2:¬ n≤j1:=by omega
   have q3:(n:Int)≤(j1:Int)↔False:=⟨fun h=>by omega,False.elim⟩;have hkg:=kid_ge l j1 n;have hkl:=kid_lt l q1;rw [← hj1];have xc:=hP_c (A:=A) (l:=l) (s:=s) (g:=g)
   by_cases h2:j2<n
   ·have hL:=r_Less (Γ:=Γ) A l s g hg (show j2<l.length by omega) (show j1<l.length by omega)
    by_cases h3:l.getD (j2) 0<l.getD j1 0
    ·rw [decide_eq_true h3] at hL
     have hk:kidF l j1 n=j2:=by unfold kidF; rw [← hj2,if_pos ⟨h2,h3⟩]
     rw [hk];have hL2:=r_Less (Γ:=Γ) A l s g hg (show j2<l.length by omega) hil
     by_cases hc:l.getD (j2) 0<l.getD i 0
     ·rw [if_pos hc];have hS:=r_Swap (Γ:=Γ) A l s g hg hil (show j2<l.length by omega);have hh:=ih (j2) (swp l i (j2)) (by omega) (by omega) (by rw [swp_len]; omega) (by rw [swp_len]; omega);rw [decide_eq_true hc] at hL2;generalize hP A l s g=X at *;refine .goB 60 ?_;simp (disch:=omega) [xc,e1,e2,q1,q2,h2];refine .rcall 60 hL ?_;simp [xc];refine .rcall 60 hL2 ?_;simp [xc];refine .rcall 60 hS ?_;simp;refine .reLoop ?_;simp at hh ⊢;exact hh
     ·rw [if_neg hc];rw [decide_eq_false hc] at hL2;generalize hP A l s g=X at *;refine .goB 60 ?_;simp (disch:=omega) [xc,e1,e2,q1,q2,h2];refine .rcall 60 hL ?_;simp [xc];refine .rcall 60 hL2 ?_;simp [xc]
    ·rw [decide_eq_false h3] at hL
     have hk:kidF l j1 n=j1:=by unfold kidF; rw [← hj2,if_neg (fun h=>h3 h.2)]
     rw [hk];have hL2:=r_Less (Γ:=Γ) A l s g hg (show j1<l.length by omega) hil
     by_cases hc:l.getD (j1) 0<l.getD i 0
     ·rw [if_pos hc];have hS:=r_Swap (Γ:=Γ) A l s g hg hil (show j1<l.length by omega);have hh:=ih (j1) (swp l i (j1)) (by omega) (by omega) (by rw [swp_len]; omega) (by rw [swp_len]; omega);rw [decide_eq_true hc] at hL2;generalize hP A l s g=X at *;refine .goB 60 ?_;simp (disch:=omega) [xc,e1,e2,q1,q2,h2];refine .rcall 60 hL ?_;simp [xc];refine .rcall 60 hL2 ?_;simp [xc];refine .rcall 60 hS ?_;simp;refine .reLoop ?_;simp at hh ⊢;exact hh
     ·rw [if_neg hc];rw [decide_eq_false hc] at hL2;generalize hP A l s g=X at *;refine .goB 60 ?_;simp (disch:=omega) [xc,e1,e2,q1,q2,h2];refine .rcall 60 hL ?_;simp [xc];refine .rcall 60 hL2 ?_;simp [xc]
   ·have hk:kidF l j1 n=j1:=by unfold kidF; rw [← hj2,if_neg (fun h=>h2 h.1)]
    rw [hk];have hL2:=r_Less (Γ:=Γ) A l s g hg (show j1<l.length by omega) hil
    by_cases hc:l.getD (j1) 0<l.getD i 0
    ·rw [if_pos hc];have hS:=r_Swap (Γ:=Γ) A l s g hg hil (show j1<l.length by omega);have hh:=ih (j1) (swp l i (j1)) (by omega) (by omega) (by rw [swp_len]; omega) (by rw [swp_len]; omega);rw [decide_eq_true hc] at hL2;generalize hP A l s g=X at *;refine .goB 60 ?_;simp (disch:=omega) [xc,e1,e2,q1,q2,h2];refine .rcall 60 hL2 ?_;simp [xc];refine .rcall 60 hS ?_;simp;refine .reLoop ?_;simp at hh ⊢;exact hh
    ·rw [if_neg hc];rw [decide_eq_false hc] at hL2;generalize hP A l s g=X at *;refine .goB 60 ?_;simp (disch:=omega) [xc,e1,e2,q1,q2,h2];refine .rcall 60 hL2 ?_;simp [xc]
theorem r_downC (A:List Ob) (s:List Nat) (g:Option Nat) (hg:g=none∨g=some 0∧s=[]) (n i:Nat) (hn:n<2^40) (l:List Nat) (hnl:n≤l.length) (hi:i<l.length) (hi2:i<2^40):∀ up,
  AM.Reach Tryd.prog Γ (.cl n_container_heap_down [.ifc t_order_pile (.ptr (A.length+1) 0),.int .i64 i,.int .i64 n] up (hP A l s g)) (.back up (.bool (decide (i<(downF n l i).2))) (hP A (downF n l i).1 s g)):=by
 intro up;have h:=r_down (Γ:=Γ) A s g hg up (hP A l s g).length n i hn (n - i) i l (Nat.le_refl _) (by omega) hnl hi;generalize hP A l s g=X at *;refine .enterB 60 c_container_heap_down ?_;simp;refine .inLoop ?_;simp at h ⊢;exact h
def gP (s:List Nat):Option Nat:=if s=[] then some 0 else none
theorem gP_ok (s:List Nat):gP s=none∨gP s=some 0∧s.tail=[]:=by
 unfold gP
 split
 ·rename_i h; exact .inr ⟨rfl,by rw [h]; rfl⟩
 ·exact .inl rfl
theorem r_pPush (A:List Ob) (l s:List Nat) (x:Nat) (hx:x<2^40) (hl:l.length<2^40):∀ up,AM.Reach Tryd.prog Γ (.cl n_order_pile_Push [.ptr (A.length+1) 0,.ifc t_int (.int .i64 x)] up (hP A l s none)) (.back up (.tup []) (hP A (l++[x]) s.tail (gP s))):=by
 intro up;have xr:=hP_r (A:=A) (l:=l) (s:=s) (g:=none);have xc:=hP_c (A:=A) (l:=l) (s:=s) (g:=none)
 have b8:(l.length+1)*8≤140737488355328:=by omega
 have hr:A.length<(hP A l s none).length:=by rw [hP_len]; omega
 have hr1:A.length+1<(hP A l s none).length:=by rw [hP_len]; omega
 cases s with
 | nil =>
  have fin:((hP A l [] none).set A.length (.row 1 t_int (l.map iN++[.int .i64 x]) (some 0) true false)).set (A.length+1) (.cells [.sl A.length 0 (l.length+1)])=hP A (l++[x]) [] (some 0):=by
   simp [hP]
  rw [List.append_nil] at xr;rw [show gP []=some 0 from rfl];generalize hP A l [] none=X at *;obtain ⟨_,xr'⟩:=List.getElem?_eq_some_iff.1 xr;obtain ⟨_,xc'⟩:=List.getElem?_eq_some_iff.1 xc;refine .enterB 60 c_order_pile_Push ?_;simp (disch:=omega) [xr,xc,xr',xc',b8,ofCells];refine .drB 60 ?_;simp (disch:=omega) [xr,xc,xr',xc',b8,ofCells];rw [fin];exact .refl _
 | cons a s =>
  have fin:((hP A l (a::s) none).set A.length (.row 1 t_int (l.map iN++(AV.int .i64 x)::s.map iN) none true false)).set (A.length+1) (.cells [.sl A.length 0 (l.length+1)])=hP A (l++[x]) s none:=by
   simp [hP]
  rw [show gP (a::s)=none from rfl]
  have hL:((l++a::s).map iN)=l.map iN++.int .i64 a::s.map iN:=by simp
  rw [hL] at xr
  have tk:(l.map iN++AV.int .i64 a::s.map iN).take l.length=l.map iN:=by rw [List.take_append_of_le_length (by simp)]; simp
  have dr:(l.map iN++AV.int .i64 a::s.map iN).drop (l.length+1)=s.map iN:=by rw [List.drop_append,List.drop_eq_nil_of_le (by simp),show l.length+1 - (l.map iN).length=1 by simp]; rfl
  have ln:¬ (l.length=(l.map iN++AV.int .i64 a::s.map iN).length):=by simp
  have ln2:l.length+1≤(l.map iN++AV.int .i64 a::s.map iN).length:=by simp
  have ln3:l.length≤(l.map iN++AV.int .i64 a::s.map iN).length:=by simp
  generalize hP A l (a::s) none=X at *;generalize (l.map iN++AV.int .i64 a::s.map iN)=L at *;obtain ⟨_,xr'⟩:=List.getElem?_eq_some_iff.1 xr;obtain ⟨_,xc'⟩:=List.getElem?_eq_some_iff.1 xc;refine .enterB 60 c_order_pile_Push ?_;simp (disch:=omega) [xr,xc,xr',xc',b8,ofCells];refine .drB 60 ?_;simp (disch:=omega) [xr,xc,xr',xc',b8,ofCells,ln,ln2,ln3,tk,dr];rw [fin];exact .refl _
theorem r_pPop (A:List Ob) (l s:List Nat) (x:Nat) (hl:l.length<2^40):∀ up,AM.Reach Tryd.prog Γ (.cl n_order_pile_Pop [.ptr (A.length+1) 0] up (hP A (l++[x]) s none)) (.back up (.ifc t_int (.int .i64 x)) (hP A l (x::s) none)):=by
 intro up;have xr:=hP_r (A:=A) (l:=l++[x]) (s:=s) (g:=none);have xc:=hP_c (A:=A) (l:=l++[x]) (s:=s) (g:=none)
 have hr1:A.length+1<(hP A (l++[x]) s none).length:=by rw [hP_len]; omega
 have fin:(hP A (l++[x]) s none).set (A.length+1) (.cells [.sl A.length 0 l.length])=hP A l (x::s) none:=by simp [hP]
 have e:(l++[x]).length=l.length+1:=by simp
 rw [e] at xc
 have gx:(((l++[x])++s).map iN)[l.length]? = some (.int .i64 x):=by simp
 generalize hP A (l++[x]) s none=X at *;generalize hL:(((l++[x])++s).map iN)=L at *
 have hlL:l.length<L.length:=by rw [← hL]; simp
 obtain ⟨_,gx'⟩:=List.getElem?_eq_some_iff.1 gx;obtain ⟨_,xr'⟩:=List.getElem?_eq_some_iff.1 xr;obtain ⟨_,xc'⟩:=List.getElem?_eq_some_iff.1 xc;refine .enterB 60 c_order_pile_Pop ?_;simp (disch:=omega) [xr,xc,xr',xc',gx,gx',ofCells];rw [fin];exact .refl _
def pushF (l:List Nat) (x:Nat):List Nat:=upF (l++[x]) l.length
theorem r_Push (A:List Ob) (l s:List Nat) (x:Nat) (hx:x<2^40) (hl:l.length<2^39):∀ up,AM.Reach Tryd.prog Γ (.cl n_container_heap_Push [.ifc t_order_pile (.ptr (A.length+1) 0),.ifc t_int (.int .i64 x)] up (hP A l s none)) (.back up (.tup []) (hP A (pushF l x) s.tail (gP s))):=by
 intro up;have h1:=r_pPush (Γ:=Γ) A l s x hx (by omega);have h2:=r_Len (Γ:=Γ) A (l++[x]) s.tail (gP s) (gP_ok s);have h3:=r_upC (Γ:=Γ) A s.tail (gP s) (gP_ok s) l.length (l++[x]) (by simp) (by simp; omega);have hxc:=hP_c (A:=A) (l:=l++[x]) (s:=s.tail) (g:=gP s)
 have e:(l++[x]).length=l.length+1:=by simp
 rw [e] at hxc h2;rw [pushF];refine .enterB 60 c_container_heap_Push ?_;simp;refine .rcall 60 h1 ?_;generalize hP A (l++[x]) s.tail (gP s)=X at *;simp [hxc];refine .rcall 60 h2 ?_;simp (disch:=omega);refine .rcall 60 h3 ?_;simp
def popF (l:List Nat):List Nat:=(downF (l.length - 1) (swp l 0 (l.length - 1)) 0).1
theorem popF_len (l:List Nat):(popF l).length=l.length:=by rw [popF,downF_len _ _ _ _ (Nat.le_refl _),swp_len]
theorem r_Pop (A:List Ob) (l s:List Nat) (h0:0<l.length) (hl:l.length<2^39):∀ up,AM.Reach Tryd.prog Γ (.cl n_container_heap_Pop [.ifc t_order_pile (.ptr (A.length+1) 0)] up (hP A l s none)) (.back up (.ifc t_int (.int .i64 ((popF l).getD (l.length - 1) 0:Nat))) (hP A ((popF l).take (l.length - 1)) ((popF l).getD (l.length - 1) 0::s) none)):=by
 intro up;obtain ⟨n,hn⟩:∃ n,l.length=n+1:=⟨l.length - 1,by omega⟩;have h1:=r_Len (Γ:=Γ) A l s none (.inl rfl);have h2:=r_Swap (Γ:=Γ) A l s none (.inl rfl) h0 (show n<l.length by omega);have h3:=r_downC (Γ:=Γ) A s none (.inl rfl) n 0 (by omega) (swp l 0 n) (by rw [swp_len]; omega) (by rw [swp_len]; omega) (by omega)
 have e:(downF n (swp l 0 n) 0).1=popF l:=by rw [popF,hn]; rfl
 have el:=popF_len l
 have e2:popF l=(popF l).take n++[(popF l).getD n 0]:=by
  have hlt:n<(popF l).length:=by omega
  have h5:(popF l).getD n 0=(popF l)[n]:=by rw [List.getD_eq_getElem?_getD,List.getElem?_eq_getElem hlt]; rfl
  rw [h5]
  conv=>lhs; rw [← List.take_append_drop n (popF l)]
  congr 1;rw [List.drop_eq_getElem_cons hlt,List.drop_eq_nil_of_le (by omega)]
 have h4:=r_pPop (Γ:=Γ) A ((popF l).take n) s ((popF l).getD n 0) (by rw [List.length_take]; omega);have c1:=hP_c (A:=A) (l:=l) (s:=s) (g:=none);have c2:=hP_c (A:=A) (l:=swp l 0 n) (s:=s) (g:=none);have c3:=hP_c (A:=A) (l:=popF l) (s:=s) (g:=none);rw [← e2] at h4;rw [e] at h3;rw [hn] at h1 h2 c1;rw [swp_len,hn] at c2;rw [el,hn] at c3
 have en:l.length - 1=n:=by omega
 have hn40:n<2^40:=by omega
 rw [en];clear hn en h0 hl el e2 e;generalize (popF l).getD n 0=x at *;generalize (popF l).take n=l' at *;generalize hP A l s none=X at *;generalize hP A (swp l 0 n) s none=Y at *;generalize hP A (popF l) s none=Z at *;refine .enterB 60 c_container_heap_Pop ?_;simp [c1];refine .rcall 60 h1 ?_;simp (disch:=omega) [c1];simp at h2 h3;refine .rcall 60 h2 ?_;simp (disch:=omega) [c2];refine .rcall 60 h3 ?_;simp (disch:=omega) [c3];refine .rcall 60 h4 ?_;simp
theorem Reach.ycall {P:Program} {fn:FuncId} {k:List It} {ds:List ADef} {kind:FK} {base:Nat} {up:List Fr} {h h':List Ob} {t:List AV} {d:Option Nat} {a:AO} {os:List AG} {l:Nat} {args:List AV} {v:AV} {C:AM.Cfg}
  (ha:aop P Γ t h a=.yield l args) (hb:AM.Reach P Γ ((Cal.yl l).cfg args (⟨.run,fn,.ops (⟨d,none,a⟩::os)::k,t,ds,kind,base⟩::up) h) (.back (⟨.run,fn,.ops (⟨d,none,a⟩::os)::k,t,ds,kind,base⟩::up) v h'))
  (hn:AM.Reach P Γ (.fr ⟨.run,fn,.ops os::k,setD t d v,ds,kind,base⟩ up h') C):AM.Reach P Γ (.fr ⟨.run,fn,.ops (⟨d,none,a⟩::os)::k,t,ds,kind,base⟩ up h) C:=by
 refine .goB 1 ?_;rw [go_op,ha];exact .trans hb (.trans (.pop _) hn)
theorem waitF_len1 (pl:List (Bs×Nat)):∀ (l:List Gt) (i:Nat) (nd b:List (List Nat)),(waitF pl l i nd b).1.length=nd.length+l.length
 | [],_,_,_=>by simp [waitF]
 | g::r,i,nd,b=>by rw [waitF,waitF_len1 pl r]; simp; omega
theorem waitF_len2 (pl:List (Bs×Nat)):∀ (l:List Gt) (i:Nat) (nd b:List (List Nat)),(waitF pl l i nd b).2.length=b.length
 | [],_,_,_=>by simp [waitF]
 | g::r,i,nd,b=>by rw [waitF,waitF_len2 pl r,byL_len]
theorem needsC_len (c:Ct):(needsC c).length=c.gates.length:=by rw [needsC,waitF_len1]; simp
theorem bysC_len (c:Ct):(bysC c).length=c.gates.length:=by rw [bysC,waitF_len2]; simp
def aC (c:Ct) (M:List Ob) (nd:List (List Nat)):List Ob:=hQ (hWait c M) nd (bysC c)++[.cells [.sl (M.length+7) 0 c.gates.length,.sl (M.length+8) 0 c.gates.length]]
def tC (c:Ct) (n:Nat) (nd:List (List Nat)):List Ob :=
 hWt c n (.sl (n+7) 0 c.gates.length) (.sl (n+8) 0 c.gates.length)++(hF (n+6) c.gates.length nd.length (bysC c)++((bysC c).map rowI++nd.map mapI))++[.cells [.sl (n+7) 0 c.gates.length,.sl (n+8) 0 c.gates.length]]
section
variable {c : Ct} {M : List Ob} {nd : List (List Nat)}
theorem aC_eq:aC c M nd=M++tC c M.length nd:=by
 have hl:(M++hWt c M.length (.sl (M.length+7) 0 c.gates.length) (.sl (M.length+8) 0 c.gates.length)).length=M.length+6:=by simp [hWt]
 simp only [aC,hQ,tC,hWait,hl,bysC_len,List.append_assoc]
theorem aC_len (hn:nd.length=c.gates.length):(aC c M nd).length=M.length+(10+(c.gates.length+c.gates.length)):=by
 simp [aC,hQ_len,hWait_len,bysC_len,hn]; omega
theorem aC_lt {i:Nat} (h:i<(hQ (hWait c M) nd (bysC c)).length):(aC c M nd)[i]? = (hQ (hWait c M) nd (bysC c))[i]? := by rw [aC,List.getElem?_append_left h]
theorem aC_w (hn:nd.length=c.gates.length):(aC c M nd)[M.length+(9+(c.gates.length+c.gates.length))]? = some (.cells [.sl (M.length+7) 0 c.gates.length,.sl (M.length+8) 0 c.gates.length]):=by
 have hl:(hQ (hWait c M) nd (bysC c)).length=M.length+(9+(c.gates.length+c.gates.length)):=by rw [hQ_len,hWait_len,bysC_len,hn]; omega
 rw [aC,List.getElem?_append_right (by omega),hl,Nat.sub_self]; rfl
theorem aC_n (hn:nd.length=c.gates.length):(aC c M nd)[M.length+7]? = some (.row 1 t_map_int_bool_2 (needE (M.length+6) c.gates.length c.gates.length) none (decide (c.gates.length=0)) false):=by
 have h:=hQ_n (H:=hWait c M) (nd:=nd) (b:=bysC c);rw [hWait_len,bysC_len,hn] at h
 rw [aC_lt (by rw [hQ_len,hWait_len]; omega)]; exact h
theorem aC_b:(aC c M nd)[M.length+8]? = some (.row 1 t_int_2 (byE (M.length+6) (bysC c)) none (decide (c.gates.length=0)) false):=by
 have h:=hQ_b (H:=hWait c M) (nd:=nd) (b:=bysC c);rw [hWait_len,bysC_len] at h
 rw [aC_lt (by rw [hQ_len,hWait_len]; omega)]; exact h
theorem aC_r {k:Nat} (hk:k<c.gates.length):(aC c M nd)[M.length+(9+k)]? = some (rowI ((bysC c).getD k [])):=by
 have h:=hQ_r (H:=hWait c M) (nd:=nd) (b:=bysC c) (k:=k) (by rw [bysC_len]; exact hk);rw [hWait_len] at h
 rw [aC_lt (by rw [hQ_len,hWait_len,bysC_len]; omega),show M.length+(9+k)=M.length+6+(3+k) by omega,h,List.getD_eq_getElem?_getD,List.getElem?_eq_getElem (by rw [bysC_len]; exact hk)]; rfl
theorem aC_m {i:Nat} (hn:nd.length=c.gates.length) (hi:i<c.gates.length):(aC c M nd)[M.length+(9+(c.gates.length+i))]? = some (mapI (nd.getD i [])):=by
 have h:=hQ_m (H:=hWait c M) (nd:=nd) (b:=bysC c) (i:=i) (by omega);rw [hWait_len,bysC_len] at h
 rw [aC_lt (by rw [hQ_len,hWait_len,bysC_len]; omega),show M.length+(9+(c.gates.length+i))=M.length+6+(3+(c.gates.length+i)) by omega,h,List.getD_eq_getElem?_getD,List.getElem?_eq_getElem (by omega)]; rfl
theorem aC_setm {i:Nat} (l:List Nat) (hn:nd.length=c.gates.length) (hi:i<c.gates.length):(aC c M nd).set (M.length+(9+(c.gates.length+i))) (mapI l)=aC c M (nd.set i l):=by
 have h:=hQ_setm (H:=hWait c M) (b:=bysC c) (nd:=nd) (i:=i) l (by omega);rw [hWait_len,bysC_len] at h;rw [aC,List.set_append_left _ _ (by rw [hQ_len,hWait_len,bysC_len]; omega),show M.length+(9+(c.gates.length+i))=M.length+6+(3+(c.gates.length+i)) by omega,h,aC]
theorem hWt_wf (c:Ct) {n m:Nat} (h:n+8<m):belH m (hWt c n (.sl (n+7) 0 c.gates.length) (.sl (n+8) 0 c.gates.length))=true:=by
 have h2:=bel_pl m (plM c)
 simp [hWt,h2]; omega
theorem aC_vld (hv:WfV M) {i m:Nat} (hi:M.length+(9+c.gates.length)≤i):vldH i m (aC c M nd)=true:=by
 have h1:=hv i m (by omega);have h2:=vld_pl i m (plM c)
 have h3:vldL i m (byE (M.length+6) (bysC c))=true:=vld_byE _ fun j hj he=>by rw [bysC_len] at hj; omega
 have h4:=vld_needE (n:=M.length+6) (N:=c.gates.length) (m:=nd.length) (i:=i) (q:=m);rw [aC_eq,vldH_append,tC,vldH_append,vldH_append,vldH_append,vldH_append,h1,vld_rows,vld_maps];simp [hWt,hF,h2,h3,h4];omega
theorem tC_vld {r m:Nat} (n:Nat) (hr:r<n):vldH r m (tC c n nd)=true:=by
 have h2:=vld_pl r m (plM c)
 have h3:vldL r m (byE (n+6) (bysC c))=true:=vld_byE _ fun j hj he=>by omega
 have h4:=vld_needE (n:=n+6) (N:=c.gates.length) (m:=nd.length) (i:=r) (q:=m);rw [tC,vldH_append,vldH_append,vldH_append,vldH_append,vld_rows,vld_maps];simp [hWt,hF,h2,h3,h4];omega
end
def delN (a:Nat) (l:List Nat):List Nat:=l.filter fun x=>decide (¬ x=a)
theorem del_cur (a:Nat):∀ {l:List Nat},l.Nodup→delIn (.sc .int) (.int .i64 a) (l.map eK)=some ((delN a l).map eK)
 | [],_=>rfl
 | b::l,h=>by
  simp only [List.nodup_cons] at h
  by_cases h2:a=b
  ·subst h2
   have h3:delN a l=l:=by
    unfold delN;rw [List.filter_eq_self];intro x hx
    exact decide_eq_true fun hn=>h.1 (hn▸hx)
   have h4:delN a (a::l)=l:=by rw [← h3]; simp [delN]
   simp only [List.map_cons,delIn,eq_nat,decide_true,h4]
  ·have h4:delN a (b::l)=b::delN a l:=by
    unfold delN;rw [List.filter_cons,if_pos (by simpa using fun h=>h2 h.symm)]
   simp only [List.map_cons,delIn,eq_nat,h2,decide_false,del_cur a h.2,Option.map_some,h4]
theorem delN_nodup (a:Nat) {l:List Nat} (h:l.Nodup):(delN a l).Nodup:=h.filter _
theorem pushF_len (l:List Nat) (x:Nat):(pushF l x).length=l.length+1:=by rw [pushF,upF_len]; simp
def initN (nd:List (List Nat)):Nat→Nat→List Nat→List Nat
 | 0,_,l=>l
 | m+1,i,l=>initN nd m (i+1) (if nd.getD i []=[] then pushF l i else l)
def relS (a:Nat):List Nat→List (List Nat)→List Nat→List Nat→List (List Nat)×List Nat×List Nat
 | [],nd,l,s=>(nd,l,s)
 | i::r,nd,l,s=>if delN a (nd.getD i [])=[] then relS a r (nd.set i (delN a (nd.getD i []))) (pushF l i) s.tail else relS a r (nd.set i (delN a (nd.getD i []))) l s
theorem r_unmark {A:List Ob} {l s:List Nat} (s0:List Nat) (hs:s=s0.tail) {f:Fr} {up:List Fr} (hb:f.base≤A.length) (hf:∀ m,vldF A.length m f=true) (hv:∀ m,vldH A.length m A=true) :
  AM.Reach Tryd.prog Γ (.fr f up (hP A l s (gP s0))) (.fr f up (hP A l s none)):=by
 unfold gP
 split
 ·rename_i h0
  have hs0:s=[]:=by rw [hs,h0]; rfl
  subst hs0
  have e:(hP A l [] (some 0)).set A.length (.row 1 t_int ((l++[]).map iN) none true false)=hP A l [] none:=by simp [hP]
  refine .resetTo (hP_r (A:=A) (l:=l) (s:=[]) (g:=some 0)) hb (hf _) (by
   rw [hP,vldH_append,hv]
   simp) ?_
  rw [e];exact .refl _
 ·exact .refl _
set_option maxRecDepth 8000 in
theorem r_cm14 (c:Ct) (hc:CtFew c) {M:List Ob} (hv:WfV M) (nd:List (List Nat)) (hn:nd.length=c.gates.length) (L:Nat) (p:AV) (up:List Fr):∀ m i:Nat,i+m=c.gates.length→∀ l:List Nat,l.length≤i →
  AM.Reach Tryd.prog Γ (yrE (.yld L) (.ptr (M.length+(9+(c.gates.length+c.gates.length))) 0) (.ptr (M.length+(11+(c.gates.length+c.gates.length))) 0) (.int .i64 c.gates.length) (.int .i64 i) (hP (aC c M nd) l [] none) ⟨[],.norm,M.length,up⟩)
   (yrF (.yld L) (.ptr (M.length+(9+(c.gates.length+c.gates.length))) 0) (.ptr (M.length+(11+(c.gates.length+c.gates.length))) 0) (hP (aC c M nd) (initN nd m i l) [] none) ⟨[],.norm,M.length,up⟩):=by
 have hN:=hc.2.2.2.1;intro m
 induction m with
 | zero =>
  intro i hi l hl
  have q1:¬ i<c.gates.length:=by omega
  rw [initN];generalize hP (aC c M nd) l [] none=X at *;refine .goS 60 ?_;simp [q1];exact .exit rfl rfl
 | succ m ih =>
  intro i hi l hl
  have q1:i<c.gates.length:=by omega
  have hAl:=aC_len (M:=M) hn;have xw:=hP_lo (A:=aC c M nd) (l:=l) (s:=[]) (g:=none) (i:=M.length+(9+(c.gates.length+c.gates.length))) (by omega);have xn:=hP_lo (A:=aC c M nd) (l:=l) (s:=[]) (g:=none) (i:=M.length+7) (by omega);have xm:=hP_lo (A:=aC c M nd) (l:=l) (s:=[]) (g:=none) (i:=M.length+(9+(c.gates.length+i))) (by omega);rw [aC_w hn] at xw;rw [aC_n hn] at xn;rw [aC_m hn q1,mapI] at xm;have yn:=needE_get (n:=M.length+6) (N:=c.gates.length) q1;rw [show M.length+6+(3+(c.gates.length+i))=M.length+(9+(c.gates.length+i)) by omega] at yn;have yl:=needE_len (n:=M.length+6) (N:=c.gates.length) (m:=c.gates.length) (Nat.le_refl _);have yt:List.take c.gates.length (needE (M.length+6) c.gates.length c.gates.length)=needE (M.length+6) c.gates.length c.gates.length:=List.take_of_length_le (by rw [yl]; exact Nat.le_refl _);obtain ⟨_,yn'⟩:=List.getElem?_eq_some_iff.1 yn;rw [initN]
  by_cases h0:nd.getD i []=[]
  ·have hh:=ih (i+1) (by omega) (pushF l i) (by rw [pushF_len]; omega);have hP':=r_Push (Γ:=Γ) (aC c M nd) l [] i (by omega) (by omega)
   have hun:=fun f hb hf=>r_unmark (Γ:=Γ) (l:=pushF l i) (s:=[]) [] rfl (f:=f) (up:=up) hb hf (fun m=>aC_vld hv (nd:=nd) (by rw [hAl]; omega))
   rw [hAl] at hun hP';rw [show M.length+(10+(c.gates.length+c.gates.length))+1=M.length+(11+(c.gates.length+c.gates.length)) by omega] at hP';rw [if_pos h0];rw [h0] at xm;generalize hP (aC c M nd) l [] none=X at *;generalize hP (aC c M nd) (pushF l i) [] none=Y at *;rw [List.tail_nil] at hP';generalize hP (aC c M nd) (pushF l i) [] (gP [])=Z at *;generalize needE (M.length+6) c.gates.length c.gates.length=E at *;refine .goS 60 ?_;simp (disch:=omega) [q1,xw,xn,xm,yn,yl,yt,yn'];refine .rcallM 1 60 hP' ?_;simp (disch:=omega);refine .trans (hun _ (by simp) (by intro m; simp; omega)) ?_;refine .reLoop ?_;simp at hh ⊢;exact hh
  ·have hh:=ih (i+1) (by omega) l (by omega);rw [if_neg h0]
   have xln:¬ (nd.getD i []).length=0:=by simpa using h0
   generalize nd.getD i []=z at *
   have e0:(((z.map eK).length:Nat):Int)=0↔False:=by simp; exact h0
   generalize hP (aC c M nd) l [] none=X at *;generalize needE (M.length+6) c.gates.length c.gates.length=E at *;refine .goS 60 ?_;simp (disch:=omega) [q1,xw,xn,xm,yn,yl,yt,yn',h0,xln];refine .reLoop ?_;simp at hh ⊢;exact hh
theorem hP_setlo {A:List Ob} {l s:List Nat} {g:Option Nat} {i:Nat} (h:i<A.length) (o:Ob):(hP A l s g).set i o=hP (A.set i o) l s g:=by
 rw [hP,List.set_append_left _ _ h,hP,List.length_set]
set_option maxRecDepth 8000 in
theorem r_cm1 (c:Ct) (hc:CtFew c) {M:List Ob} (hv:WfV M) (L a:Nat) (ha:a<c.gates.length) (hb:∀ i∈(bysC c).getD a [],i<c.gates.length) (up:List Fr):∀ m j:Nat,j+m=((bysC c).getD a []).length→∀ (nd:List (List Nat)) (l s:List Nat),nd.length=c.gates.length→(∀ x∈nd,x.Nodup)→l.length+m<2^38→j+m<2^38 →
  AM.Reach Tryd.prog Γ (yrz (.yld L) (.ptr (M.length+(9+(c.gates.length+c.gates.length))) 0) (.ptr (M.length+(11+(c.gates.length+c.gates.length))) 0) (.int .i64 a) (.sl (M.length+(9+a)) 0 ((bysC c).getD a []).length) (.int .i64 ((bysC c).getD a []).length) (.int .i64 j) (hP (aC c M nd) l s none) ⟨[],.norm,M.length,up⟩)
   (yrA (.yld L) (.ptr (M.length+(9+(c.gates.length+c.gates.length))) 0) (.ptr (M.length+(11+(c.gates.length+c.gates.length))) 0) (hP (aC c M (relS a (((bysC c).getD a []).drop j) nd l s).1) (relS a (((bysC c).getD a []).drop j) nd l s).2.1 (relS a (((bysC c).getD a []).drop j) nd l s).2.2 none) ⟨[],.norm,M.length,up⟩):=by
 have hN:=hc.2.2.2.1;intro m
 induction m with
 | zero =>
  intro j hj nd l s hn hd hl hj2
  have q1:¬ j<((bysC c).getD a []).length:=by omega
  rw [List.drop_eq_nil_of_le (by omega),relS];generalize (bysC c).getD a []=bs at *;generalize hP (aC c M nd) l s none=X at *;refine .goS 60 ?_;simp [q1];exact .exit rfl rfl
 | succ m ih =>
  intro j hj nd l s hn hd hl hj2;have xr:=hP_lo (A:=aC c M nd) (l:=l) (s:=s) (g:=none) (i:=M.length+(9+a)) (by rw [aC_len hn]; omega);rw [aC_r ha] at xr;generalize hbs:(bysC c).getD a []=bs at *
  have q1:j<bs.length:=by omega
  have hi:=hb _ (List.getElem_mem q1)
  have xi:(bs.map iN)[j]? = some (.int .i64 (bs[j]:Nat)):=by simp [q1]
  rw [List.drop_eq_getElem_cons q1,relS];generalize bs[j]=i at *;have hAl:=aC_len (M:=M) hn;have xw:=hP_lo (A:=aC c M nd) (l:=l) (s:=s) (g:=none) (i:=M.length+(9+(c.gates.length+c.gates.length))) (by omega);have xn:=hP_lo (A:=aC c M nd) (l:=l) (s:=s) (g:=none) (i:=M.length+7) (by omega);have xm:=hP_lo (A:=aC c M nd) (l:=l) (s:=s) (g:=none) (i:=M.length+(9+(c.gates.length+i))) (by omega);rw [aC_w hn] at xw;rw [aC_n hn] at xn;rw [aC_m hn hi,mapI] at xm;rw [rowI] at xr
  have hXl:(hP (aC c M nd) l s none).length=M.length+(12+(c.gates.length+c.gates.length)):=by rw [hP_len,hAl]; omega
  have xs:∀ o,((hP (aC c M nd) l s none).set (M.length+(9+(c.gates.length+i))) o)[M.length+(9+(c.gates.length+i))]? = some o:=fun o=>List.getElem?_set_self (by omega)
  clear hXl;have yn:=needE_get (n:=M.length+6) (N:=c.gates.length) hi;rw [show M.length+6+(3+(c.gates.length+i))=M.length+(9+(c.gates.length+i)) by omega] at yn;have yl:=needE_len (n:=M.length+6) (N:=c.gates.length) (m:=c.gates.length) (Nat.le_refl _);have yt:List.take c.gates.length (needE (M.length+6) c.gates.length c.gates.length)=needE (M.length+6) c.gates.length c.gates.length:=List.take_of_length_le (by rw [yl]; exact Nat.le_refl _);obtain ⟨_,yn'⟩:=List.getElem?_eq_some_iff.1 yn
  have hnd:(nd.getD i []).Nodup:=by
   rw [List.getD_eq_getElem?_getD,List.getElem?_eq_getElem (by omega)];exact hd _ (List.getElem_mem _)
  have dc:=del_cur a hnd
  have fin:(hP (aC c M nd) l s none).set (M.length+(9+(c.gates.length+i))) (.map ((delN a (nd.getD i [])).map eK) true)=hP (aC c M (nd.set i (delN a (nd.getD i [])))) l s none:=by
   rw [hP_setlo (by omega),← aC_setm _ hn hi]; rfl
  have hn2:(nd.set i (delN a (nd.getD i []))).length=c.gates.length:=by rw [List.length_set]; exact hn
  have hd2:∀ x∈nd.set i (delN a (nd.getD i [])),x.Nodup:=fun x hx=>by
   rcases List.mem_or_eq_of_mem_set hx with h1 | h1
   ·exact hd x h1
   ·rw [h1]; exact delN_nodup a hnd
  have hAl2:=aC_len (M:=M) hn2
  by_cases h0:delN a (nd.getD i [])=[]
  ·have hh:=ih (j+1) (by omega) (nd.set i (delN a (nd.getD i []))) (pushF l i) s.tail hn2 hd2 (by rw [pushF_len]; omega) (by omega);have hP':=r_Push (Γ:=Γ) (aC c M (nd.set i (delN a (nd.getD i [])))) l s i (by omega) (by omega)
   have hun:=fun f hb hf=>r_unmark (Γ:=Γ) (l:=pushF l i) (s:=s.tail) s rfl (f:=f) (up:=up) hb hf (fun m=>aC_vld hv (nd:=nd.set i (delN a (nd.getD i []))) (by rw [hAl2]; omega))
   rw [hAl2] at hun hP';rw [show M.length+(10+(c.gates.length+c.gates.length))+1=M.length+(11+(c.gates.length+c.gates.length)) by omega] at hP';rw [if_pos h0]
   have hlz:(delN a (nd.getD i [])).length=0:=by rw [h0]; rfl
   rw [h0] at dc fin;rw [h0] at hP' hun hh ⊢;generalize (relS a (bs.drop (j+1)) (nd.set i []) (pushF l i) s.tail)=R at *;generalize hP (aC c M nd) l s none=X at *;generalize hP (aC c M (nd.set i [])) l s none=Y at *;generalize hP (aC c M (nd.set i [])) (pushF l i) s.tail none=Z at *;generalize hP (aC c M (nd.set i [])) (pushF l i) s.tail (gP s)=W at *;generalize needE (M.length+6) c.gates.length c.gates.length=E at *;generalize hLz:nd.getD i []=z at *;refine .goS 60 ?_;simp (disch:=omega) [q1,xr,xi,xw,xn,xm,yn,yl,yt,yn',hi,dc,xs,isKey,allDatum,isDatum];simp at fin;rw [fin];refine .rcallM 1 60 hP' ?_;simp (disch:=omega);refine .trans (hun _ (by simp) (by intro m; simp; omega)) ?_;refine .reLoop ?_;simp at hh ⊢;exact hh
  ·have hh:=ih (j+1) (by omega) (nd.set i (delN a (nd.getD i []))) l s hn2 hd2 (by omega) (by omega);rw [if_neg h0]
   have xln:¬ (delN a (nd.getD i [])).length=0:=by simpa using h0
   generalize (relS a (bs.drop (j+1)) (nd.set i (delN a (nd.getD i []))) l s)=R at *;generalize hP (aC c M nd) l s none=X at *;generalize hP (aC c M (nd.set i (delN a (nd.getD i [])))) l s none=Y at *;generalize needE (M.length+6) c.gates.length c.gates.length=E at *;generalize delN a (nd.getD i [])=z' at *;generalize hLz:nd.getD i []=z at *;refine .goS 60 ?_;simp (disch:=omega) [q1,xr,xi,xw,xn,xm,yn,yl,yt,yn',hi,dc,xs,isKey,allDatum,isDatum,h0,xln];rw [fin];refine .reLoop ?_;simp at hh ⊢;exact hh
end Go.Proofs.YtpkngebjapfibaaDoor
namespace Go.Proofs.YtpkngebjapfibaaDoor
open Go.AM Go.Proofs
theorem swp_perm {l:List Nat} {i j:Nat} (hi:i<l.length) (hj:j<l.length):(swp l i j).Perm l:=by
 rw [List.perm_iff_count];intro a
 have e1:l.getD i 0=l[i]:=by rw [List.getD_eq_getElem?_getD,List.getElem?_eq_getElem hi]; rfl
 have e2:l.getD j 0=l[j]:=by rw [List.getD_eq_getElem?_getD,List.getElem?_eq_getElem hj]; rfl
 have e3:(l.set i l[j])[j]'(by simpa using hj)=l[j]:=by
  rw [List.getElem_set]; split <;> rfl
 rw [swp,e1,e2,List.count_set (by simpa using hj),List.count_set hi,e3]
 have hp:l[i]=a→0<l.count a:=fun h=>List.count_pos_iff.2 (h▸List.getElem_mem hi)
 by_cases h1:l[i]=a
 ·have:=hp h1
  by_cases h2:l[j]=a <;> simp [h1,h2] <;> omega
 ·by_cases h2:l[j]=a <;> simp [h1,h2]
theorem upF_perm (j:Nat):∀ l:List Nat,j<l.length→(upF l j).Perm l:=by
 induction j using Nat.strongRecOn with
 | _ j ih =>
  intro l hj;rw [upF]
  split
  ·exact .refl _
  ·split
   ·exact (ih _ (by omega) _ (by rw [swp_len]; omega)).trans (swp_perm (by omega) hj)
   ·exact .refl _
theorem downF_perm (n:Nat):∀ (m i:Nat) (l:List Nat),n - i≤m→n≤l.length→i<l.length→(downF n l i).1.Perm l:=by
 intro m
 induction m with
 | zero =>
  intro i l h hn hi;rw [downF,if_pos (by omega)]
 | succ m ih =>
  intro i l h hn hi;rw [downF]
  split
  ·exact .refl _
  ·split
   ·have:=kid_ge l (2*i+1) n;have:=kid_lt l (j:=2*i+1) (n:=n) (by omega);exact (ih _ _ (by omega) (by rw [swp_len]; omega) (by rw [swp_len]; omega)).trans (swp_perm hi (by omega))
   ·exact .refl _
theorem pushF_perm (l:List Nat) (x:Nat):(pushF l x).Perm (x::l):=(upF_perm _ _ (by simp)).trans List.perm_append_comm
def headP (l:List Nat):Nat:=(popF l).getD (l.length - 1) 0
def restP (l:List Nat):List Nat:=(popF l).take (l.length - 1)
theorem popF_perm {l:List Nat} (h:0<l.length):(popF l).Perm l:=by
 rw [popF];exact (downF_perm _ _ _ _ (Nat.le_refl _) (by rw [swp_len]; omega) (by rw [swp_len]; omega)).trans (swp_perm h (by omega))
theorem popF_split {l:List Nat} (h:0<l.length):popF l=restP l++[headP l]:=by
 have hl:=popF_len l
 have hlt:l.length - 1<(popF l).length:=by omega
 have h5:(popF l).getD (l.length - 1) 0=(popF l)[l.length - 1]:=by rw [List.getD_eq_getElem?_getD,List.getElem?_eq_getElem hlt]; rfl
 rw [headP,restP,h5]
 conv=>lhs; rw [← List.take_append_drop (l.length - 1) (popF l)]
 congr 1;rw [List.drop_eq_getElem_cons hlt,List.drop_eq_nil_of_le (by omega)]
theorem head_rest {l:List Nat} (h:0<l.length):(headP l::restP l).Perm l:=by
 have:=popF_perm h;rw [popF_split h] at this;exact List.perm_append_comm.symm.trans this
theorem restP_len (l:List Nat):(restP l).length=l.length - 1:=by rw [restP,List.length_take,popF_len]; omega
def HeapN (n:Nat) (l:List Nat):Prop:=∀ k,0<k→k<n→l.getD ((k - 1) / 2) 0≤l.getD k 0
theorem swp_get {l:List Nat} {i j:Nat} (hi:i<l.length) (hj:j<l.length) (k:Nat):(swp l i j).getD k 0=if k=j then l.getD i 0 else if k=i then l.getD j 0 else l.getD k 0:=by
 simp only [swp,List.getD_eq_getElem?_getD,List.getElem?_set,List.length_set]
 by_cases h1:j=k
 ·subst h1; simp [hj]
 ·have h1':¬ k=j:=fun h=>h1 h.symm
  by_cases h2:i=k
  ·subst h2; simp [h1,h1',hi]
  ·have h2':¬ k=i:=fun h=>h2 h.symm
   simp [h1,h1',h2,h2']
theorem upF_heap (j:Nat):∀ l:List Nat,j<l.length→(∀ k,0<k→k<l.length→k≠j→l.getD ((k - 1) / 2) 0≤l.getD k 0)→(0<j→∀ k,k<l.length→0<k→(k - 1) / 2=j→l.getD ((j - 1) / 2) 0≤l.getD k 0)→HeapN l.length (upF l j):=by
 induction j using Nat.strongRecOn with
 | _ j ih =>
  intro l hj h1 h2;rw [upF]
  split
  ·rename_i h0;intro k hk hkl;exact h1 k hk hkl (by omega)
  ·rename_i h0
   have hpl:(j - 1) / 2<l.length:=by omega
   split
   ·rename_i hlt;have hs:=swp_get hpl hj
    have key:HeapN (swp l ((j - 1) / 2) j).length (upF (swp l ((j - 1) / 2) j) ((j - 1) / 2)):=by
     refine ih _ (by omega) _ (by rw [swp_len]; exact hpl) (fun k hk hkl hkp => ?_) (fun hp k hkl hk hkp => ?_)
     ·rw [swp_len] at hkl;rw [hs,hs]
      have hq:¬ (k - 1) / 2=j∨(k - 1) / 2=j:=by omega
      by_cases hkj:k=j
      ·subst hkj;rw [if_neg (by omega),if_pos rfl,if_pos rfl];omega
      ·rw [if_neg hkj,if_neg hkp];have hk1:=h1 k hk hkl hkj
       by_cases hc:(k - 1) / 2=j
       ·rw [if_pos hc];exact h2 (by omega) k hkl hk hc
       ·rw [if_neg hc]
        by_cases hd:(k - 1) / 2=(j - 1) / 2
        ·rw [if_pos hd]
         rw [hd] at hk1; omega
        ·rw [if_neg hd]; exact hk1
     ·rw [swp_len] at hkl;rw [hs,hs,if_neg (by omega),if_neg (by omega)];have hpp:=h1 ((j - 1) / 2) hp hpl (by omega)
      by_cases hkj:k=j
      ·rw [if_pos hkj]; exact hpp
      ·rw [if_neg hkj,if_neg (by omega)];have hk1:=h1 k hk hkl hkj
       rw [hkp] at hk1; omega
    rw [swp_len] at key;exact key
   ·rename_i hge;intro k hk hkl
    by_cases hkj:k=j
    ·subst hkj; omega
    ·exact h1 k hk hkl hkj
theorem pushF_heap {l:List Nat} (h:HeapN l.length l) (x:Nat):HeapN (pushF l x).length (pushF l x):=by
 have e:(pushF l x).length=(l++[x]).length:=by rw [pushF_len]; simp
 have g:∀ k,k<l.length→(l++[x]).getD k 0=l.getD k 0:=fun k hk=>by simp [List.getElem?_append_left hk]
 rw [e,pushF];refine upF_heap _ _ (by simp) (fun k hk hkl hkj => ?_) (fun hj k hkl hk hkp => ?_)
 ·simp only [List.length_append,List.length_singleton] at hkl;rw [g _ (by omega),g _ (by omega)];exact h k hk (by omega)
 ·simp only [List.length_append,List.length_singleton] at hkl;omega
theorem downF_heap (n:Nat):∀ (m i:Nat) (l:List Nat),n - i≤m→n≤l.length→i<l.length→(∀ k,0<k→k<n→(k - 1) / 2≠i→l.getD ((k - 1) / 2) 0≤l.getD k 0)→(0<i→∀ k,k<n→0<k→(k - 1) / 2=i→l.getD ((i - 1) / 2) 0≤l.getD k 0)→HeapN n (downF n l i).1:=by
 intro m
 induction m with
 | zero =>
  intro i l h hn hi h1 h2;rw [downF,if_pos (by omega)];intro k hk hkn;exact h1 k hk hkn (by omega)
 | succ m ih =>
  intro i l h hn hi h1 h2;rw [downF]
  split
  ·intro k hk hkn;exact h1 k hk hkn (by omega)
  ·rename_i hc;have kg:=kid_ge l (2*i+1) n;have kl:=kid_lt l (j:=2*i+1) (n:=n) (by omega)
   have kk:kidF l (2*i+1) n=2*i+1∨kidF l (2*i+1) n=2*i+2:=by unfold kidF; split <;> omega
   have least:∀ k,k<n→0<k→(k - 1) / 2=i→l.getD (kidF l (2*i+1) n) 0≤l.getD k 0:=by
    intro k hkn hk hkp
    have hk2:k=2*i+1∨k=2*i+1+1:=by omega
    unfold kidF
    split
    ·rename_i hh
     rcases hk2 with rfl | rfl
     ·omega
     ·exact Nat.le_refl _
    ·rename_i hh
     rcases hk2 with rfl | rfl
     ·exact Nat.le_refl _
     ·have:¬ l.getD (2*i+1+1) 0<l.getD (2*i+1) 0:=fun h=>hh ⟨hkn,h⟩
      omega
   generalize kidF l (2*i+1) n=j at *
   have hjl:j<l.length:=by omega
   have hs:=swp_get hi hjl
   split
   ·rename_i hlt;refine ih _ _ (by omega) (by rw [swp_len]; exact hn) (by rw [swp_len]; exact hjl) (fun k hk hkn hkp => ?_) (fun hp k hkn hk hkp => ?_)
    ·rw [hs,hs,if_neg hkp]
     by_cases hkj:k=j
     ·subst hkj;rw [if_pos rfl,if_pos (by omega)];omega
     ·rw [if_neg hkj]
      by_cases hci:(k - 1) / 2=i
      ·rw [if_pos hci,if_neg (by omega)];exact least k hkn hk hci
      ·rw [if_neg hci];have hk1:=h1 k hk hkn hci
       by_cases hki:k=i
       ·rw [if_pos hki];subst hki;exact h2 hk j kl (by omega) (by omega)
       ·rw [if_neg hki]; exact hk1
    ·rw [hs,hs]
     have hpi:(j - 1) / 2=i:=by omega
     have hjne:¬ i=j:=by omega
     rw [hpi,if_neg hjne,if_pos rfl,if_neg (by omega),if_neg (by omega)];have:=h1 k hk hkn (by omega)
     rw [hkp] at this; exact this
   ·rename_i hge;intro k hk hkn
    by_cases hci:(k - 1) / 2=i
    ·have:=least k hkn hk hci
     show l.getD ((k - 1) / 2) 0≤l.getD k 0
     rw [hci]; omega
    ·exact h1 k hk hkn hci
theorem heap_root {n:Nat} {l:List Nat} (h:HeapN n l):∀ k,k<n→l.getD 0 0≤l.getD k 0:=by
 intro k
 induction k using Nat.strongRecOn with
 | _ k ih =>
  intro hk
  by_cases h0:k=0
  ·subst h0; exact Nat.le_refl _
  ·have h1:=h k (by omega) hk;have h2:=ih ((k - 1) / 2) (by omega) (by omega);omega
theorem restP_heap {l:List Nat} (h:HeapN l.length l) (h0:0<l.length):HeapN (restP l).length (restP l):=by
 have hs:=swp_get (l:=l) (i:=0) (j:=l.length - 1) h0 (by omega)
 have hd:HeapN (l.length - 1) (popF l):=by
  rw [popF];refine downF_heap _ _ 0 _ (Nat.le_refl _) (by rw [swp_len]; omega) (by rw [swp_len]; omega) (fun k hk hkn hkp => ?_) (fun hp=>absurd hp (by omega));rw [hs,hs,if_neg (by omega),if_neg hkp,if_neg (by omega),if_neg (by omega)];exact h k hk (by omega)
 have hl:=popF_len l
 have g:∀ k,k<l.length - 1→(restP l).getD k 0=(popF l).getD k 0:=fun k hk=>by
  rw [restP];simp only [List.getD_eq_getElem?_getD];rw [List.getElem?_take_of_lt hk]
 rw [restP_len];intro k hk hkn;rw [g _ (by omega),g _ hkn];exact hd k hk hkn
theorem headP_eq {l:List Nat} (h0:0<l.length):headP l=l.getD 0 0:=by
 have hs:=swp_get (l:=l) (i:=0) (j:=l.length - 1) h0 (by omega)
 have keep:∀ (n m i:Nat) (x:List Nat),n - i≤m→n<x.length→i≤n→(i<x.length)→(i<n∨n=0)→(downF n x i).1.getD n 0=x.getD n 0:=by
  intro n m
  induction m with
  | zero =>
   intro i x h1 h2 h3 h4 h5;rw [downF,if_pos (by omega)]
  | succ m ih =>
   intro i x h1 h2 h3 h4 h5;rw [downF]
   split
   ·rfl
   ·rename_i hc;have kg:=kid_ge x (2*i+1) n;have kl:=kid_lt x (j:=2*i+1) (n:=n) (by omega);generalize kidF x (2*i+1) n=j at *
    split
    ·rw [ih j _ (by omega) (by rw [swp_len]; exact h2) (by omega) (by rw [swp_len]; omega) (by omega),swp_get h4 (by omega),if_neg (by omega),if_neg (by omega)]
    ·rfl
 rw [headP,popF,keep _ _ 0 _ (Nat.le_refl _) (by rw [swp_len]; omega) (by omega) (by rw [swp_len]; omega) (by omega),hs,if_pos rfl]
theorem headP_le {l:List Nat} (h:HeapN l.length l) (h0:0<l.length) {x:Nat} (hx:x∈l):headP l≤x:=by
 rw [headP_eq h0];obtain ⟨k,hk,rfl⟩:=List.getElem_of_mem hx;have:=heap_root h k hk;rw [List.getD_eq_getElem?_getD (i:=k),List.getElem?_eq_getElem hk] at this;exact this
end Go.Proofs.YtpkngebjapfibaaDoor
namespace Go.Proofs.YtpkngebjapfibaaDoor
open Go.AM Go.Proofs
variable {Γ : Nat → Option AV}
def comeL (b:List (List Nat)):Nat→List (List Nat)→List Nat→List Nat→List Nat
 | 0,_,_,_=>[]
 | f+1,nd,l,s=>if l=[] then [] else
  headP l::comeL b f (relS (headP l) (b.getD (headP l) []) nd (restP l) (headP l::s)).1 (relS (headP l) (b.getD (headP l) []) nd (restP l) (headP l::s)).2.1 (relS (headP l) (b.getD (headP l) []) nd (restP l) (headP l::s)).2.2
def comeE (b:List (List Nat)):Nat→List (List Nat)→List Nat→List Nat→Prop
 | 0,_,l,_=>l=[]
 | f+1,nd,l,s=>l=[]∨comeE b f (relS (headP l) (b.getD (headP l) []) nd (restP l) (headP l::s)).1 (relS (headP l) (b.getD (headP l) []) nd (restP l) (headP l::s)).2.1 (relS (headP l) (b.getD (headP l) []) nd (restP l) (headP l::s)).2.2
theorem relS_ok (a N:Nat):∀ (r:List Nat) (nd:List (List Nat)) (l s:List Nat),(∀ i∈r,i<N)→nd.length=N→(∀ x∈nd,x.Nodup)→(∀ x∈l,x<N) →
  (relS a r nd l s).1.length=N∧(∀ x∈(relS a r nd l s).1,x.Nodup)∧(∀ x∈(relS a r nd l s).2.1,x<N)∧(relS a r nd l s).2.1.length≤l.length+r.length
 | [],nd,l,s,_,h2,h3,h4=>⟨h2,h3,h4,by simp [relS]⟩
 | i::r,nd,l,s,h1,h2,h3,h4=>by
  have hi:=h1 i (by simp)
  have hn:(nd.set i (delN a (nd.getD i []))).length=N:=by simpa using h2
  have hd:∀ x∈nd.set i (delN a (nd.getD i [])),x.Nodup:=fun x hx=>by
   rcases List.mem_or_eq_of_mem_set hx with h5 | h5
   ·exact h3 x h5
   ·rw [h5];refine delN_nodup a ?_;rw [List.getD_eq_getElem?_getD,List.getElem?_eq_getElem (by omega)];exact h3 _ (List.getElem_mem _)
  rw [relS]
  split
  ·have:=relS_ok a N r _ (pushF l i) s.tail (fun x hx=>h1 x (by simp [hx])) hn hd (fun x hx=>by
    have:=(pushF_perm l i).mem_iff.1 hx
    rcases List.mem_cons.1 this with rfl | h6
    ·exact hi
    ·exact h4 x h6)
   rw [pushF_len] at this;refine ⟨this.1,this.2.1,this.2.2.1,?_⟩;have:=this.2.2.2
   simp only [List.length_cons]; omega
  ·have:=relS_ok a N r _ l s (fun x hx=>h1 x (by simp [hx])) hn hd h4;refine ⟨this.1,this.2.1,this.2.2.1,?_⟩;have:=this.2.2.2
   simp only [List.length_cons]; omega
set_option maxRecDepth 8000 in
theorem r_cm0 (c:Ct) (hc:CtFew c) (hbL:∀ x∈bysC c,x.length≤2^21∧∀ i∈x,i<c.gates.length) {S:Type} (M:S→List Ob) (F:S→Nat→S) (n L r:Nat) (hM:∀ x,(M x).length=n) (hv:∀ x,WfV (M x)) (hr:r<n) (I:S→Nat→Prop) (hI:∀ x k a,I x k→a<c.gates.length→I (F x a) (k+1))
  (hB:∀ x k a T up,I x k→k<2^20→a<c.gates.length→(∀ m,up.all (vldF r m)=true)→(∀ m,vldH r m T=true)→AM.Reach Tryd.prog Γ ((Cal.yl L).cfg [.int .i64 a] up (M x++T)) (.back up (.bool true) (M (F x a)++T)))
  (up:List Fr) (hup:∀ m,up.all (vldF r m)=true):∀ (f:Nat) (x:S) (k:Nat) (nd:List (List Nat)) (l s:List Nat),nd.length=c.gates.length→(∀ x∈nd,x.Nodup)→(∀ a∈l,a<c.gates.length)→l.length+f*2^22≤2^37→I x k→k+f≤2^20→comeE (bysC c) f nd l s →
  ∃ T,AM.Reach Tryd.prog Γ (yrC (.yld L) (.ptr (n+(9+(c.gates.length+c.gates.length))) 0) (.ptr (n+(11+(c.gates.length+c.gates.length))) 0) (hP (aC c (M x) nd) l s none) ⟨[],.norm,n,up⟩)
   (.back up (.tup []) (M ((comeL (bysC c) f nd l s).foldl F x)++T)):=by
 have stop:∀ (x:S) (nd:List (List Nat)) (s:List Nat),nd.length=c.gates.length→∃ T,AM.Reach Tryd.prog Γ (yrC (.yld L) (.ptr (n+(9+(c.gates.length+c.gates.length))) 0) (.ptr (n+(11+(c.gates.length+c.gates.length))) 0) (hP (aC c (M x) nd) [] s none) ⟨[],.norm,n,up⟩)
   (.back up (.tup []) (M x++T)):=by
  intro x nd s hn;have hAl:=aC_len (M:=M x) hn;rw [hM] at hAl;have xc:=hP_c (A:=aC c (M x) nd) (l:=[]) (s:=s) (g:=none);have h1:=r_Len (Γ:=Γ) (aC c (M x) nd) [] s none (.inl rfl)
  have he:hP (aC c (M x) nd) [] s none=M x++(tC c n nd++[.row 1 t_int (s.map iN) none true false,.cells [.sl (n+(10+(c.gates.length+c.gates.length))) 0 0]]):=by
   rw [hP,hAl]
   conv=>lhs; rw [aC_eq,hM]
   simp
  rw [hAl,show n+(10+(c.gates.length+c.gates.length))+1=n+(11+(c.gates.length+c.gates.length)) by omega] at xc;rw [hAl] at h1;refine ⟨tC c n nd++[.row 1 t_int (s.map iN) none true false,.cells [.sl (n+(10+(c.gates.length+c.gates.length))) 0 0]],?_⟩;rw [← he];generalize hP (aC c (M x) nd) [] s none=X at *;simp at xc h1;refine .goB 60 ?_;simp [xc];refine .rcall 60 h1 ?_;simp
 intro f
 induction f with
 | zero =>
  intro x k nd l s hn hd hl hb hIx hk hE;rw [comeE] at hE;subst hE;rw [comeL];exact stop x nd s hn
 | succ f ih =>
  intro x k nd l s hn hd hl hb hIx hk hE;rw [comeL]
  by_cases h0:l=[]
  ·subst h0;rw [if_pos rfl];exact stop x nd s hn
  ·rw [comeE] at hE;have hE:=hE.resolve_left h0;rw [if_neg h0];have hpos:0<l.length:=List.length_pos_iff.2 h0;have hhr:=head_rest hpos;have ha:headP l<c.gates.length:=hl _ (hhr.mem_iff.1 (by simp))
   have hrl:∀ y∈restP l,y<c.gates.length:=fun y hy=>hl _ (hhr.mem_iff.1 (by simp [hy]))
   have hbm:(bysC c).getD (headP l) []∈bysC c:=by
    rw [List.getD_eq_getElem?_getD,List.getElem?_eq_getElem (by rw [bysC_len]; exact ha)];exact List.getElem_mem _
   obtain ⟨hb1,hb2⟩:=hbL _ hbm;have hok:=relS_ok (headP l) c.gates.length ((bysC c).getD (headP l) []) nd (restP l) (headP l::s) hb2 hn hd hrl;have hrest:=restP_len l
   have h3:=fun M' hv'=>r_cm1 (Γ:=Γ) c hc (M:=M') hv' L (headP l) ha hb2 up ((bysC c).getD (headP l) []).length 0 (by omega) nd (restP l) (headP l::s) hn hd (by omega) (by omega)
   obtain ⟨T,hT⟩:=ih (F x (headP l)) (k+1) _ _ _ hok.1 hok.2.1 hok.2.2.1 (by have:=hok.2.2.2; omega) (hI x k _ hIx ha) (by omega) hE;refine ⟨T,?_⟩;have hAl:=aC_len (M:=M x) hn;have hAl2:=aC_len (M:=M (F x (headP l))) hn;rw [hM] at hAl hAl2;have h3':=h3 (M (F x (headP l))) (hv _);rw [List.drop_zero,hM] at h3';have xc:=hP_c (A:=aC c (M x) nd) (l:=l) (s:=s) (g:=none);have h1:=r_Len (Γ:=Γ) (aC c (M x) nd) l s none (.inl rfl);have h2:=r_Pop (Γ:=Γ) (aC c (M x) nd) l s hpos (by omega);rw [hAl] at xc h1 h2;rw [show n+(10+(c.gates.length+c.gates.length))+1=n+(11+(c.gates.length+c.gates.length)) by omega] at xc h2;rw [show (popF l).getD (l.length - 1) 0=headP l from rfl,show (popF l).take (l.length - 1)=restP l from rfl] at h2
   let T2:List Ob:=tC c n nd++[.row 1 t_int ((restP l++headP l::s).map iN) none true false,.cells [.sl (n+(10+(c.gates.length+c.gates.length))) 0 (restP l).length]]
   have he:∀ y,hP (aC c (M y) nd) (restP l) (headP l::s) none=M y++T2:=fun y=>by
    have hy:=aC_len (M:=M y) hn;rw [hM] at hy;rw [hP,hy]
    conv=>lhs; rw [aC_eq,hM]
    simp [T2]
   have hTv:∀ m,vldH r m T2=true:=fun m=>by
    have hne:(n+(10+(c.gates.length+c.gates.length))==r)=false:=by simp; omega
    rw [show T2=tC c n nd++[.row 1 t_int ((restP l++headP l::s).map iN) none true false,.cells [.sl (n+(10+(c.gates.length+c.gates.length))) 0 (restP l).length]] from rfl,vldH_append,tC_vld n hr];simp [hne]
   have hbody:=fun up hup=>hB x k (headP l) T2 up hIx (by omega) ha hup hTv
   rw [← he,← he] at hbody
   have hlp:(0:Int)<l.length:=by omega
   have xw:=hP_lo (A:=aC c (M (F x (headP l))) nd) (l:=restP l) (s:=headP l::s) (g:=none) (i:=n+(9+(c.gates.length+c.gates.length))) (by omega);have xb:=hP_lo (A:=aC c (M (F x (headP l))) nd) (l:=restP l) (s:=headP l::s) (g:=none) (i:=n+8) (by omega);have w1:=aC_w (M:=M (F x (headP l))) hn;have w2:=aC_b (c:=c) (M:=M (F x (headP l))) (nd:=nd);rw [hM] at w1 w2;rw [w1] at xw;rw [w2] at xb;have yb:=byE_get (n:=n+6) (b:=bysC c) (k:=headP l) (by rw [bysC_len]; exact ha)
   have egd:(bysC c)[headP l]'(by rw [bysC_len]; exact ha)=(bysC c).getD (headP l) []:=by rw [List.getD_eq_getElem?_getD,List.getElem?_eq_getElem (by rw [bysC_len]; exact ha)]; rfl
   rw [egd,show n+6+(3+headP l)=n+(9+headP l) by omega] at yb;have zl:=byE_len (n+6) (bysC c);rw [bysC_len] at zl;have zt:List.take c.gates.length (byE (n+6) (bysC c))=byE (n+6) (bysC c):=List.take_of_length_le (by rw [zl]; exact Nat.le_refl _);obtain ⟨_,yb'⟩:=List.getElem?_eq_some_iff.1 yb;generalize hRR:relS (headP l) ((bysC c).getD (headP l) []) nd (restP l) (headP l::s)=R at *;have hfold:(headP l::comeL (bysC c) f R.1 R.2.1 R.2.2).foldl F x=(comeL (bysC c) f R.1 R.2.1 R.2.2).foldl F (F x (headP l)):=rfl;rw [hfold];clear hfold he hTv h3 hok w1 w2;generalize hP (aC c (M x) nd) l s none=X at *;generalize hP (aC c (M x) nd) (restP l) (headP l::s) none=Y at *;generalize hP (aC c (M (F x (headP l))) nd) (restP l) (headP l::s) none=Z at *;generalize hP (aC c (M (F x (headP l))) R.1) R.2.1 R.2.2 none=W at *;generalize byE (n+6) (bysC c)=E at *;generalize (bysC c).getD (headP l) []=bs at *
   generalize headP l=a at *;refine .goB 60 ?_;simp [xc];refine .rcall 60 h1 ?_;simp [hpos];refine .rcall 8 h2 ?_;simp;refine Reach.ycall (l:=L) (args:=[.int .i64 a]) (v:=.bool true) (h':=Z) (by simp) (hbody _ (fun m=>by simp [hup m]; omega)) ?_;refine .goB 60 ?_;simp [xw,xb,yb,yb',zl,zt,ha];refine .inLoop ?_;simp at h3' ⊢;refine .trans h3' ?_;refine .goB 60 ?_;simp;refine .reLoop ?_;simp at hT ⊢;exact hT
theorem initN_ok (nd:List (List Nat)) (N:Nat):∀ (m i:Nat) (l:List Nat),i+m=N→(∀ a∈l,a<N)→(∀ a∈initN nd m i l,a<N)∧(initN nd m i l).length≤l.length+m
 | 0,i,l,h,hl=>⟨hl,by simp [initN]⟩
 | m+1,i,l,h,hl=>by
  rw [initN]
  split
  ·have:=initN_ok nd N m (i+1) (pushF l i) (by omega) (fun a ha=>by
    rcases List.mem_cons.1 ((pushF_perm l i).mem_iff.1 ha) with rfl | h1
    ·omega
    ·exact hl a h1)
   rw [pushF_len] at this;exact ⟨this.1,by omega⟩
  ·have:=initN_ok nd N m (i+1) l (by omega) hl;exact ⟨this.1,by omega⟩
theorem needL_nodup (pl:List (Bs×Nat)):∀ (l:List Bs) (a:List Nat),a.Nodup→(needL pl l a).Nodup
 | [],a,h=>h
 | s::r,a,h=>by
  rw [needL]
  split
  ·exact needL_nodup pl r a h
  ·refine needL_nodup pl r _ ?_
   split
   ·exact h
   ·rename_i k _ hk;rw [List.nodup_append];refine ⟨h,by simp,fun x hx y hy => ?_⟩;simp only [List.mem_singleton] at hy;subst hy
    exact fun he=>hk (he▸hx)
theorem waitF_nodup (pl:List (Bs×Nat)):∀ (l:List Gt) (i:Nat) (nd b:List (List Nat)),(∀ x∈nd,x.Nodup)→∀ x∈(waitF pl l i nd b).1,x.Nodup
 | [],_,_,_,h=>h
 | g::r,i,nd,b,h=>by
  rw [waitF]
  refine waitF_nodup pl r _ _ _ fun x hx => ?_
  rcases List.mem_append.1 hx with h1 | h1
  ·exact h x h1
  ·rw [List.mem_singleton] at h1
   rw [h1]; exact needL_nodup pl _ _ (by simp)
theorem needsC_nodup (c:Ct):∀ x∈needsC c,x.Nodup:=waitF_nodup _ _ _ _ _ (by simp)
theorem byL_mem (pl:List (Bs×Nat)) (i:Nat):∀ (l:List Bs) (a:List Nat) (b:List (List Nat)),∀ x∈byL pl i l a b,∀ y∈x,y=i∨∃ z∈b,y∈z
 | [],_,_,x,hx,y,hy=>.inr ⟨x,hx,hy⟩
 | s::r,a,b,x,hx,y,hy=>by
  rw [byL] at hx
  split at hx
  ·exact byL_mem pl i r a b x hx y hy
  ·rename_i k _
   rcases byL_mem pl i r _ _ x hx y hy with h | ⟨z,hz,hyz⟩
   ·exact .inl h
   ·split at hz
    ·exact .inr ⟨z,hz,hyz⟩
    ·rcases List.mem_or_eq_of_mem_set hz with h1 | h1
     ·exact .inr ⟨z,h1,hyz⟩
     ·rw [h1] at hyz
      rcases List.mem_append.1 hyz with h2 | h2
      ·by_cases hk:k<b.length
       ·rw [List.getD_eq_getElem?_getD,List.getElem?_eq_getElem hk] at h2;exact .inr ⟨_,List.getElem_mem hk,h2⟩
       ·rw [List.getD_eq_getElem?_getD,List.getElem?_eq_none (by omega)] at h2;simp at h2
      ·exact .inl (by simpa using h2)
theorem waitF_bnd (pl:List (Bs×Nat)):∀ (l:List Gt) (i N B:Nat) (nd b:List (List Nat)),(∀ g∈l,g.ins.length<2^10)→i+l.length=N→(∀ x∈b,x.length≤B∧∀ y∈x,y<N)→∀ x∈(waitF pl l i nd b).2,x.length≤B+l.length*2^10∧∀ y∈x,y<N
 | [],_,_,_,_,_,_,_,h=>fun x hx=>by simpa using h x hx
 | g::r,i,N,B,nd,b,hg,hN,h=>fun x hx=>by
  rw [waitF] at hx;simp only [List.length_cons] at hN ⊢;have hb:=byL_bnd pl i B g.ins [] b (fun x hx=>(h x hx).1)
  have:=waitF_bnd pl r (i+1) N (B+2^10) _ _ (fun y hy=>hg y (by simp [hy])) (by omega) (fun y hy=>by
   have:=hb y hy;have:=hg g (by simp);refine ⟨by omega,fun z hz => ?_⟩
   rcases byL_mem pl i g.ins [] b y hy z hz with h1 | ⟨w,hw,hzw⟩
   ·omega
   ·exact (h w hw).2 z hzw) x hx
  rw [Nat.succ_mul];exact ⟨by omega,this.2⟩
theorem bysC_bnd {c:Ct} (hc:CtFew c):∀ x∈bysC c,x.length≤2^21∧∀ i∈x,i<c.gates.length:=fun x hx=>by
 have hN:=hc.2.2.2.1
 have:=waitF_bnd (plM c) c.gates 0 c.gates.length 0 [] (List.replicate c.gates.length []) (fun g hg=>(hc.2.2.2.2.1 g hg).2.1) (by omega) (fun y hy=>by
  rw [List.mem_replicate] at hy
  rw [hy.2]; simp) x hx
 exact ⟨by omega,this.2⟩
def comeC (c:Ct) (f:Nat):List Nat:=comeL (bysC c) f (needsC c) (initN (needsC c) c.gates.length 0 []) []
def endC (c:Ct) (f:Nat):Prop:=comeE (bysC c) f (needsC c) (initN (needsC c) c.gates.length 0 []) []
theorem aC_wf (c:Ct) {M:List Ob} (hw:WfO M) {nd:List (List Nat)} (hn:nd.length=c.gates.length) {m:Nat} (hm:M.length+(10+(c.gates.length+c.gates.length))≤m):belH m (aC c M nd)=true:=by
 have h1:=hw m (by omega);have h2:=hWt_wf c (n:=M.length) (m:=m) (by omega);have h3:=bel_byE (n:=M.length+6) (m:=m) (bysC c) (by rw [bysC_len]; omega);have h4:=bel_needE (n:=M.length+6) (N:=c.gates.length) (m:=nd.length) (q:=m) (by omega);rw [aC_eq,belH_append,tC,belH_append,belH_append,belH_append,belH_append,h1,h2,bel_rows,bel_maps];simp [hF,h3,h4];omega
set_option maxRecDepth 8000 in
theorem r_coming1 (c:Ct) (hc:CtFew c) (hd:(c.gates.map (·.name)).Nodup) {S:Type} (M:S→List Ob) (F:S→Nat→S) (n L r p:Nat) (hM:∀ x,(M x).length=n) (hw:∀ x,WfO (M x)) (hv:∀ x,WfV (M x)) (hr:r<n) (hL:L<n) (hp:∀ x,(M x)[p]? = some (.cells (AV.cells (eCt c)))) (I:S→Nat→Prop) (hI:∀ x k a,I x k→a<c.gates.length→I (F x a) (k+1))
  (hB:∀ x k a T up,I x k→k<2^20→a<c.gates.length→(∀ m,up.all (vldF r m)=true)→(∀ m,vldH r m T=true)→AM.Reach Tryd.prog Γ ((Cal.yl L).cfg [.int .i64 a] up (M x++T)) (.back up (.bool true) (M (F x a)++T)))
  (up:List Fr) (hup:∀ m,up.all (vldF r m)=true) (x:S) (hI0:I x 0) (f:Nat) (hf:f≤2^14) (hE:endC c f) :
  AM.Reach Tryd.prog Γ (.cl n_order_coming_1 [.yld L,.ptr p 0] up (M x)) (.back up (.tup []) (M ((comeC c f).foldl F x))):=by
 have hN:=hc.2.2.2.1;have hi:=initN_ok (needsC c) c.gates.length c.gates.length 0 [] (by omega) (by simp);obtain ⟨T,hT⟩:=r_cm0 (Γ:=Γ) c hc (bysC_bnd hc) M F n L r hM hv hr I hI hB up hup f x 0 (needsC c) (initN (needsC c) c.gates.length 0 []) [] (needsC_len c) (needsC_nodup c) hi.1 (by have:=hi.2; simp only [List.length_nil] at this; omega) hI0 (by omega) hE;have h14:=r_cm14 (Γ:=Γ) c hc (hv x) (needsC c) (needsC_len c) L (.ptr p 0) up c.gates.length 0 (by omega) [] (Nat.le_refl _);have hwt:=r_wait (Γ:=Γ) c hc hd (hw x) (hv x);have hpx:=hp x;have hMx:=hM x
 have key:AM.Reach Tryd.prog Γ (.cl n_order_coming_1 [.yld L,.ptr p 0] up (M x)) (.back up (.tup []) (M ((comeC c f).foldl F x)++T)):=by
  have e1:hQ (hWait c (M x)) (needsC c) (bysC c)++([.cells [.sl (n+7) 0 c.gates.length,.sl (n+8) 0 c.gates.length]])=aC c (M x) (needsC c):=by rw [aC,hM]
  have e2:aC c (M x) (needsC c)++[.row 1 t_int [] none true false,.cells [.sl (aC c (M x) (needsC c)).length 0 0]]=hP (aC c (M x) (needsC c)) [] [] none:=by simp [hP]
  have e3:=aC_len (M:=M x) (needsC_len c)
  have e4:(hQ (hWait c (M x)) (needsC c) (bysC c)).length=n+(9+(c.gates.length+c.gates.length)):=by rw [hQ_len,hWait_len,bysC_len,needsC_len,hM]; omega
  rw [hWait_len] at hwt;rw [hM] at h14 hwt e3;refine .enterB 60 c_order_coming_1 ?_;simp [hpx];have e5:=aC_wf c (hw x) (needsC_len c) (m:=n+(10+(c.gates.length+c.gates.length))) (by rw [hM]; omega);have hpn:=lt_of_get hpx;rw [hM] at hpn
  have e7:(aC c (M x) (needsC c))[p]? = some (.cells (AV.cells (eCt c))):=by rw [aC_eq]; exact get_app hpx _
  rw [← e1] at e2 e5 e7 h14 hT;refine .rcall 5 hwt ?_;generalize hQ (hWait c (M x)) (needsC c) (bysC c)=X at *;simp
  have et:(X++[Ob.cells [.sl (n+7) 0 c.gates.length,.sl (n+8) 0 c.gates.length],.row 1 t_map_int_bool_2 [] none true false,.row 1 t_int_2 [] none true false]).take (n+(10+(c.gates.length+c.gates.length)))=X++[.cells [.sl (n+7) 0 c.gates.length,.sl (n+8) 0 c.gates.length]]:=by
   rw [show n+(10+(c.gates.length+c.gates.length))=X.length+1 by omega,List.take_length_add_append]; rfl
  refine .dropTo (n:=n+(10+(c.gates.length+c.gates.length))) et (by simp [hM]) (by simp; omega) e5 ?_
  have hXl:(X++[Ob.cells [.sl (n+7) 0 c.gates.length,.sl (n+8) 0 c.gates.length]]).length=n+(10+(c.gates.length+c.gates.length)):=by simp; omega
  rw [hXl] at e2;generalize X++[Ob.cells [.sl (n+7) 0 c.gates.length,.sl (n+8) 0 c.gates.length]]=A at *;refine .litRowTo 60 t_int (es:=[]) (by simp) rfl ?_;have e6:A++[Ob.row 1 t_int [] none true false,.cells [.sl (n+(10+(c.gates.length+c.gates.length))) 0 0]]=hP A [] [] none:=e2
  have e8:=fun os=>get_app e7 os
  simp [e8,hXl,okList];rw [e6];refine .inLoop ?_
  have e9:n+(10+(c.gates.length+c.gates.length))+1=n+(11+(c.gates.length+c.gates.length)):=by omega
  rw [e9,e4,hM];simp at h14 ⊢;refine .trans h14 ?_;refine .goB 60 ?_;simp;refine .inLoop ?_;unfold comeC;simp at hT ⊢;exact hT
 have:=AM.Reach.leave key rfl (by
  rw [hM,← hM ((comeC c f).foldl F x),List.take_left]
  exact hw _ _ (Nat.le_refl _))
 rw [hM,← hM ((comeC c f).foldl F x),List.take_left] at this;exact this
end Go.Proofs.YtpkngebjapfibaaDoor
