/- A part of the proof: trees of Go values, short forms, contracts. -/
import Derived.WalkKit
import Derived.Still
import Derived.MapKept
import GoSem.Builtin.Cap
import Derived.Laws.Externs
import GoSem.Extern.SlicesOverlaps
import Derived.Carry
import Derived.ProofKit
import Derived.OpenShut
import Derived.HandedShaped
import Derived.Lay
import Derived.LaidLaws
import Derived.MakeChecks
import Derived.SevenTiedAt
import Derived.Test.YtjckmmphmhafjaaGreatDoorChecked
import Derived.Test.YtjckmmphmhafjaaGreatDoorK17
set_option linter.unusedSimpArgs false
set_option linter.unusedVariables false
namespace Go.Proofs
open Go Go.TL
set_option maxHeartbeats 4000000
theorem c_ref05_Check (s:Sch) (hs:SchSm s) (hL:0 < s.lists.length) (c:Cnd):Spc Tryz.prog F_ref05_Check [schT s,cnT c] [] (vI (chkC s c)) []:=by
 refine spec_of_ir fn_ref05_Check mixm (by simp) fun e _ hst=>W_start ?_
 unfold ir_ref05_Check
 refine sW ?_
 refine C1.im (c_ref02_Check s hs) (by rfl) (by rfl) ?_
 simp only [tZ,↓un_u,simprocAttr,bne_iff_ne,bne_eq_false_iff_eq]
 refine ⟨fun h=>?_,fun h=>?_⟩
 ·rw [chkC,if_pos h]
  exact .oA [] []
 have hok:=schE_ok h
 refine C1.im (c_ref05_count c 41 (by omega) (by omega)) (by rfl) (by rfl) ?_
 refine sD ?_
 refine ⟨fun h2=>?_,fun h2=>?_⟩
 ·rw [chkC,if_neg (by rw [h];simp),if_pos h2]
  exact .oA [] []
 refine C1.im (c_ref05_depth c 41 (by omega) (by omega) (by omega)) (by rfl) (by rfl) ?_
 refine sD ?_
 refine ⟨fun h3=>?_,fun h3=>?_⟩
 ·rw [chkC,if_neg (by rw [h];simp),if_neg h2,if_pos (by omega)]
  exact .oA [] []
 rw [chkC,if_neg (by rw [h];simp),if_neg h2,if_neg (by omega)]
 refine C1.im (c_ref05_node s hok hL c) (by rfl) (by rfl) ?_
 refine sW ?_
 exact .oA [] []
theorem chkC_ok {s:Sch} {c:Cnd} (h:chkC s c = 0):schE s = 0∧cntC c 41 < 41∧depC c≤10∧nodE s c = 0:=by
 unfold chkC at h
 split at h
 ·rename_i h1;exact absurd h h1
 rename_i h1
 split at h
 ·cases h
 rename_i h2
 split at h
 ·cases h
 rename_i h3
 exact ⟨Classical.byContradiction h1,by omega,by omega,h⟩
theorem c_ref05_Atom (s:Sch) (hok:SchOk s) (c:Cnd) (hc:NdOk s c) (v:Int):Spc Tryz.prog F_ref05_Atom [schT s,cnT c,vI v] [] (vI (atomI s c v)) []:=by
 have hn0:=hok.nl
 have hn1:=hok.nc
 have hA:atomI s c v = if c.op = 2 then tf (underB (cdlAt s c.col.toNat) v c.code)
 else if c.op = 3 then (if v = missI then 0 else tf (decide (c.lo≤v) && decide (v≤c.hi)))
 else if c.op = 4 then tf (v == missI) else -1:=rfl
 rw [hA]
 by_cases h2:c.op = 2
 ·obtain ⟨b,b4,b5⟩:=hc.under h2
  obtain ⟨b1,b2,b3⟩:=isB_ok.1 b
  obtain ⟨i,hci⟩:=Int.eq_ofNat_of_zero_le b1
  rw [hci] at b2 b5
  rw [hci,Int.toNat_natCast] at b3
  rw [Int.toNat_natCast] at b5
  have hil:i < s.cols.length:=by omega
  have hat:colAt s i = s.cols[i]:=by rw [colAt,getD_get hil]
  have hcd:=hok.cdl hil b3
  have hcd2:=(colE_kind (hok.cs i hil)).2.2.2.1 b3
  have hcl:cdlAt s i = s.lists.getD s.cols[i].list.toNat default:=by rw [cdlAt,hat]
  rw [hat] at hcd hcd2
  rw [if_pos h2,hci,Int.toNat_natCast]
  rw [hcl,getD_get hcd.1] at hcd ⊢
  obtain ⟨_,d5,d6⟩:=lstE_par hcd.2
  have q:(c.op == 2) = true:=beq_iff_eq.2 h2
  refine spec_of_ir fn_ref05_Atom mixm (by simp) fun e _ hst=>W_start ?_
  unfold ir_ref05_Atom
  simp only [tZ,↓un_u,simprocAttr,q,hci,Int.toNat_natCast,getD_mapT hil,getD_mapT hcd.1]
  refine ⟨by omega,by omega,?_⟩
  refine C1.im (c_ref01_Under _ v c.code (by omega)) (by rfl) (by rfl) ?_
  refine sW ?_
  refine ⟨by kernel_rfl,fun h=>?_,fun h=>?_⟩
  ·rw [h]
   exact .oA [] []
  ·rw [h]
   exact .oA [] []
 have q:(c.op == 2) = false:=beq_eq_false_iff_ne.2 h2
 rw [if_neg h2]
 by_cases h3:c.op = 3
 ·have q3:(c.op == 3) = true:=beq_iff_eq.2 h3
  rw [if_pos h3]
  refine spec_of_ir fn_ref05_Atom mixm (by simp) fun e _ hst=>W_start ?_
  unfold ir_ref05_Atom
  simp only [tZ,↓un_u,simprocAttr,q,q3,beq_iff_eq,beq_eq_false_iff_ne]
  rw [show (-1099511627776:Int) = missI from rfl]
  refine ⟨fun h=>?_,fun h=>?_⟩
  ·rw [if_pos h]
   exact .oA [] []
  ·rw [if_neg h]
   refine ⟨fun h=>?_,fun h=>?_⟩
   ·rw [h]
    exact .oA [] []
   ·rw [h]
    exact .oA [] []
 have q3:(c.op == 3) = false:=beq_eq_false_iff_ne.2 h3
 rw [if_neg h3]
 by_cases h4:c.op = 4
 ·have q4:(c.op == 4) = true:=beq_iff_eq.2 h4
  rw [if_pos h4]
  refine spec_of_ir fn_ref05_Atom mixm (by simp) fun e _ hst=>W_start ?_
  unfold ir_ref05_Atom
  simp only [tZ,↓un_u,simprocAttr,q,q3,q4]
  rw [show (-1099511627776:Int) = missI from rfl]
  refine ⟨fun h=>?_,fun h=>?_⟩
  ·rw [h]
   exact .oA [] []
  ·rw [h]
   exact .oA [] []
 have q4:(c.op == 4) = false:=beq_eq_false_iff_ne.2 h4
 rw [if_neg h4]
 refine spec_of_ir fn_ref05_Atom mixm (by simp) fun e _ hst=>W_start ?_
 unfold ir_ref05_Atom
 simp only [tZ,↓un_u,simprocAttr,q,q3,q4]
 exact .oA [] []
theorem c_ref05_join (op:Int) (ks:List Int) (h7:op = 7→1≤ks.length) (h5:op = 5∨op = 6→2≤ks.length) (hv:∀ k∈ks,-1≤k∧k≤1):Spc Tryz.prog F_ref05_join [vI op,vIs ks] [] (vI (joinI op ks)) []:=by
 refine spec_of_ir fn_ref05_join mixm (by simp) fun e _ hst=>W_start ?_
 unfold ir_ref05_join
 simp only [tZ,↓un_u,simprocAttr,beq_iff_eq,beq_eq_false_iff_ne]
 refine ⟨fun h=>?_,fun h=>⟨fun h2=>?_,fun h2=>⟨fun h3=>?_,fun h3=>?_⟩⟩⟩
 ·have h0:0 < ks.length:=by have:=h7 h;omega
  have hk:=hv _ (List.getElem_mem h0)
  have hw:IntKind.i64.wrap ((0:Int) - ks[0]) = - ks[0]:=by rw [IntWalk.i64_in _ (by omega)];omega
  rw [joinI,if_pos h,getD_get h0]
  simp only [tZ,↓un_u,simprocAttr,getD_mapT h0]
  rw [hw]
  refine ⟨by omega,?_⟩
  exact .oA [] []
 ·have h0:0 < ks.length:=by have:=h5 (.inl h2);omega
  have h1:1 < ks.length:=by have:=h5 (.inl h2);omega
  rw [joinI,if_neg h,if_pos h2,getD_get h0,getD_get h1]
  have hm:minI ks[0] ks[1] = min ks[0] ks[1]:=by unfold minI;omega
  simp only [tZ,↓un_u,simprocAttr,getD_mapT h0,getD_mapT h1,hm]
  refine ⟨by omega,by omega,by kernel_rfl,?_⟩
  exact .oA [] []
 ·have h0:0 < ks.length:=by have:=h5 (.inr h3);omega
  have h1:1 < ks.length:=by have:=h5 (.inr h3);omega
  rw [joinI,if_neg h,if_neg h2,if_pos h3,getD_get h0,getD_get h1]
  have hm:maxI ks[0] ks[1] = max ks[0] ks[1]:=by unfold maxI;omega
  simp only [tZ,↓un_u,simprocAttr,getD_mapT h0,getD_mapT h1,hm]
  refine ⟨by omega,by omega,by kernel_rfl,?_⟩
  exact .oA [] []
 ·rw [joinI,if_neg h,if_neg h2,if_neg h3]
  exact .oA [] []
theorem atomI_le (s:Sch) (c:Cnd) (v:Int) : -1≤atomI s c v∧atomI s c v≤1:=by
 unfold atomI tf
 grind
theorem joinI_le {op:Int} {ks:List Int} (h:∀ k∈ks,-1≤k∧k≤1) : -1≤joinI op ks∧joinI op ks≤1:=by
 have key:∀ i,-1≤ks.getD i 0∧ks.getD i 0≤1:=fun i=>by
  rcases Nat.lt_or_ge i ks.length with hi | hi
  ·rw [getD_get hi];exact h _ (List.getElem_mem hi)
  ·rw [List.getD_eq_getElem?_getD,List.getElem?_eq_none hi];simp
 have h0:=key 0
 have h1:=key 1
 unfold joinI
 grind
theorem evC_le (s:Sch) (row:List Int):∀ c,-1≤evC s row c∧evC s row c≤1:=by
 refine Cnd.ind' fun c ih=>?_
 rw [evC_eq]
 split
 ·exact atomI_le s c _
 ·refine joinI_le fun k hk=>?_
  obtain ⟨x,hx,rfl⟩:=List.mem_map.1 hk
  exact ih x hx
theorem c_ref05_eval (s:Sch) (hok:SchOk s) (row:List Int) (hr:row.length = s.cols.length):∀ (c:Cnd),nodE s c = 0→Spc Tryz.prog F_ref05_eval [schT s,cnT c,vIs row] [] (vI (evC s row c)) []:=by
 refine Cnd.ind' fun c ih hE=>?_
 obtain ⟨hE1,hE2⟩:=nodE_ok hE
 have hnd:=ndE_ok hE1
 have hks:c.kids.length≤2:=by have:=hnd.nk;unfold arC at this;grind
 rw [evC_eq]
 have hi:isAt c = ((c.op == 2) || (c.op == 3) || (c.op == 4)):=rfl
 refine spec_of_ir fn_ref05_eval mixm (by simp) fun e _ hst=>W_start ?_
 unfold ir_ref05_eval
 refine sW ?_
 rw [← hi]
 refine ⟨fun h=>?_,fun h=>?_⟩
 ·rw [if_pos h]
  have hb:∃ k,isB s c.col k = true:=by
   rw [hi] at h
   simp only [tD,beq_iff_eq] at h
   rcases h with (h | h) | h
   ·exact ⟨2,(hnd.under h).1⟩
   ·exact ⟨3,(hnd.between h).1⟩
   ·exact ⟨3,(hnd.miss h).1⟩
  obtain ⟨kk,hb⟩:=hb
  obtain ⟨b1,b2,_⟩:=isB_ok.1 hb
  have hil:c.col.toNat < row.length:=by omega
  rw [getD_get hil]
  simp only [tZ,↓un_u,simprocAttr,getD_mapT hil]
  refine ⟨by omega,?_⟩
  refine C1.im (c_ref05_Atom s hok c hnd _) (by rfl) (by rfl) ?_
  refine sW ?_
  refine ⟨by kernel_rfl,?_⟩
  exact .oA [] []
 ·rw [if_neg (by rw [h];simp)]
  refine W_loopF mixm (α:=Nat) [7,8,21] (fun i=>i≤c.kids.length) (fun i=>[(7,.asl 1 i),(8,vI i)]) (fun i=>[(4096,.arr 2 [schT s] false),(4100,.arr 6 [cnT c] false),(1,.arr 1 (((c.kids.take i).map (evC s row)).map vI) false)]) (fun i=>c.kids.length - i) 0 (by omega) ?_ fun i hi2=>?_
  ·exact .oA [(4096,some 4096),(4100,some 4100),(1,none)] []
  refine sD ?_
  refine ⟨fun h5=>?_,fun h5=>?_⟩
  ·have hi2:i < c.kids.length:=by omega
   have hwi:=i64_succ (i:=i) (by omega)
   simp only [tZ,↓un_u,simprocAttr,Int.toNat_natCast,getD_mapT hi2,cndT_eq]
   refine ⟨by omega,?_⟩
   refine C1.im (ih _ (List.getElem_mem hi2) (hE2 _ (List.getElem_mem hi2))) (by rfl) (by rfl) ?_
   simp only [tZ,↓un_u,simprocAttr,hwi]
   have hlt:(c.kids.take i).length = i:=by simp;omega
   refine ⟨by omega,by kernel_rfl,i + 1,by omega,by omega,?_⟩
   rw [take_snoc hi2,List.map_append,List.map_append]
   exact .oA [(4096,some 4096),(4100,some 4100),(1,some 1)] []
  ·have hil:i = c.kids.length:=by omega
   subst hil
   rw [List.take_length]
   have hj:=c_ref05_join c.op (c.kids.map (evC s row)) (fun e=>by rw [List.length_map,hnd.nk,e];decide) (fun e=>by rw [List.length_map,hnd.nk];rcases e with e | e <;> rw [e] <;> decide) (fun k hk=>by
    obtain ⟨x,_,rfl⟩:=List.mem_map.1 hk
    exact evC_le s row x)
   refine C1.shut [1] hj ?_ (by rfl) rfl ?_
   ·simp only [tL,simprocAttr]
    exact ints_v _
   refine sW ?_
   exact .oA [] []
theorem c_ref05_Eval (s:Sch) (hs:SchSm s) (hL:0 < s.lists.length) (c:Cnd) (row:List Int) (hr:row.length < 4611686018427387904):Spc Tryz.prog F_ref05_Eval [schT s,cnT c,vIs row] [] (vI (evalI s c row)) []:=by
 have hR:=c_ref02_Row s hs row hr
 refine spec_of_ir fn_ref05_Eval mixm (by simp) fun e _ hst=>W_start ?_
 unfold ir_ref05_Eval
 refine sW ?_
 refine C1.im (c_ref05_Check s hs hL c) (by rfl) (by rfl) ?_
 refine sW ?_
 refine C2.im (fun _=>hR) (fun _=>rfl) (by rfl) ?_
 simp only [tZ,↓un_u,simprocAttr,tD,bne_iff_ne,bne_eq_false_iff_eq]
 refine ⟨fun h=>?_,fun h=>?_⟩
 ·rw [evalI,if_pos h]
  exact .oA [] []
 obtain ⟨k1,k2,k3,k4⟩:=chkC_ok h.1
 rw [evalI,if_neg (by omega)]
 refine C1.im (c_ref05_eval s (schE_ok k1) row (rowE_ok h.2).2.1 c k4) (by rfl) (by rfl) ?_
 refine sW ?_
 exact .oA [] []
theorem ats_len:∀ c m,1≤m→cntC c m < m→((atsC c).length:Int)≤cntC c m:=by
 refine Cnd.ind' fun c ih m hm h=>?_
 have hc:=cnt_le c m hm
 rw [atsC_eq]
 split
 ·simp;omega
 ·rw [cntC_eq] at h ⊢
  have key:∀ l:List Cnd,(∀ k∈l,k∈c.kids)→∀ n,1≤n→n≤m→cntCs l m n < m→n + (atsCs l).length≤cntCs l m n:=by
   intro l
   induction l with
   | nil=>intro _ n h1 h2 _;rw [cntCs,atsCs];simp
   | cons k r ihl=>
     intro hk n h1 h2 h3
     rw [cntCs] at h3 ⊢
     rw [atsCs,List.length_append]
     split at h3
     ·rename_i h4
      rw [if_pos h4]
      have c1:=cnt_le k (m - n) (by omega)
      have c2:=cntCs_ge r m (n + cntC k (m - n)) (by omega)
      have c3:=ih k (hk k (by simp)) (m - n) (by omega) (by omega)
      have c4:=ihl (fun x hx=>hk x (List.mem_cons_of_mem _ hx)) (n + cntC k (m - n)) (by omega) (by omega) h3
      omega
     ·omega
  have:=key c.kids (fun k hk=>hk) 1 (by omega) hm h
  omega
theorem atsCs_take_le:∀ (l:List Cnd) (i:Nat),(atsCs (l.take i)).length≤(atsCs l).length
 | [],i=>by simp
 | x :: r,0=>by simp [atsCs]
 | x :: r,i + 1=>by rw [List.take_succ_cons,atsCs,atsCs,List.length_append,List.length_append];have:=atsCs_take_le r i;omega
theorem imx_cs (l:List Cnd):ImXs 6 (l.map cndT):=imXs_map cndT_all l
theorem ltXs_cs {st:Sto} {ρ:Ren} {B:List Nat} (l:List Cnd):ltXs st ρ B 6 (l.map cndT) (l.map cndT):=ltXs_refl (imx_cs l)
theorem c_ref05_Atoms:∀ (c:Cnd) (m:Int),1≤m→m≤1000→cntC c m < m→Spc Tryz.prog F_ref05_Atoms [cnT c] [] (vCs (atsC c)) []:=by
 refine Cnd.ind' fun c ih m hm hm2 hc=>?_
 have hal:=ats_len c m hm hc
 rw [cntC_eq] at hc hal
 obtain ⟨hk1,hk2⟩:=cnt_kids (by omega) hc
 have hi:isAt c = ((c.op == 2) || (c.op == 3) || (c.op == 4)):=rfl
 refine spec_of_ir fn_ref05_Atoms mixm (by simp) fun e _ hst=>W_start ?_
 unfold ir_ref05_Atoms
 refine sW ?_
 rw [← hi]
 refine ⟨fun h=>?_,fun h=>?_⟩
 ·rw [atsC_eq,if_pos h]
  show EndOk [] _ _ (.sl 6 [cndT c]) []
  rw [cndT_eq]
  exact .oA [] [12292]
 ·rw [atsC_eq,if_neg (by rw [h];simp)] at hal ⊢
  refine W_loopF mixm (α:=Nat) [3,4,17] (fun i=>i≤c.kids.length) (fun i=>[(3,.asl 1 (atsCs (c.kids.take i)).length),(4,vI i)]) (fun i=>[(4096,.arr 6 [cnT c] false),(1,.arr 6 ((atsCs (c.kids.take i)).map cndT) false)]) (fun i=>c.kids.length - i) 0 (by omega) ?_ fun i hi2=>?_
  ·exact .oA [(4096,some 4096),(1,none)] []
  have htl:=atsCs_take_le c.kids i
  refine sD ?_
  refine ⟨fun h5=>?_,fun h5=>?_⟩
  ·have hi2:i < c.kids.length:=by omega
   have hwi:=i64_succ (i:=i) (by omega)
   obtain ⟨m',a1,a2,a3⟩:=hk2 _ (List.getElem_mem hi2)
   have htl2:=atsCs_take_le c.kids (i + 1)
   rw [take_snoc hi2,atsCs_snoc,List.length_append] at htl2
   simp only [tZ,↓un_u,simprocAttr,Int.toNat_natCast,getD_mapT hi2,cndT_eq]
   refine ⟨by omega,?_⟩
   refine C1.im (ih _ (List.getElem_mem hi2) m' a1 (by omega) a3) (by rfl) (by rfl) ?_
   simp only [tZ,↓un_u,simprocAttr,hwi]
   refine ⟨by omega,i + 1,by omega,by omega,?_⟩
   rw [take_snoc hi2,atsCs_snoc,List.map_append]
   refine .of [(4096,some 4096),(1,some 1)] [] rfl (by first | rfl | (rw [hst];rfl)) ?_ ?_
   all_goals (try simp only [tL,simprocAttr,List.map_append,List.map_cons,List.map_nil,List.cons_append,List.nil_append,List.append_assoc])
   all_goals (try (repeat' (first | exact ltXs_nil | (apply ltXs_map;intro _;exact ⟨rfl,rfl⟩) | (apply imXs_map;intro _;exact ⟨rfl,rfl⟩) | with_reducible apply imXs_append | with_reducible refine imXs_cons ⟨rfl,rfl⟩ ?_ | exact imXs_nil | with_reducible apply ltXs_append | with_reducible refine ltXs_cons ⟨rfl,rfl,?_⟩ ?_ | with_reducible apply And.intro | exact ltCs_im rfl | exact ltCs_im (by assumption) | (refine ⟨⟨?_,rfl,?_,rfl,?_⟩,trivial⟩ <;> first | (simp;done) | (apply imXs_map;intro _;exact ⟨rfl,rfl⟩)) | trivial | rfl | (rw [i64_succ (by omega)]) | omega)))
   all_goals first | exact ltXs_cs _ | exact imx_cs _
  ·have hil:i = c.kids.length:=by omega
   subst hil
   rw [List.take_length]
   refine .of [] [1] rfl (by first | rfl | (rw [hst];rfl)) ?_ ?_
   all_goals (try simp only [tL,simprocAttr,List.map_append,List.map_cons,List.map_nil,List.cons_append,List.nil_append,List.append_assoc])
   all_goals (try (repeat' (first | exact ltXs_nil | (apply ltXs_map;intro _;exact ⟨rfl,rfl⟩) | (apply imXs_map;intro _;exact ⟨rfl,rfl⟩) | with_reducible apply imXs_append | with_reducible refine imXs_cons ⟨rfl,rfl⟩ ?_ | exact imXs_nil | with_reducible apply ltXs_append | with_reducible refine ltXs_cons ⟨rfl,rfl,?_⟩ ?_ | with_reducible apply And.intro | exact ltCs_im rfl | exact ltCs_im (by assumption) | (refine ⟨⟨?_,rfl,?_,rfl,?_⟩,trivial⟩ <;> first | (simp;done) | (apply imXs_map;intro _;exact ⟨rfl,rfl⟩)) | trivial | rfl | (rw [i64_succ (by omega)]) | omega)))
   all_goals first | exact ltXs_cs _ | exact imx_cs _
end Go.Proofs
set_option linter.unusedSimpArgs false
set_option linter.unusedVariables false
namespace Go.Proofs
open Go Go.TL
set_option maxHeartbeats 4000000
theorem raisF_len (col lev:Int):∀ (l:List Pk) (x:List Pk×Bool),(l.foldl (raisF col lev) x).1.length + (if (l.foldl (raisF col lev) x).2 = true then 0 else 1)≤x.1.length + (if x.2 = true then 0 else 1) + l.length
 | [],x=>Nat.le_refl _
 | p :: r,x=>by
   have h:=raisF_len col lev r (raisF col lev x p)
   have h2:(raisF col lev x p).1.length + (if (raisF col lev x p).2 = true then 0 else 1)≤x.1.length + (if x.2 = true then 0 else 1) + 1:=by
    unfold raisF
    obtain ⟨a,b⟩:=x
    dsimp only
    split <;> split <;> cases b <;> simp_all <;> omega
   rw [List.foldl_cons,List.length_cons]
   omega
theorem raisP_len (l:List Pk) (col lev:Int):(raisP l col lev).length≤l.length + 1:=by
 have h:=raisF_len col lev l ([],decide (lev≤0))
 unfold raisP
 dsimp only at h ⊢
 split
 ·simp_all
  split at h <;> omega
 ·rename_i k
  rw [if_neg k] at h
  rw [List.length_append]
  simp at h ⊢
  split at h <;> omega
theorem c_ref05_Raise (l:List Pk) (col lev:Int) (hl:l.length < 1000000000):Spc Tryz.prog F_ref05_Raise [vPs l,vI col,vI lev] [] (vPs (raisP l col lev)) []:=by
 have hP:raisP l col lev = if (l.foldl (raisF col lev) ([],decide (lev≤0))).2 then (l.foldl (raisF col lev) ([],decide (lev≤0))).1 else (l.foldl (raisF col lev) ([],decide (lev≤0))).1 ++ [⟨col,lev⟩]:=rfl
 have hS:∀ i,i≤l.length→((l.take i).foldl (raisF col lev) ([],decide (lev≤0))).1.length≤l.length + 1:=fun i hi=>by
  have h:=raisF_len col lev (l.take i) ([],decide (lev≤0))
  simp only [List.length_nil,List.length_take] at h
  split at h <;> split at h <;> omega
 refine spec_of_ir fn_ref05_Raise mixm (by simp) fun e _ hst=>W_start ?_
 unfold ir_ref05_Raise
 refine sW ?_
 refine W_loopF mixm (α:=Nat×List Pk×Bool) [7,8,9] (fun x=>x.1≤l.length∧x.2 = (l.take x.1).foldl (raisF col lev) ([],decide (lev≤0))) (fun x=>[(7,.asl 1 x.2.1.length),(8,vB x.2.2),(9,vI x.1)]) (fun x=>[(1,.arr 2 (x.2.1.map pkT) false)]) (fun x=>l.length - x.1) (0,[],decide (lev≤0)) ⟨by simp,by simp⟩ ?_ fun x hx=>?_
 ·exact .oA [(1,none)] []
 obtain ⟨i,a,b⟩:=x
 obtain ⟨x1,x2⟩:=hx
 dsimp only at x1 x2
 have hSi:=hS i x1
 rw [← x2] at hSi
 dsimp only at hSi
 refine sD ?_
 refine ⟨fun h=>?_,fun h=>?_⟩
 ·have hi2:i < l.length:=by omega
  have hwi:=i64_succ (i:=i) (by omega)
  have hs:(l.take (i + 1)).foldl (raisF col lev) ([],decide (lev≤0)) = raisF col lev (a,b) l[i]:=by rw [take_snoc hi2,List.foldl_append,← x2];rfl
  simp only [tZ,↓un_u,simprocAttr,Int.toNat_natCast,getD_mapT hi2]
  generalize l[i] = p at hs ⊢
  have hmx:maxI p.lev lev = max p.lev lev:=by unfold maxI;omega
  have hr:raisF col lev (a,b) p = (if p.col = col then ((if p.col > col∧b = false then (a ++ [⟨col,lev⟩],true) else (a,b)).1 ++ [⟨p.col,max p.lev lev⟩],true) else ((if p.col > col∧b = false then (a ++ [⟨col,lev⟩],true) else (a,b)).1 ++ [p],(if p.col > col∧b = false then (a ++ [(⟨col,lev⟩:Pk)],true) else (a,b)).2)):=rfl
  rw [hr] at hs
  simp only [tZ,↓un_u,simprocAttr,tD,beq_iff_eq,beq_eq_false_iff_ne,Bool.not_eq_true',Bool.not_eq_false',hwi,hmx]
  refine ⟨by omega,fun h2=>⟨by omega,fun h3=>by omega,fun h3=>?_⟩,fun h2=>⟨fun h3=>?_,fun h3=>?_⟩⟩
  ·rw [if_neg h3,if_pos h2] at hs
   refine ⟨by omega,(i + 1,a ++ [⟨col,lev⟩] ++ [p],true),⟨by dsimp only;omega,hs.symm⟩,by dsimp only;omega,?_⟩
   exact .oA [(1,some 1)] []
  ·rw [if_pos h3,if_neg (by grind)] at hs
   refine ⟨by omega,(i + 1,a ++ [⟨p.col,max p.lev lev⟩],true),⟨by dsimp only;omega,hs.symm⟩,by dsimp only;omega,?_⟩
   exact .oA [(1,some 1)] []
  ·rw [if_neg h3,if_neg (by grind)] at hs
   refine ⟨by omega,(i + 1,a ++ [p],b),⟨by dsimp only;omega,hs.symm⟩,by dsimp only;omega,?_⟩
   exact .oA [(1,some 1)] []
 ·have hil:i = l.length:=by omega
  subst hil
  rw [List.take_length] at x2
  rw [← x2] at hP
  dsimp only at hP
  simp only [tZ,↓un_u,simprocAttr,Bool.not_eq_true',Bool.not_eq_false']
  refine ⟨fun h2=>?_,fun h2=>?_⟩
  ·rw [hP,h2,if_neg (by simp)]
   refine ⟨by omega,?_⟩
   show EndOk [] _ _ (.sl 2 ((a ++ [(⟨col,lev⟩:Pk)]).map pkT)) []
   rw [List.map_append]
   exact .oA [] [1]
  ·rw [hP,if_pos h2]
   exact .oA [] [1]
theorem c_ref05_Covers (a b:List Pk) (ha:a.length < 4611686018427387904) (hb:b.length < 4611686018427387904):Spc Tryz.prog F_ref05_Covers [vPs a,vPs b] [] (vB (covB a b)) []:=by
 refine spec_of_ir fn_ref05_Covers mixm (by simp) fun e _ hst=>W_start ?_
 unfold ir_ref05_Covers
 refine sW ?_
 refine W_loopF mixm (α:=Nat) [5] (fun i=>i≤a.length∧(covB (a.take i) b = true)) (fun i=>[(5,vI i)]) (fun i=>[]) (fun i=>a.length - i) 0 ⟨by omega,?_⟩ ?_ fun i hi=>?_
 ·rfl
 ·exact .oA [] []
 simp only [tZ,↓un_u,simprocAttr,decide_eq_true_eq,decide_eq_false_iff_not]
 refine ⟨fun h=>?_,fun h=>?_⟩
 ·have hi2:i < a.length:=by omega
  have hwi:=i64_succ (i:=i) (by omega)
  refine W_loopF mixm (α:=Nat) [6,7] (fun k=>k≤b.length) (fun k=>[(6,vB ((b.take k).any fun y=>(y.col == a[i].col) && decide (y.lev≥a[i].lev))),(7,vI k)]) (fun k=>[]) (fun k=>b.length - k) 0 (by omega) ?_ fun k hk=>?_
  ·exact .oA [] []
  refine sD ?_
  refine ⟨fun h4=>?_,fun h4=>?_⟩
  ·have hk2:k < b.length:=by omega
   have hwk:=i64_succ (i:=k) (by omega)
   simp only [tZ,↓un_u,simprocAttr,Int.toNat_natCast,getD_mapT hi2,getD_mapT hk2,hwk]
   refine ⟨fun _=>by omega,fun _=>by omega,fun _=>by omega,fun _=>by omega,by kernel_rfl,k + 1,by omega,by omega,?_⟩
   rw [take_snoc hk2,List.any_append,List.any_cons,List.any_nil,Bool.or_false]
   exact .oA [] []
  ·have hkl:k = b.length:=by omega
   subst hkl
   rw [List.take_length]
   have hcs:covB (a.take (i + 1)) b = (covB (a.take i) b && b.any fun y=>(y.col == a[i].col) && decide (y.lev≥a[i].lev)):=by
    unfold covB
    rw [take_snoc hi2,List.all_append]
    simp
   simp only [tZ,↓un_u,simprocAttr,Bool.not_eq_true',Bool.not_eq_false',hwi]
   refine ⟨fun h5=>?_,fun h5=>?_⟩
   ·have:covB a b = false:=List.all_eq_false.2 ⟨_,List.getElem_mem hi2,by rw [h5];simp⟩
    rw [this]
    exact .oA [] []
   ·refine ⟨i + 1,⟨by omega,by rw [hcs,hi.2,h5];rfl⟩,by omega,?_⟩
    exact .oA [] []
 ·have hi2:i = a.length:=by omega
  subst hi2
  have h3:=hi.2
  rw [List.take_length] at h3
  rw [h3]
  exact .oA [] []
theorem sameCs_ne:∀ {a b:List Cnd},a.length≠b.length→sameCs a b = false
 | [],[],h=>by simp at h
 | x :: r,y :: t,h=>by rw [sameCs,sameCs_ne (a:=r) (b:=t) (by simpa using h),Bool.and_false]
 | [],y :: t,_=>rfl
 | x :: r,[],_=>rfl
theorem sameCs_step:∀ {a b:List Cnd} {i:Nat} (ha:i < a.length) (hb:i < b.length),sameCs (a.take (i + 1)) (b.take (i + 1)) = (sameCs (a.take i) (b.take i) && sameC a[i] b[i])
 | x :: r,y :: t,0,_,_=>by simp [sameCs]
 | x :: r,y :: t,i + 1,ha,hb=>by
   rw [List.take_succ_cons,List.take_succ_cons,sameCs,sameCs_step (a:=r) (b:=t) (by simpa using ha) (by simpa using hb),List.take_succ_cons,List.take_succ_cons,sameCs]
   simp [Bool.and_assoc]
theorem sameCs_bad:∀ {a b:List Cnd} {i:Nat} (ha:i < a.length) (hb:i < b.length),sameC a[i] b[i] = false→sameCs a b = false
 | x :: r,y :: t,0,_,_,h=>by
   have h:sameC x y = false:=h
   rw [sameCs,h,Bool.false_and]
 | x :: r,y :: t,i + 1,ha,hb,h=>by rw [sameCs,sameCs_bad (a:=r) (b:=t) (i:=i) (by simpa using ha) (by simpa using hb) h,Bool.and_false]
inductive SmC:Cnd→Prop
 | mk (c:Cnd) (h1:c.kids.length < 4611686018427387904) (h2:∀ k∈c.kids,SmC k):SmC c
theorem c_ref05_Same:∀ (a b:Cnd),(a.kids.length = b.kids.length→SmC a)→Spc Tryz.prog F_ref05_Same [cnT a,cnT b] [] (vB (sameC a b)) []:=by
 refine Cnd.ind' fun a ih b hs=>?_
 rw [sameC_eq]
 refine spec_of_ir fn_ref05_Same mixm (by simp) fun e _ hst=>W_start ?_
 unfold ir_ref05_Same
 simp only [tZ,↓un_u,simprocAttr,tD,bne_iff_ne,bne_eq_false_iff_eq]
 refine ⟨fun h=>?_,fun h=>?_⟩
 ·have:((a.op == b.op) && (a.col == b.col) && (a.code == b.code) && (a.lo == b.lo) && (a.hi == b.hi) && sameCs a.kids b.kids) = false:=by
   rcases h with ((((h | h) | h) | h) | h) | h
   ·rw [beq_eq_false_iff_ne.2 h];simp
   ·rw [beq_eq_false_iff_ne.2 h];simp
   ·rw [beq_eq_false_iff_ne.2 h];simp
   ·rw [beq_eq_false_iff_ne.2 h];simp
   ·rw [beq_eq_false_iff_ne.2 h];simp
   ·rw [sameCs_ne (by omega)];simp
  rw [this]
  exact .oA [] []
 have e:((a.op == b.op) && (a.col == b.col) && (a.code == b.code) && (a.lo == b.lo) && (a.hi == b.hi) && sameCs a.kids b.kids) = sameCs a.kids b.kids:=by
  rw [beq_iff_eq.2 h.1.1.1.1.1,beq_iff_eq.2 h.1.1.1.1.2,beq_iff_eq.2 h.1.1.1.2,beq_iff_eq.2 h.1.1.2,beq_iff_eq.2 h.1.2];simp
 have hl:a.kids.length = b.kids.length:=by omega
 obtain ⟨_,s1,s2⟩:=hs hl
 rw [e]
 refine W_loopF mixm (α:=Nat) [5,47] (fun i=>i≤a.kids.length∧sameCs (a.kids.take i) (b.kids.take i) = true) (fun i=>[(5,vI i)]) (fun i=>[(4096,.arr 6 [cnT a] false),(4100,.arr 6 [cnT b] false)]) (fun i=>a.kids.length - i) 0 ⟨by omega,by simp [sameCs]⟩ ?_ fun i hi=>?_
 ·exact .oA [(4096,some 4096),(4100,some 4100)] []
 refine sD ?_
 refine ⟨fun h5=>?_,fun h5=>?_⟩
 ·have hi2:i < a.kids.length:=by omega
  have hib:i < b.kids.length:=by omega
  have hwi:=i64_succ (i:=i) (by omega)
  simp only [tZ,↓un_u,simprocAttr,Int.toNat_natCast,getD_mapT hi2,getD_mapT hib,cndT_eq]
  refine ⟨by omega,by omega,?_⟩
  refine C1.im (ih _ (List.getElem_mem hi2) b.kids[i] fun _=>s2 _ (List.getElem_mem hi2)) (by rfl) (by rfl) ?_
  simp only [tZ,↓un_u,simprocAttr,Bool.not_eq_true',Bool.not_eq_false',hwi]
  refine ⟨by kernel_rfl,fun h6=>?_,fun h6=>?_⟩
  ·rw [sameCs_bad hi2 hib h6]
   exact .oA [] []
  ·refine ⟨i + 1,⟨by omega,by rw [sameCs_step hi2 hib,hi.2,h6];rfl⟩,by omega,?_⟩
   exact .oA [(4096,some 4096),(4100,some 4100)] []
 ·have hil:i = a.kids.length:=by omega
  have h2:=hi.2
  rw [hil,List.take_length,hl,List.take_length] at h2
  rw [h2]
  exact .oA [] []
end Go.Proofs
set_option linter.unusedSimpArgs false
set_option linter.unusedVariables false
namespace Go.Proofs
open Go Go.TL
set_option maxHeartbeats 4000000
theorem c_ref05_decides (s:Sch) (hE:schE s = 0) (c:Cnd) (hnd:NdOk s c) (ha:isAt c = true) (lev:Nat) (hl:(lev:Int)≤finI s c.col):Spc Tryz.prog F_ref05_decides [schT s,cnT c,vI lev] [] (vB (decB s c lev)) []:=by
 have hok:=schE_ok hE
 have hn0:=hok.nl
 have hn1:=hok.nc
 obtain ⟨_,c1,c2,hfin⟩:=finI_ok (s:=s) (c:=c.col) (by omega)
 obtain ⟨i,hci⟩:=Int.eq_ofNat_of_zero_le (show 0≤c.col by omega)
 have hcn:c.col.toNat = i:=by omega
 have hil:i < s.cols.length:=by omega
 have hat:colAt s i = s.cols[i]:=by rw [colAt,getD_get hil]
 have hwd:=fun e l=>hok.wid hil (by omega) e (lev:=l)
 have hlv:=c_ref02_Leaves s hok i hil
 have hll:=leaves_len hok hil
 rw [hcn,hat] at hfin
 rw [hat] at hwd hlv hll
 have hi:isAt c = ((c.op == 2) || (c.op == 3) || (c.op == 4)):=rfl
 have hD:decB s c lev = if c.op = 2 then pairA (leavesL s i).length (decP s c lev)
 else if c.op = 4 then decide (0 < lev)
 else if lev = 0 then !s.cols[i].opt && !(decide (s.cols[i].low < c.lo) && decide (c.lo≤s.cols[i].high)) && !(decide (s.cols[i].low≤c.hi) && decide (c.hi < s.cols[i].high))
  else (!(decide (s.cols[i].low < c.lo) && decide (c.lo≤s.cols[i].high)) || (c.lo.tmod (widthI s.cols[i] lev) == 0)) && (!(decide (s.cols[i].low≤c.hi) && decide (c.hi < s.cols[i].high)) || ((c.hi + 1).tmod (widthI s.cols[i] lev) == 0)):=by
  rw [decB,hcn,hat]
 have hk2:c.op = 2→s.cols[i].kind = 2:=fun h=>by
  have:=(isB_ok.1 (hnd.under h).1).2.2
  rw [hcn,hat] at this;exact this
 have hk3:c.op = 3→s.cols[i].kind = 3:=fun h=>by
  have:=(isB_ok.1 (hnd.between h).1).2.2
  rw [hcn,hat] at this;exact this
 have hPd:∀ L,leavesL s i = L→∀ j k,decP s c lev j k = !((coarseI s c.col lev (L.getD j 0) == coarseI s c.col lev (L.getD k 0)) && !(atomI s c (L.getD j 0) == atomI s c (L.getD k 0))):=fun L hL j k=>by rw [decP,hcn,hL]
 rw [hD]
 have hci2:vI c.col = vI i:=by rw [hci]
 refine spec_of_ir fn_ref05_decides mixm (by simp) fun e _ hst=>W_start ?_
 unfold ir_ref05_decides
 simp only [tZ,↓un_u,simprocAttr,hcn,getD_mapT hil]
 generalize s.cols[i] = x at hwd hlv hfin hll hk2 hk3 ⊢
 simp only [tZ,↓un_u,simprocAttr,beq_iff_eq,beq_eq_false_iff_ne]
 refine ⟨by omega,fun h2=>?_,fun h2=>?_⟩
 ·rw [if_pos h2]
  rw [← hci2] at hlv
  refine C1.im (hlv (hk2 h2)) (by rfl) (by rfl) ?_
  have hPd:=hPd _ rfl
  generalize leavesL s i = L at hll hPd ⊢
  have hll:=hll (hk2 h2)
  refine sW ?_
  refine W_loopF mixm (α:=Nat) [9] (fun j=>j≤L.length∧pairA j (decP s c lev) = true) (fun j=>[(9,vI j)]) (fun j=>[(4096,.arr 2 [schT s] false),(4100,.arr 6 [cnT c] false),(8216,.arr 7 [colT x] false)]) (fun j=>L.length - j) 0 ⟨by omega,rfl⟩ ?_ fun j hj=>?_
  ·exact .oA [(4096,some 4096),(4100,some 4100),(8216,some 8216)] []
  obtain ⟨j1,j2⟩:=hj
  refine sD ?_
  refine ⟨fun h3=>?_,fun h3=>?_⟩
  ·have hj2:j < L.length:=by omega
   have hwj:=i64_succ (i:=j) (by omega)
   have hgj:L.getD j 0 = L[j]:=getD_get hj2
   refine W_loopF mixm (α:=Nat) [10] (fun k=>k≤j∧(List.range k).all (decP s c lev j) = true) (fun k=>[(10,vI k)]) (fun k=>[(4096,.arr 2 [schT s] false),(4100,.arr 6 [cnT c] false),(8216,.arr 7 [colT x] false)]) (fun k=>j - k) 0 ⟨by omega,rfl⟩ ?_ fun k hk=>?_
   ·exact .oA [(4096,some 4096),(4100,some 4100),(8216,some 8216)] []
   obtain ⟨k1,k2⟩:=hk
   refine sD ?_
   refine ⟨fun h4=>?_,fun h4=>?_⟩
   ·have hk2:k < L.length:=by omega
    have hwk:=i64_succ (i:=k) (by omega)
    have hgk:L.getD k 0 = L[k]:=getD_get hk2
    have hP:=hPd j k
    rw [hgj,hgk] at hP
    have hC1:=c_ref05_Atom s hok c hnd L[j]
    have hC2:=c_ref05_Atom s hok c hnd L[k]
    simp only [tZ,↓un_u,simprocAttr,Int.toNat_natCast,getD_mapT hj2,getD_mapT hk2]
    refine ⟨by omega,?_⟩
    refine C1.im (c_ref02_Coarse s hok.sm c.col lev L[j]) (by rfl) (by rfl) ?_
    simp only [tZ,↓un_u,simprocAttr,Int.toNat_natCast,getD_mapT hj2,getD_mapT hk2]
    refine ⟨by omega,?_⟩
    refine C1.im (c_ref02_Coarse s hok.sm c.col lev L[k]) (by rfl) (by rfl) ?_
    simp only [tZ,↓un_u,simprocAttr,Int.toNat_natCast,getD_mapT hj2,getD_mapT hk2]
    refine ⟨fun _=>by omega,?_⟩
    refine C2.im (fun _=>hC1) (fun _=>rfl) (by rfl) ?_
    simp only [tZ,↓un_u,simprocAttr,Int.toNat_natCast,getD_mapT hj2,getD_mapT hk2]
    refine ⟨fun _=>by omega,?_⟩
    refine C2.im (fun _=>hC2) (fun _=>rfl) (by rfl) ?_
    simp only [tZ,↓un_u,simprocAttr,hwk,tD,bne_iff_ne,bne_eq_false_iff_eq,beq_iff_eq,beq_eq_false_iff_ne]
    refine ⟨by kernel_rfl,fun h5=>?_,fun h5=>?_⟩
    ·rw [pairA_no hj2 (show k < j by omega) (by rw [hP];grind)]
     exact .oA [] []
    ·refine ⟨k + 1,⟨by omega,?_⟩,by omega,?_⟩
     ·rw [all_succ,k2,hP];grind
     ·exact .oA [(4096,some 4096),(4100,some 4100),(8216,some 8216)] []
   ·have hkj:k = j:=by omega
    subst hkj
    simp only [tZ,↓un_u,simprocAttr,hwj]
    refine ⟨k + 1,⟨by omega,?_⟩,by omega,?_⟩
    ·rw [pairA_succ,j2,k2];rfl
    ·exact .oA [(4096,some 4096),(4100,some 4100),(8216,some 8216)] []
  ·have hjl:j = L.length:=by omega
   subst hjl
   rw [j2]
   exact .oA [] []
 rw [if_neg h2]
 refine ⟨fun h4=>?_,fun h4=>?_⟩
 ·rw [if_pos h4]
  rw [show decide ((lev:Int) > 0) = decide (0 < lev) from by rw [Bool.eq_iff_iff,decide_eq_true_eq,decide_eq_true_eq];omega]
  exact .oA [] []
 rw [if_neg h4]
 have h3:c.op = 3:=by
  rw [hi] at ha
  simp only [tD,beq_iff_eq] at ha
  omega
 have hk3:=hk3 h3
 have hb:=hnd.between h3
 rw [if_neg (by omega)] at hfin
 refine ⟨by kernel_rfl,fun h5=>?_,fun h5=>?_⟩
 ·rw [if_pos (by omega),show decide (c.lo > x.low) = decide (x.low < c.lo) from rfl]
  exact .oA [] []
 ·rw [if_neg (by omega)]
  have hw:=hwd (by omega) lev (by omega)
  refine C1.im (c_ref02_Width x lev (by omega) (by omega)) (by rfl) (by rfl) ?_
  have hwh:IntKind.i64.wrap (c.hi + 1) = c.hi + 1:=IntWalk.i64_in _ (by omega)
  simp only [tZ,↓un_u,simprocAttr,hwh]
  rw [show decide (c.lo > x.low) = decide (x.low < c.lo) from rfl]
  refine ⟨fun _=>by omega,fun _=>by omega,?_⟩
  exact .oA [] []
theorem leaf_coarse {s:Sch} (hE:schE s = 0) {i:Nat} (h1:0 < i) (h2:i < s.cols.length) (hk:(colAt s i).kind = 2) {v:Int} (hv:v∈leavesL s i):coarseI s i (finI s i) v = v:=by
 have hok:=schE_ok hE
 obtain ⟨d1,d2⟩:=hok.cdl h2 hk
 have hf:finI s i = lvlsL (cdlAt s i) - 1:=by
  rw [finI,if_neg (by omega),Int.toNat_natCast,if_pos hk]
 have hh:=leaf_holds hk d2 hv
 obtain ⟨j,j1,j2,rfl⟩:=(atL_mem d2).1 hv
 rw [coarseI,if_neg,Int.toNat_natCast,if_pos hk,if_neg (by rw [hh];simp),upC,if_neg,hf,← j2,Int.toNat_natCast,Int.toNat_natCast,up_end (by omega)]
 ·rw [hf,← j2,Int.toNat_natCast];omega
 ·rw [Bool.not_eq_false,inB_ok,hf,← j2];omega
theorem dec_fin {s:Sch} (hE:schE s = 0) {c:Cnd} (hnd:NdOk s c) (ha:isAt c = true):0≤finI s c.col∧decB s c (finI s c.col).toNat = true:=by
 have hok:=schE_ok hE
 have hlv:∀ k,isB s c.col k = true→2≤k→∃ i:Nat,c.col = i∧0 < i∧i < s.cols.length∧(colAt s i).kind = k:=fun k hb hk=>by
  obtain ⟨b1,b2,b3⟩:=isB_ok.1 hb
  obtain ⟨i,hci⟩:=Int.eq_ofNat_of_zero_le b1
  rw [hci,Int.toNat_natCast] at b3
  refine ⟨i,hci,?_,by omega,b3⟩
  refine Nat.pos_of_ne_zero fun e=>?_
  subst e
  have:=hok.c0
  omega
 have hm:∀ i:Nat,0 < i→i < s.cols.length→(colAt s i).kind = 3→finI s i = (colAt s i).widths.length∧1≤(colAt s i).widths.length:=fun i h1 h2 h3=>by
  refine ⟨by rw [finI,if_neg (by omega),Int.toNat_natCast,if_neg (by omega)],?_⟩
  have:=(colE_kind (hok.cs i h2)).2.2.2.2 h3
  unfold measE at this
  grind
 have hop:c.op = 2∨c.op = 3∨c.op = 4:=by
  unfold isAt at ha
  simp only [Bool.or_eq_true,beq_iff_eq] at ha
  omega
 rcases hop with h | h | h
 ·obtain ⟨i,hci,h1,h2,hk⟩:=hlv 2 (hnd.under h).1 (by omega)
  obtain ⟨d1,d2⟩:=hok.cdl h2 hk
  have hf:finI s i = lvlsL (cdlAt s i) - 1:=by
   rw [finI,if_neg (by omega),Int.toNat_natCast,if_pos hk]
  have hf0:0≤finI s i:=by rw [hf,lvlsL_eq d2];omega
  rw [hci]
  refine ⟨hf0,?_⟩
  rw [decB,if_pos h,hci,Int.toNat_natCast,pairA,List.all_eq_true]
  intro j hj
  rw [List.mem_range] at hj
  rw [List.all_eq_true]
  intro k hk2
  rw [List.mem_range] at hk2
  have e:(((finI s i).toNat:Nat):Int) = finI s i:=by omega
  rw [decP,hci,Int.toNat_natCast,e,getD_get hj,getD_get (by omega),leaf_coarse hE h1 h2 hk (List.getElem_mem _),leaf_coarse hE h1 h2 hk (List.getElem_mem _)]
  grind
 ·obtain ⟨i,hci,h1,h2,hk⟩:=hlv 3 (hnd.between h).1 (by omega)
  obtain ⟨m1,m2⟩:=hm i h1 h2 hk
  have hw:=hok.wid h2 h1 (by omega) (lev:=(colAt s i).widths.length) (by omega)
  rw [hci,m1]
  refine ⟨by omega,?_⟩
  rw [decB,if_neg (by omega),if_neg (by omega),hci,Int.toNat_natCast,Int.toNat_natCast]
  dsimp only
  rw [if_neg (by omega),hw.2.2.2.2.2.2.2]
  simp
 ·obtain ⟨i,hci,h1,h2,hk⟩:=hlv 3 (hnd.miss h).1 (by omega)
  obtain ⟨m1,m2⟩:=hm i h1 h2 hk
  rw [hci,m1]
  refine ⟨by omega,?_⟩
  rw [decB,if_neg (by omega),if_pos h,Int.toNat_natCast]
  exact decide_eq_true (by omega)
theorem decN_spec {s:Sch} (hE:schE s = 0) {c:Cnd} (hnd:NdOk s c) (ha:isAt c = true):(decN s c:Int)≤finI s c.col∧decB s c (decN s c) = true∧(∀ m,m < decN s c→decB s c m = false):=by
 obtain ⟨h1,h2⟩:=dec_fin hE hnd ha
 have h3:=finI_le (c:=c.col) hE
 obtain ⟨a,b,_,d⟩:=firstN_spec h2 64 0 (by omega) (by omega)
 unfold decN
 exact ⟨by omega,a,fun m hm=>d m (by omega) hm⟩
def needF (s:Sch):List Pk→Cnd→List Pk:=fun l a=>raisP l a.col (decN s a)
theorem needF_len (s:Sch):∀ (L:List Cnd) (l:List Pk),(L.foldl (needF s) l).length≤l.length + L.length
 | [],l=>Nat.le_refl _
 | a :: L,l=>by
   have h1:=needF_len s L (needF s l a)
   have h2:=raisP_len l a.col (decN s a)
   rw [List.foldl_cons,List.length_cons]
   unfold needF at h1 ⊢
   omega
theorem c_ref05_Needs (s:Sch) (hs:SchSm s) (hL:0 < s.lists.length) (c:Cnd):Spc Tryz.prog F_ref05_Needs [schT s,cnT c] [] (vPs (needC s c)) []:=by
 refine spec_of_ir fn_ref05_Needs mixm (by simp) fun e _ hst=>W_start ?_
 unfold ir_ref05_Needs
 refine sW ?_
 refine C1.im (c_ref05_Check s hs hL c) (by rfl) (by rfl) ?_
 simp only [tZ,↓un_u,simprocAttr,bne_iff_ne,bne_eq_false_iff_eq]
 refine ⟨fun h=>?_,fun h=>?_⟩
 ·rw [needC,if_pos h]
  exact .oA [] []
 obtain ⟨hE,k2,k3,k4⟩:=chkC_ok h
 have hal:=ats_len c 41 (by omega) k2
 have hao:=ats_ok c k4
 have hN:needC s c = (atsC c).foldl (needF s) []:=by rw [needC,if_neg (by rw [h];simp)];rfl
 rw [hN]
 refine C1.im (c_ref05_Atoms c 41 (by omega) (by omega) k2) (by rfl) (by rfl) ?_
 generalize atsC c = L at hal hao ⊢
 refine sW ?_
 refine W_loopF mixm (α:=Nat) [5,7,12] (fun i=>i≤L.length) (fun i=>[(5,vPs ((L.take i).foldl (needF s) [])),(7,vI i)]) (fun i=>[(4096,.arr 2 [schT s] false)]) (fun i=>L.length - i) 0 (by omega) ?_ fun i hi=>?_
 ·exact .oA [(4096,some 4096)] []
 have hlen:=needF_len s (L.take i) []
 rw [List.length_take] at hlen
 refine sD ?_
 refine ⟨fun h3=>?_,fun h3=>?_⟩
 ·have hi2:i < L.length:=by omega
  have hwi:=i64_succ (i:=i) (by omega)
  obtain ⟨hnd,ha⟩:=hao _ (List.getElem_mem hi2)
  obtain ⟨n1,n2,n3⟩:=decN_spec hE hnd ha
  have h59:=finI_le (c:=L[i].col) hE
  refine W_loopF mixm (α:=Nat) [8] (fun n=>n≤decN s L[i]) (fun n=>[(8,vI n)]) (fun n=>[(4096,.arr 2 [schT s] false)]) (fun n=>decN s L[i] - n) 0 (by omega) ?_ fun n hn=>?_
  ·exact .oA [(4096,some 4096)] []
  have hwn:=i64_succ (i:=n) (by omega)
  simp only [tZ,↓un_u,simprocAttr,Int.toNat_natCast,getD_mapT hi2,cndT_eq]
  refine ⟨by omega,?_⟩
  refine C1.im (c_ref05_decides s hE L[i] hnd ha n (by omega)) (by rfl) (by rfl) ?_
  simp only [tZ,↓un_u,simprocAttr,Bool.not_eq_true',Bool.not_eq_false',hwn]
  refine ⟨by kernel_rfl,fun h4=>?_,fun h4=>?_⟩
  ·have:n≠decN s L[i]:=fun e=>by rw [e,n2] at h4;cases h4
   refine ⟨n + 1,by omega,by omega,?_⟩
   exact .oA [(4096,some 4096)] []
  ·have:n = decN s L[i]:=by
    refine Nat.le_antisymm hn (Nat.le_of_not_lt fun e=>?_)
    rw [n3 n e] at h4;cases h4
   subst this
   simp only [tZ,↓un_u,simprocAttr,Int.toNat_natCast,getD_mapT hi2,cndT_eq]
   refine ⟨by omega,?_⟩
   refine C1.im (c_ref05_Raise ((L.take i).foldl (needF s) []) L[i].col (decN s L[i]) (by simp at hlen;omega)) (by rfl) (by rfl) ?_
   simp only [tZ,↓un_u,simprocAttr,hwi]
   refine ⟨i + 1,by omega,by omega,?_⟩
   rw [take_snoc hi2,List.foldl_append]
   show Le _ _ ⟨(5,vPs (raisP ((L.take i).foldl (needF s) []) L[i].col (decN s L[i]))) :: _,_⟩
   exact .oA [(4096,some 4096)] []
 ·have hil:i = L.length:=by omega
  subst hil
  rw [List.take_length]
  exact .oA [] []
end Go.Proofs
set_option linter.unusedSimpArgs false
set_option linter.unusedVariables false
namespace Go.Proofs
open Go Go.TL
set_option maxHeartbeats 4000000
theorem c_ref08_Is (s:Sch) (col kind:Int):Spc Tryz.prog F_ref08_Is [schT s,vI col,vI kind] [] (vB (isB s col kind)) []:=by
 by_cases h:0≤col∧col < s.cols.length
 ·obtain ⟨i,rfl⟩:=Int.eq_ofNat_of_zero_le h.1
  have hi:i < s.cols.length:=by omega
  have e1:decide ((i:Int)≥0) = true:=decide_eq_true (by omega)
  have e2:decide ((i:Int) < s.cols.length) = true:=decide_eq_true (by omega)
  have e3:isB s i kind = (s.cols[i].kind == kind):=by
   rw [isB,Int.toNat_natCast,colAt,getD_get hi,decide_eq_true h.1,decide_eq_true h.2];rfl
  refine spec_of_ir fn_ref08_Is mixm (by simp) fun e _ hst=>W_start ?_
  unfold ir_ref08_Is
  simp only [tZ,↓un_u,simprocAttr,e1,e2,Int.toNat_natCast,getD_mapT hi]
  rw [e3]
  refine ⟨by omega,?_⟩
  exact .oA [] []
 ·have e1:(decide (col≥0) && decide (col < (s.cols.length:Int))) = false:=by
   rw [Bool.and_eq_false_iff,decide_eq_false_iff_not,decide_eq_false_iff_not];omega
  have e3:isB s col kind = false:=by
   unfold isB
   rw [show (decide (0≤col) && decide (col < (s.cols.length:Int))) = false from e1];rfl
  rcases Nat.lt_or_ge col.toNat s.cols.length with hk | hk
  ·refine spec_of_ir fn_ref08_Is mixm (by simp) fun e _ hst=>W_start ?_
   unfold ir_ref08_Is
   simp only [tZ,↓un_u,simprocAttr,e1,getD_mapT hk]
   rw [e3]
   exact .oA [] []
  ·have hj:(s.cols.map colT).getD col.toNat .junk = .junk:=getD_out hk
   refine spec_of_ir fn_ref08_Is mixm (by simp) fun e _ hst=>W_start ?_
   unfold ir_ref08_Is
   simp only [tZ,↓un_u,simprocAttr,e1,hj,List.drop_succ_cons,List.drop_nil]
   rw [e3]
   exact .oA [] []
theorem c_ref08_Dims (s:Sch) (hs:SchSm s) (l:List Pk):Spc Tryz.prog F_ref08_Dims [schT s,vPs l] [] (vI (dimsE s l)) []:=by
 refine spec_of_ir fn_ref08_Dims mixm (by simp) fun e _ hst=>W_start ?_
 unfold ir_ref08_Dims
 refine sD ?_
 refine ⟨fun h=>?_,fun h=>?_⟩
 ·rw [dimsE,if_pos (by omega)]
  exact .oA [] []
 rw [dimsE,if_neg (by omega)]
 refine W_loopF mixm (α:=Nat) [5,15] (fun i=>i≤l.length∧firstE (dimE s l) i = 0) (fun i=>[(5,vI i)]) (fun i=>[(4096,.arr 2 [schT s] false)]) (fun i=>l.length - i) 0 ⟨by omega,rfl⟩ ?_ fun i hi=>?_
 ·exact .oA [(4096,some 4096)] []
 refine sD ?_
 refine ⟨fun h3=>?_,fun h3=>?_⟩
 ·have hi2:i < l.length:=by omega
  have hwi:=i64_succ (i:=i) (by omega)
  have hpi:pkAt l i = l[i]:=by rw [pkAt,getD_get hi2]
  have hstep:=firstE_hit hi.2 hi2
  have hnext:=firstE_next hi.2
  have hA:dimE s l i = if pickE s l[i]≠0 then pickE s l[i] else if isB s l[i].col 2 = false then 7 else if ((l.take i).any fun x=>x.col == l[i].col) = true then 10 else 0:=by rw [dimE,hpi]
  simp only [tZ,↓un_u,simprocAttr,Int.toNat_natCast,getD_mapT hi2]
  refine ⟨by omega,?_⟩
  refine C1.im (c_ref02_Pick s hs l[i]) (by rfl) (by rfl) ?_
  simp only [tZ,↓un_u,simprocAttr,bne_iff_ne,bne_eq_false_iff_eq]
  refine ⟨by kernel_rfl,fun h4=>?_,fun h4=>?_⟩
  ·rw [if_pos h4] at hA
   rw [hstep (by rw [hA];exact h4),hA]
   exact .oA [] []
  rw [if_neg (by rw [h4];simp)] at hA
  simp only [tZ,↓un_u,simprocAttr,Int.toNat_natCast,getD_mapT hi2]
  refine ⟨by omega,?_⟩
  refine C1.im (c_ref08_Is s l[i].col 2) (by rfl) (by rfl) ?_
  simp only [tZ,↓un_u,simprocAttr,Bool.not_eq_true',Bool.not_eq_false']
  refine ⟨by kernel_rfl,fun h5=>?_,fun h5=>?_⟩
  ·rw [if_pos h5] at hA
   rw [hstep (by rw [hA];simp),hA]
   exact .oA [] []
  rw [if_neg (by rw [h5];simp)] at hA
  refine W_loopF mixm (α:=Nat) [7] (fun k=>k≤i∧(l.take k).any (fun x=>x.col == l[i].col) = false) (fun k=>[(7,vI k)]) (fun k=>[(4096,.arr 2 [schT s] false)]) (fun k=>i - k) 0 ⟨by omega,rfl⟩ ?_ fun k hk=>?_
  ·exact .oA [(4096,some 4096)] []
  refine sD ?_
  refine ⟨fun h6=>?_,fun h6=>?_⟩
  ·have hk2:k < l.length:=by omega
   have hwk:=i64_succ (i:=k) (by omega)
   simp only [tZ,↓un_u,simprocAttr,Int.toNat_natCast,getD_mapT hi2,getD_mapT hk2,hwk]
   refine ⟨by omega,by omega,by kernel_rfl,fun h7=>?_,fun h7=>?_⟩
   ·rw [if_pos (List.any_eq_true.2 ⟨l[k],List.mem_take_iff_getElem.2 ⟨k,by omega,rfl⟩,h7⟩)] at hA
    rw [hstep (by rw [hA];simp),hA]
    exact .oA [] []
   ·refine ⟨k + 1,⟨by omega,any_snoc hk2 hk.2 h7⟩,by omega,?_⟩
    exact .oA [(4096,some 4096)] []
  ·have hki:k = i:=by omega
   subst hki
   rw [if_neg (by rw [hk.2];simp)] at hA
   simp only [tZ,↓un_u,simprocAttr,hwi]
   refine ⟨k + 1,⟨by omega,by rw [hnext,hA]⟩,by omega,?_⟩
   exact .oA [(4096,some 4096)] []
 ·have hil:i = l.length:=by omega
  subst hil
  rw [hi.2]
  exact .oA [] []
theorem c_ref08_Terms (s:Sch) (m:Int) (l:List Int):Spc Tryz.prog F_ref08_Terms [schT s,vI m,vIs l] [] (vI (termsE s m l)) []:=by
 refine spec_of_ir fn_ref08_Terms mixm (by simp) fun e _ hst=>W_start ?_
 unfold ir_ref08_Terms
 refine sD ?_
 refine ⟨fun h=>?_,fun h=>?_⟩
 ·rw [termsE,if_pos (by omega)]
  exact .oA [] []
 rw [termsE,if_neg (by omega)]
 refine W_loopF mixm (α:=Nat) [7,15] (fun i=>i≤l.length∧firstE (termE s m l) i = 0) (fun i=>[(7,vI i)]) (fun i=>[(4096,.arr 2 [schT s] false)]) (fun i=>l.length - i) 0 ⟨by omega,rfl⟩ ?_ fun i hi=>?_
 ·exact .oA [(4096,some 4096)] []
 refine sD ?_
 refine ⟨fun h3=>?_,fun h3=>?_⟩
 ·have hi2:i < l.length:=by omega
  have hwi:=i64_succ (i:=i) (by omega)
  have hpi:l.getD i 0 = l[i]:=getD_get hi2
  have hstep:=firstE_hit hi.2 hi2
  have hnext:=firstE_next hi.2
  have hA:termE s m l i = if isB s l[i] 3 = false then 7 else if l[i] = m∨(l.take i).contains l[i] = true then 10 else 0:=by rw [termE,hpi]
  have hH:=c_ref01_Has (l.take i) l[i] (by rw [List.length_take];omega)
  simp only [tZ,↓un_u,simprocAttr,Int.toNat_natCast,getD_mapT hi2]
  refine ⟨by omega,?_⟩
  refine C1.im (c_ref08_Is s l[i] 3) (by rfl) (by rfl) ?_
  simp only [tZ,↓un_u,simprocAttr,Bool.not_eq_true',Bool.not_eq_false']
  refine ⟨by kernel_rfl,fun h5=>?_,fun h5=>?_⟩
  ·rw [if_pos h5] at hA
   rw [hstep (by rw [hA];simp),hA]
   exact .oA [] []
  rw [if_neg (by rw [h5];simp)] at hA
  simp only [tZ,↓un_u,simprocAttr,Int.toNat_natCast,getD_mapT hi2,cut_map,cut_to]
  refine ⟨by omega,fun _=>by omega,fun _=>by omega,?_⟩
  refine C2.im (fun _=>hH) (fun _=>rfl) (by rfl) ?_
  simp only [tZ,↓un_u,simprocAttr,tD,beq_iff_eq,beq_eq_false_iff_ne,hwi]
  refine ⟨by kernel_rfl,fun h6=>?_,fun h6=>?_⟩
  ·rw [if_pos h6] at hA
   rw [hstep (by rw [hA];simp),hA]
   exact .oA [] []
  ·rw [if_neg (by grind)] at hA
   refine ⟨i + 1,⟨by omega,by rw [hnext,hA]⟩,by omega,?_⟩
   exact .oA [(4096,some 4096)] []
 ·have hil:i = l.length:=by omega
  subst hil
  rw [hi.2]
  exact .oA [] []
theorem c_ref08_zero (c:Cnd):Spc Tryz.prog F_ref08_zero [cnT c] [] (vB (sameC c cnd0)) []:=by
 have h:=c_ref05_Same c cnd0 fun h=>.mk c (by rw [h];decide) (by rw [List.length_eq_zero_iff.1 (show c.kids.length = 0 from h)];simp)
 refine spec_of_ir fn_ref08_zero mixm (by simp) fun e _ hst=>W_start ?_
 unfold ir_ref08_zero
 refine sW ?_
 refine C1.shut [] h ?_ (by rfl) rfl ?_
 ·all_goals (try exact clA)
 refine sW ?_
 exact .oA [] []
theorem c_ref08_parts (s:Sch) (hE:schE s = 0) (hL:0 < s.lists.length) (q:Qst):Spc Tryz.prog F_ref08_parts [schT s,qstT q] [] (vI (partsE s q)) []:=by
 have hok:=schE_ok hE
 refine spec_of_ir fn_ref08_parts mixm (by simp) fun e _ hst=>W_start ?_
 unfold ir_ref08_parts
 refine sW ?_
 refine C1.im (c_ref08_Is s q.meas 3) (by rfl) (by rfl) ?_
 simp only [tZ,↓un_u,simprocAttr,beq_iff_eq,beq_eq_false_iff_ne]
 refine ⟨fun h=>?_,fun h=>?_⟩
 ·rw [partsE,if_pos h]
  refine C1.im (c_ref08_Dims s hok.sm q.dims) (by rfl) (by rfl) ?_
  simp only [tZ,↓un_u,simprocAttr,bne_iff_ne,bne_eq_false_iff_eq]
  refine ⟨fun h2=>?_,fun h2=>?_⟩
  ·rw [if_pos h2]
   exact .oA [] []
  rw [if_neg (by rw [h2];simp)]
  simp only [tZ,↓un_u,simprocAttr,bne_iff_ne,bne_eq_false_iff_eq,tD,Bool.not_eq_true',Bool.not_eq_false']
  refine ⟨fun h3=>?_,fun h3=>?_⟩
  ·rw [if_pos h3]
   exact .oA [] []
  ·rw [if_neg (by grind)]
   exact .oA [] []
 rw [partsE,if_neg h]
 refine ⟨fun h2=>?_,fun h2=>?_⟩
 ·rw [if_pos h2]
  simp only [tZ,↓un_u,simprocAttr,Bool.not_eq_true',Bool.not_eq_false']
  refine ⟨fun h3=>?_,fun h3=>?_⟩
  ·rw [if_pos h3]
   exact .oA [] []
  rw [if_neg (by rw [h3];simp)]
  refine C1.im (c_ref08_Terms s q.meas q.terms) (by rfl) (by rfl) ?_
  refine sW ?_
  exact .oA [] []
 rw [if_neg h2]
 simp only [tZ,↓un_u,simprocAttr,Bool.not_eq_true',Bool.not_eq_false']
 refine ⟨fun h3=>?_,fun h3=>?_⟩
 ·rw [if_pos h3]
  exact .oA [] []
 rw [if_neg (by rw [h3];simp)]
 obtain ⟨b1,b2,b3⟩:=isB_ok.1 h3
 have hil:q.meas.toNat < s.cols.length:=by omega
 rw [colAt,getD_get hil]
 simp only [tZ,↓un_u,simprocAttr,getD_mapT hil,tD]
 refine ⟨by omega,fun h4=>?_,fun h4=>?_⟩
 ·rw [if_pos h4]
  exact .oA [] []
 rw [if_neg h4]
 refine C1.im (c_ref05_Check s hok.sm hL q.event) (by rfl) (by rfl) ?_
 refine sW ?_
 exact .oA [] []
theorem c_ref08_Question (s:Sch) (hs:SchSm s) (hL:0 < s.lists.length) (q:Qst):Spc Tryz.prog F_ref08_Question [schT s,qstT q] [] (vI (qstE s q)) []:=by
 refine spec_of_ir fn_ref08_Question mixm (by simp) fun e _ hst=>W_start ?_
 unfold ir_ref08_Question
 refine sW ?_
 refine C1.im (c_ref02_Check s hs) (by rfl) (by rfl) ?_
 simp only [tZ,↓un_u,simprocAttr,bne_iff_ne,bne_eq_false_iff_eq]
 refine ⟨fun h=>?_,fun h=>?_⟩
 ·rw [qstE,if_pos h]
  exact .oA [] []
 rw [qstE,if_neg (by rw [h];simp)]
 refine C1.im (c_ref01_Name q.name) (by rfl) (by rfl) ?_
 simp only [tZ,↓un_u,simprocAttr,Bool.not_eq_true',Bool.not_eq_false']
 refine ⟨fun h2=>?_,fun h2=>?_⟩
 ·rw [if_pos h2]
  exact .oA [] []
 rw [if_neg (by rw [h2];simp)]
 refine sD ?_
 refine ⟨fun h3=>?_,fun h3=>?_⟩
 ·rw [if_pos (by omega)]
  exact .oA [] []
 rw [if_neg (by omega)]
 refine C1.im (c_ref05_Check s hs hL q.filt) (by rfl) (by rfl) ?_
 simp only [tZ,↓un_u,simprocAttr,bne_iff_ne,bne_eq_false_iff_eq]
 refine ⟨fun h4=>?_,fun h4=>?_⟩
 ·rw [if_pos h4]
  exact .oA [] []
 rw [if_neg (by rw [h4];simp)]
 refine C1.im (c_ref08_parts s h hL q) (by rfl) (by rfl) ?_
 simp only [tZ,↓un_u,simprocAttr,bne_iff_ne,bne_eq_false_iff_eq]
 refine ⟨fun h5=>?_,fun h5=>?_⟩
 ·rw [if_pos h5]
  exact .oA [] []
 rw [if_neg (by rw [h5];simp)]
 refine C2.im (fun _=>c_ref08_zero q.event) (fun _=>rfl) (by rfl) ?_
 simp only [tZ,↓un_u,simprocAttr,tD,bne_iff_ne,bne_eq_false_iff_eq,Bool.not_eq_true',Bool.not_eq_false']
 refine ⟨fun h6=>?_,fun h6=>?_⟩
 ·rw [if_pos (by grind)]
  exact .oA [] []
 ·rw [if_neg (by grind)]
  exact .oA [] []
theorem c_ref08_Check (s:Sch) (hs:SchSm s) (hL:0 < s.lists.length) (d:Dcl):Spc Tryz.prog F_ref08_Check [schT s,dclT d] [] (vI (dclE s d)) []:=by
 refine spec_of_ir fn_ref08_Check mixm (by simp) fun e _ hst=>W_start ?_
 unfold ir_ref08_Check
 refine sW ?_
 refine C1.im (c_ref02_Check s hs) (by rfl) (by rfl) ?_
 simp only [tZ,↓un_u,simprocAttr,bne_iff_ne,bne_eq_false_iff_eq]
 refine ⟨fun h=>?_,fun h=>?_⟩
 ·rw [dclE,if_pos h]
  exact .oA [] []
 rw [dclE,if_neg (by rw [h];simp)]
 refine C1.im (c_ref01_Name d.proj) (by rfl) (by rfl) ?_
 refine sW ?_
 refine C2.im (fun _=>c_ref01_Name d.src) (fun _=>rfl) (by rfl) ?_
 simp only [tZ,↓un_u,simprocAttr,tD,Bool.not_eq_true',Bool.not_eq_false']
 refine ⟨fun h2=>?_,fun h2=>?_⟩
 ·rw [if_pos h2]
  exact .oA [] []
 rw [if_neg (by grind)]
 refine C1.im (c_ref05_Check s hs hL d.coh) (by rfl) (by rfl) ?_
 simp only [tZ,↓un_u,simprocAttr,bne_iff_ne,bne_eq_false_iff_eq]
 refine ⟨fun h3=>?_,fun h3=>?_⟩
 ·rw [if_pos h3]
  exact .oA [] []
 rw [if_neg (by rw [h3];simp)]
 refine sD ?_
 refine ⟨fun h4=>?_,fun h4=>?_⟩
 ·rw [if_pos (by unfold smpE;grind)]
  exact .oA [] []
 rw [if_neg (by unfold smpE;grind)]
 refine ⟨fun h5=>?_,fun h5=>?_⟩
 ·rw [if_pos (by omega)]
  exact .oA [] []
 rw [if_neg (by omega)]
 refine W_loopF mixm (α:=Nat) [8,74] (fun i=>i≤d.qs.length∧firstE (qsE s d.qs) i = 0) (fun i=>[(8,vI i)]) (fun i=>[(4096,.arr 2 [schT s] false),(4100,.arr 12 [dclT d] false)]) (fun i=>d.qs.length - i) 0 ⟨by omega,rfl⟩ ?_ fun i hi=>?_
 ·exact .oA [(4096,some 4096),(4100,some 4100)] []
 refine sD ?_
 refine ⟨fun h6=>?_,fun h6=>?_⟩
 ·have hi2:i < d.qs.length:=by omega
  have hwi:=i64_succ (i:=i) (by omega)
  have hpi:qAt d.qs i = d.qs[i]:=by rw [qAt,getD_get hi2]
  have hstep:=firstE_hit hi.2 hi2
  have hnext:=firstE_next hi.2
  have hA:qsE s d.qs i = if qstE s d.qs[i]≠0 then qstE s d.qs[i] else if ((d.qs.take i).any fun x=>eqB x.name d.qs[i].name) = true then 10 else 0:=by rw [qsE,hpi]
  simp only [tZ,↓un_u,simprocAttr,Int.toNat_natCast,getD_mapT hi2]
  refine ⟨by omega,?_⟩
  refine C1.im (c_ref08_Question s hs hL d.qs[i]) (by rfl) (by rfl) ?_
  simp only [tZ,↓un_u,simprocAttr,bne_iff_ne,bne_eq_false_iff_eq]
  refine ⟨by kernel_rfl,fun h7=>?_,fun h7=>?_⟩
  ·rw [if_pos h7] at hA
   rw [hstep (by rw [hA];exact h7),hA]
   exact .oA [] []
  rw [if_neg (by rw [h7];simp)] at hA
  refine W_loopF mixm (α:=Nat) [10] (fun k=>k≤i∧(d.qs.take k).any (fun x=>eqB x.name d.qs[i].name) = false) (fun k=>[(10,vI k)]) (fun k=>[(4096,.arr 2 [schT s] false),(4100,.arr 12 [dclT d] false)]) (fun k=>i - k) 0 ⟨by omega,rfl⟩ ?_ fun k hk=>?_
  ·exact .oA [(4096,some 4096),(4100,some 4100)] []
  refine sD ?_
  refine ⟨fun h8=>?_,fun h8=>?_⟩
  ·have hk2:k < d.qs.length:=by omega
   have hwk:=i64_succ (i:=k) (by omega)
   simp only [tZ,↓un_u,simprocAttr,Int.toNat_natCast,getD_mapT hi2,getD_mapT hk2,hwk]
   refine ⟨by omega,by omega,by kernel_rfl,fun h9=>?_,fun h9=>?_⟩
   ·rw [if_pos (List.any_eq_true.2 ⟨d.qs[k],List.mem_take_iff_getElem.2 ⟨k,by omega,rfl⟩,h9⟩)] at hA
    rw [hstep (by rw [hA];simp),hA]
    exact .oA [] []
   ·refine ⟨k + 1,⟨by omega,any_snoc hk2 hk.2 h9⟩,by omega,?_⟩
    exact .oA [(4096,some 4096),(4100,some 4100)] []
  ·have hki:k = i:=by omega
   subst hki
   rw [if_neg (by rw [hk.2];simp)] at hA
   simp only [tZ,↓un_u,simprocAttr,hwi]
   refine ⟨k + 1,⟨by omega,by rw [hnext,hA]⟩,by omega,?_⟩
   exact .oA [(4096,some 4096),(4100,some 4100)] []
 ·have hil:i = d.qs.length:=by omega
  subst hil
  rw [hi.2]
  exact .oA [] []
end Go.Proofs
