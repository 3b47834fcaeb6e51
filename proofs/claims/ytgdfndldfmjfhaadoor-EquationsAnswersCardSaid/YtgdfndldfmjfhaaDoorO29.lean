import Derived.Test.YtgdfndldfmjfhaaDoorN29
set_option linter.unusedSimpArgs false
set_option linter.unusedVariables false
namespace Go.Proofs
open Go Go.TL
set_option maxRecDepth 4000
theorem c_made_Releases (cs:List UInt8) (a:Nat) (sz t:List Int) (most:Int) (hl:cs.length≤400) (ha:a≤cs.length) (hs:SpOk sz) (htl:(t.length:Int) = prodI sz) (ht:∀ x∈t,0≤x∧x≤10) (hm:0≤most∧most≤24) :
 Spc Tryd.prog F_made_Releases [.ptr 0 1 0 0,spT sz,vIs t,vI most] [(0,oC cs a)] (vRs (rlA cs a sz t most).2) [(0,oC cs (rlA cs a sz t most).1)]:=by
 have hp:=hs.prod
 have hsl:=hs.len
 have hokV:=tab_okV (most:=10) (by omega) ht
 have hw0:IntKind.i64.wrap (most + 1) = most + 1:=IntWalk.i64_in _ (by omega)
 refine spec_of_ir fn_made_Releases mixm (by simp) fun e _ hst=>W_start ?_
 unfold ir_made_Releases
 simp only [tl,tl2,tl4,↓un_u,isCallR,entX,argFr,ret,retI,retB,intT,unT,endR,ressR,resR,tupT,bslR,boxR,lenAll,↓reduceIte,Nat.reduceEqDiff,Nat.reduceAdd,Nat.reduceMul,Nat.reduceLT,Nat.reduceLeDiff,reduceCtorEq,Int.reduceLE,Int.reduceLT,ne_eq,Int.reduceEq,not_false_eq_true,decide_true,decide_false,Int.reduceToNat,tl3,Int.reduceBNe,Int.reduceBEq,rmK,rm1,not_true_eq_false,hw0]
 refine C1.draw 0 cs a _ (c_draw_Codes_Next cs a (most + 1) hl ha (by omega)) rfl rfl rfl ?_
 have hd:=nx_range cs a (most + 1) (by omega)
 have hnl:=nx_le cs a (most + 1) ha
 unfold rlA
 obtain ⟨⟨k,a0⟩,hk⟩:∃ y,y = nx cs a (most + 1):=⟨_,rfl⟩
 rw [← hk] at hd hnl ⊢
 dsimp only at hd hnl ⊢
 obtain ⟨N,rfl⟩:∃ N:Nat,k = N:=⟨k.toNat,by omega⟩
 rw [Int.toNat_natCast]
 obtain ⟨R,hR⟩:∃ R,R = rlLoop cs sz t N (a0,[]):=⟨_,rfl⟩
 rw [← hR]
 refine sW ?_
 refine W_loopF mixm (α:=Nat×Nat×List Rls) [9,10] (fun x=>x.1≤N∧RlsOk cs sz t x.2 (N - x.1)∧rlLoop cs sz t x.1 x.2 = R) (fun x=>[(9,.asl 1 x.2.2.length),(10,vI x.1)]) (fun x=>[(0,oC cs x.2.1),(4096,.arr 1 [spT sz] false),(1,.arr 3 (x.2.2.map rlsT) false)]) (fun x=>x.1) (N,a0,[]) ⟨by simp only;omega,⟨hnl,by simp,fun i hi=>by simp at hi,by simp⟩,hR.symm⟩ ?_ fun x hx=>?_
 ·refine .of [(0,some 0),(4096,some 4096),(1,none)] [] rfl (by first | rfl | (rw [hst];rfl)) ?_ ?_
  all_goals (try exact clA)
 obtain ⟨q,a1,L⟩:=x
 obtain ⟨hq,hok,hreg⟩:=hx
 dsimp only at hq hok hreg
 have ha1:=hok.le
 have hLl:=hok.len
 dsimp only at ha1 hLl
 refine sD ?_
 refine ⟨fun h5=>?_,fun h5=>?_⟩
 ·obtain ⟨q,rfl⟩:∃ c,q = c + 1:=⟨q - 1,by omega⟩
  have hstep:=rlStep_ok (cs:=cs) hs ht htl hok
  refine C1.draw 0 cs a1 _ (c_made_View cs a1 sz hl ha1 hs) rfl rfl rfl ?_
  obtain ⟨v1,v2⟩:=vwA_all (cs:=cs) ha1 hs
  unfold rlStep at hstep
  simp only at hstep
  have hreg2:rlLoop cs sz t q (rlStep cs sz t (a1,L)) = R:=hreg
  unfold rlStep at hreg2
  simp only at hreg2
  obtain ⟨⟨a2,V⟩,hV⟩:∃ y,y = vwA cs a1 sz:=⟨_,rfl⟩
  rw [← hV] at v1 v2 hstep hreg2 ⊢
  dsimp only at v1 v2 hstep hreg2 ⊢
  refine sW ?_
  have hpub:=c_ref28_Publish v2 htl hokV (fun g hg=>by
   obtain ⟨i,hi,rfl⟩:=List.getElem_of_mem hg
   have:=(v2.g hi).len
   omega)
  have hpl:=pubs_len sz V t t.length
  have hpb:=v2.pub
  obtain ⟨p,hpd⟩:∃ p,p = pubsN sz V t t.length:=⟨_,rfl⟩
  rw [← hpd] at hpub hpl hstep hreg2
  rw [← hpl] at hpub
  refine C1.freshT 28684 hpub (by rfl) (by rfl) (by apply imXs_map;intro _;exact ⟨rfl,rfl⟩) (by rfl) ?_
  simp only [tl,tl2,tl4,↓un_u,isCallR,entX,argFr,ret,retI,retB,intT,unT,endR,ressR,resR,tupT,bslR,boxR,lenAll,↓reduceIte,Nat.reduceEqDiff,Nat.reduceAdd,Nat.reduceMul,Nat.reduceLT,Nat.reduceLeDiff,reduceCtorEq,Int.reduceLE,Int.reduceLT,ne_eq,Int.reduceEq,not_false_eq_true,decide_true,decide_false,Int.reduceToNat,tl3,Int.reduceBNe,Int.reduceBEq,rmK,rm1,not_true_eq_false,List.length_map]
  have hdk:=fun i hi=>hdA_ok (cs:=cs) (l:=p) v1 i hi
  have hd0:p.length≤48:=by omega
  refine W_loopF mixm (α:=Nat) [35] (fun j=>j≤p.length) (fun j=>[(35,vI j)]) (fun j=>[(0,oC cs (hdA cs a2 (p.take j)).1),(4096,.arr 1 [spT sz] false),(1,.arr 3 (L.map rlsT) false),(24588,.arr 1 [vwT V] false),(28684,.arr 1 (((hdA cs a2 (p.take j)).2 ++ p.drop j).map vI) false)]) (fun j=>p.length - j) 0 (by omega) ?_ fun j hj=>?_
  ·have e0:(hdA cs a2 (p.take 0)).2 ++ p.drop 0 = p:=by simp [hdA]
   rw [e0]
   refine .of [(0,some 0),(4096,some 4096),(1,some 1),(24588,some 24588),(28684,some 28684)] [] rfl (by first | rfl | (rw [hst];rfl)) ?_ ?_
   all_goals (try exact clA)
  obtain ⟨d1,d2,d3⟩:=hdk j hj
  refine sD ?_
  refine ⟨fun h6=>?_,fun h6=>?_⟩
  ·have hj2:j < p.length:=by omega
   have hwj:=i64_succ (i:=j) (by omega)
   have hsn:=hd_snoc (cs:=cs) (a:=a2) hj2
   obtain ⟨⟨a3,H⟩,hH⟩:∃ y,y = hdA cs a2 (p.take j):=⟨_,rfl⟩
   rw [← hH] at d1 d2 hsn ⊢
   dsimp only at d1 d2 hsn ⊢
   simp only [hdStep] at hsn
   refine C1.draw 0 cs a3 _ (c_draw_Codes_Next cs a3 5 hl d1 (by omega)) rfl rfl rfl ?_
   obtain ⟨⟨x,a4⟩,hx1⟩:∃ y,y = nx cs a3 5:=⟨_,rfl⟩
   rw [← hx1] at hsn ⊢
   dsimp only at hsn ⊢
   have hll:H.length + (p.drop j).length = p.length:=by rw [List.length_drop];omega
   have hil:j < (H ++ p.drop j).length:=by rw [List.length_append];omega
   have hset:(H ++ p.drop j).set j (-1) = (H ++ [-1]) ++ p.drop (j + 1):=by
    rw [List.set_append_right _ _ (by omega),d2,Nat.sub_self,List.drop_eq_getElem_cons hj2,List.set_cons_zero,List.append_assoc]
    rfl
   have hkeep:H ++ p.drop j = (H ++ [p[j]]) ++ p.drop (j + 1):=by
    rw [List.drop_eq_getElem_cons hj2,List.append_assoc]
    rfl
   simp only [tl,tl2,tl4,↓un_u,isCallR,entX,argFr,ret,retI,retB,intT,unT,endR,ressR,resR,tupT,bslR,boxR,lenAll,↓reduceIte,Nat.reduceEqDiff,Nat.reduceAdd,Nat.reduceMul,Nat.reduceLT,Nat.reduceLeDiff,reduceCtorEq,Int.reduceLE,Int.reduceLT,ne_eq,Int.reduceEq,not_false_eq_true,decide_true,decide_false,Int.reduceToNat,tl3,Int.reduceBNe,Int.reduceBEq,rmK,rm1,not_true_eq_false,decide_eq_true_eq,decide_eq_false_iff_not,Bool.or_eq_true,Bool.or_eq_false_iff,Bool.and_eq_true,Bool.and_eq_false_iff,beq_iff_eq,beq_eq_false_iff_ne,Int.toNat_natCast,getD_mapT hil,hwj,show ∀ a b:Int,repl (vI a) 0 (vI b) = vI b from fun _ _=>rfl]
   refine ⟨fun h7=>?_,fun h7=>?_⟩
   ·rw [if_pos h7] at hsn
    refine ⟨⟨hll,by omega,by omega⟩,⟨hll,by omega⟩,j + 1,by omega,by omega,?_⟩
    rw [hsn,← List.map_set,hset]
    refine .of [(0,some 0),(4096,some 4096),(1,some 1),(24588,some 24588),(28684,some 28684)] [] rfl (by first | rfl | (rw [hst];rfl)) ?_ ?_
    all_goals (try exact clA)
   ·rw [if_neg h7] at hsn
    refine ⟨j + 1,by omega,by omega,?_⟩
    rw [hsn,hkeep]
    refine .of [(0,some 0),(4096,some 4096),(1,some 1),(24588,some 24588),(28684,some 28684)] [] rfl (by first | rfl | (rw [hst];rfl)) ?_ ?_
    all_goals (try exact clA)
  ·have hj2:j = p.length:=by omega
   subst hj2
   rw [List.take_length] at d1 d2 ⊢
   rw [List.drop_length,List.append_nil]
   have hLq:L.length≤24:=by omega
   have hwq:IntKind.i64.wrap (((q + 1:Nat):Int) - 1) = q:=by rw [IntWalk.i64_in _ (by omega)];omega
   simp only [tl,tl2,tl4,↓un_u,isCallR,entX,argFr,ret,retI,retB,intT,unT,endR,ressR,resR,tupT,bslR,boxR,lenAll,↓reduceIte,Nat.reduceEqDiff,Nat.reduceAdd,Nat.reduceMul,Nat.reduceLT,Nat.reduceLeDiff,reduceCtorEq,Int.reduceLE,Int.reduceLT,ne_eq,Int.reduceEq,not_false_eq_true,decide_true,decide_false,Int.reduceToNat,tl3,Int.reduceBNe,Int.reduceBEq,rmK,rm1,not_true_eq_false,hwq]
   refine ⟨by simp only [List.length_nil,Nat.add_zero];exact d2,by simp only [Nat.add_zero];exact d2,by omega,(q,(hdA cs a2 p).1,L ++ [⟨L.length,V,(hdA cs a2 p).2⟩]),⟨by simp only;omega,?_,hreg2⟩,by simp only;omega,?_⟩
   ·rw [show N - (q + 1) + 1 = N - q by omega] at hstep
    exact hstep
   ·refine .of [(0,some 0),(4096,some 4096),(1,some 1)] [28684] rfl (by first | rfl | (rw [hst];rfl)) ?_ ?_
    all_goals (try simp only [ltSto,ltO2,ltO1,ltAs,ltA,ltC,ltC0,ltC0s,ltCs,ltT,ltFr,ltS,wrOk,wrO,TL.get,hasFr,↓reduceIte,Nat.reduceEqDiff,reduceCtorEq,Option.getD_some,Option.isSome_some,List.length_map,List.length_append,List.length_cons,List.length_nil,List.append_nil,List.mem_singleton,List.mem_cons,List.not_mem_nil,and_true,true_and,and_self,imp_self,forall_const,false_implies,implies_true,true_implies,or_false,Bool.false_eq_true,Bool.true_eq_false,ImXs_nil,true_or,or_true,false_or,false_and,and_false,rmK,rm1,List.map_append,List.map_cons,List.map_nil,List.cons_append,List.nil_append,List.length_append,List.length_cons,List.length_nil])
    all_goals (try (repeat' (first | exact ltXs_nil | (apply ltXs_map;intro _;exact ⟨rfl,rfl⟩) | (apply imXs_map;intro _;exact ⟨rfl,rfl⟩) | with_reducible apply imXs_append | with_reducible refine imXs_cons ⟨rfl,rfl⟩ ?_ | exact imXs_nil | with_reducible apply ltXs_append | with_reducible refine ltXs_cons ⟨rfl,rfl,?_⟩ ?_ | with_reducible apply And.intro | exact ltCs_im rfl | exact ltCs_im (by assumption) | (refine ⟨⟨?_,rfl,?_,rfl,?_⟩,trivial⟩ <;> first | (simp;done) | (apply imXs_map;intro _;exact ⟨rfl,rfl⟩)) | trivial | rfl | (rw [i64_succ (by omega)]) | omega)))
    show ltCs _ _ _ [vI L.length,vvIs V,T.asl 28684 p.length] [vI L.length,vvIs V,vIs (hdA cs a2 p).2]
    simp only [ltSto,ltO2,ltO1,ltAs,ltA,ltC,ltC0,ltC0s,ltCs,ltT,ltFr,ltS,wrOk,wrO,TL.get,hasFr,↓reduceIte,Nat.reduceEqDiff,reduceCtorEq,Option.getD_some,Option.isSome_some,List.length_map,List.length_append,List.length_cons,List.length_nil,List.append_nil,List.mem_singleton,List.mem_cons,List.not_mem_nil,and_true,true_and,and_self,imp_self,forall_const,false_implies,implies_true,true_implies,or_false,Bool.false_eq_true,Bool.true_eq_false,ImXs_nil,true_or,or_true,false_or,false_and,and_false,rmK,rm1]
    exact ⟨d2,(by apply imXs_map;intro _;exact ⟨rfl,rfl⟩)⟩
 ·have:q = 0:=by omega
  subst this
  rw [rlLoop] at hreg
  rw [← hreg]
  refine .of [(0,some 0)] [1] rfl (by first | rfl | (rw [hst];rfl)) ?_ ?_
  all_goals (try exact clA)
theorem c_made_Told (cs:List UInt8) (a:Nat) (most rel:Int) (hl:cs.length≤400) (ha:a≤cs.length) (hm:0≤most∧most≤10) (hr:0≤rel∧rel≤24) :
 Spc Tryd.prog F_made_Told [.ptr 0 1 0 0,vI most,vI rel] [(0,oC cs a)] (.tup [spT (toldA cs a most rel).2.1,vIs (toldA cs a most rel).2.2.1,vRs (toldA cs a most rel).2.2.2]) [(0,oC cs (toldA cs a most rel).1)]:=by
 have hs:=spA_ok cs a
 have h1:=spA_le ha
 obtain ⟨t1,t2,t3⟩:=drN_ok (cs:=cs) (k:=most + 1) (by omega) (n:=(prodI (spA cs a).2).toNat) (x:=((spA cs a).1,[])) h1 (by simp)
 simp only [List.length_nil,Nat.zero_add] at t2
 have hp:=hs.prod
 have htl:((drN cs (most + 1) (prodI (spA cs a).2).toNat ((spA cs a).1,[])).2.length:Int) = prodI (spA cs a).2:=by omega
 refine spec_of_ir fn_made_Told mixm (by simp) fun e _ hst=>W_start ?_
 unfold ir_made_Told
 refine sW ?_
 refine C1.draw 0 cs a _ (c_made_Space cs a hl ha) rfl rfl rfl ?_
 refine sW ?_
 refine C1.draw 0 cs _ _ (c_made_Cells cs (spA cs a).1 (spA cs a).2 most hl h1 hs (by omega)) rfl rfl rfl ?_
 refine sW ?_
 refine C1.draw 0 cs _ _ (c_made_Releases cs _ (spA cs a).2 _ rel hl t1 hs htl (fun y hy=>by have:=t3 y hy;omega) hr) rfl rfl rfl ?_
 unfold toldA
 refine sW ?_
 refine ⟨by kernel_rfl,?_⟩
 refine .of [(0,some 0)] [] rfl (by first | rfl | (rw [hst];rfl)) ?_ ?_
 all_goals (try exact clA)
end Go.Proofs
