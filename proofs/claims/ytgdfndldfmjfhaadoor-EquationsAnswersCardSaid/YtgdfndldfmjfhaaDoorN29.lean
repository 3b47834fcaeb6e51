import Derived.Test.YtgdfndldfmjfhaaDoorM29
set_option linter.unusedSimpArgs false
set_option linter.unusedVariables false
namespace Go.Proofs
open Go Go.TL
theorem c_ref28_Publish {sz:List Int} {gs:List (List Int)} {t:List Int} (hv:VwOk sz gs) (htl:(t.length:Int) = prodI sz) (ht:t.all okV = true) (hg:∀ g∈gs,g.length < 1000000) :
 Spc Tryd.prog F_ref28_Publish [spT sz,vwT gs,vIs t] [] (.tup [.asl 0 (pubN gs).toNat,vI 0]) [(0,.arr 1 ((pubsN sz gs t t.length).map vI) false)]:=by
 have hvl:=hv.len
 have hvs:=hv.sp.len
 have hp:=hv.sp.prod
 have hpub:=hv.pub
 have hv0:=viewE_ok.2 hv
 have hc0:cntS sz = t.length:=by rw [cntS,if_pos (chkS_ok.2 hv.sp),htl]
 have hpb:published sz gs = pubN gs:=by rw [published,if_pos hv0]
 obtain ⟨M,hM⟩:∃ M:Nat,pubN gs = M:=⟨(pubN gs).toNat,by omega⟩
 rw [hM] at hpb hpub ⊢
 rw [Int.toNat_natCast]
 have hpl:∀ n,(pubsN sz gs t n).length = M:=fun n=>by rw [pubs_len,hM,Int.toNat_natCast]
 refine spec_of_ir fn_ref28_Publish mixm (by simp) fun e _ hst=>W_start ?_
 unfold ir_ref28_Publish
 refine sW ?_
 refine C1.shut [] (c_ref28_View sz gs (by omega) (by omega) hg) ?_ (by rfl) rfl ?_
 ·simp only [ltSto,ltO2,ltO1,ltAs,ltA,ltC,ltC0,ltC0s,ltCs,ltT,ltFr,ltS,wrOk,wrO,TL.get,hasFr,↓reduceIte,Nat.reduceEqDiff,reduceCtorEq,Option.getD_some,Option.isSome_some,List.length_map,List.length_append,List.length_cons,List.length_nil,List.append_nil,List.mem_singleton,List.mem_cons,List.not_mem_nil,and_true,true_and,and_self,imp_self,forall_const,false_implies,implies_true,true_implies,or_false,Bool.false_eq_true,Bool.true_eq_false,ImXs_nil,true_or,or_true,false_or,false_and,and_false,rmK,rm1]
 simp only [tl,tl2,tl4,↓un_u,isCallR,entX,argFr,ret,retI,retB,intT,unT,endR,ressR,resR,tupT,bslR,boxR,lenAll,↓reduceIte,Nat.reduceEqDiff,Nat.reduceAdd,Nat.reduceMul,Nat.reduceLT,Nat.reduceLeDiff,reduceCtorEq,Int.reduceLE,Int.reduceLT,ne_eq,Int.reduceEq,not_false_eq_true,decide_true,decide_false,Int.reduceToNat,tl3,Int.reduceBNe,Int.reduceBEq,rmK,rm1,not_true_eq_false,hv0,bne_self_eq_false]
 refine C1.shut [] (c_ref28_Count sz (by omega)) ?_ (by rfl) rfl ?_
 ·simp only [ltSto,ltO2,ltO1,ltAs,ltA,ltC,ltC0,ltC0s,ltCs,ltT,ltFr,ltS,wrOk,wrO,TL.get,hasFr,↓reduceIte,Nat.reduceEqDiff,reduceCtorEq,Option.getD_some,Option.isSome_some,List.length_map,List.length_append,List.length_cons,List.length_nil,List.append_nil,List.mem_singleton,List.mem_cons,List.not_mem_nil,and_true,true_and,and_self,imp_self,forall_const,false_implies,implies_true,true_implies,or_false,Bool.false_eq_true,Bool.true_eq_false,ImXs_nil,true_or,or_true,false_or,false_and,and_false,rmK,rm1]
 simp only [tl,tl2,tl4,↓un_u,isCallR,entX,argFr,ret,retI,retB,intT,unT,endR,ressR,resR,tupT,bslR,boxR,lenAll,↓reduceIte,Nat.reduceEqDiff,Nat.reduceAdd,Nat.reduceMul,Nat.reduceLT,Nat.reduceLeDiff,reduceCtorEq,Int.reduceLE,Int.reduceLT,ne_eq,Int.reduceEq,not_false_eq_true,decide_true,decide_false,Int.reduceToNat,tl3,Int.reduceBNe,Int.reduceBEq,rmK,rm1,not_true_eq_false,hc0,bne_self_eq_false]
 refine W_loopF mixm (α:=Nat) [27] (fun i=>i≤t.length) (fun i=>[(27,vI i)]) (fun i=>[(4096,.arr 1 [spT sz] false),(4100,.arr 1 [vwT gs] false)]) (fun i=>t.length - i) 0 (by omega) ?_ fun i hi=>?_
 ·refine .of [(4096,some 4096),(4100,some 4100)] [] rfl (by first | rfl | (rw [hst];rfl)) ?_ ?_
  all_goals (try exact clA)
 simp only [tl,tl2,tl4,↓un_u,isCallR,entX,argFr,ret,retI,retB,intT,unT,endR,ressR,resR,tupT,bslR,boxR,lenAll,↓reduceIte,Nat.reduceEqDiff,Nat.reduceAdd,Nat.reduceMul,Nat.reduceLT,Nat.reduceLeDiff,reduceCtorEq,Int.reduceLE,Int.reduceLT,ne_eq,Int.reduceEq,not_false_eq_true,decide_true,decide_false,Int.reduceToNat,tl3,Int.reduceBNe,Int.reduceBEq,rmK,rm1,not_true_eq_false,decide_eq_true_eq,decide_eq_false_iff_not]
 refine ⟨fun h=>?_,fun h=>?_⟩
 ·have hx:=List.all_eq_true.1 ht _ (List.getElem_mem (show i < t.length by omega))
  simp only [okV,Bool.and_eq_true,decide_eq_true_eq] at hx
  have hi2:i < t.length:=by omega
  have hwi:=i64_succ (i:=i) (by omega)
  simp only [tl,tl2,tl4,↓un_u,isCallR,entX,argFr,ret,retI,retB,intT,unT,endR,ressR,resR,tupT,bslR,boxR,lenAll,↓reduceIte,Nat.reduceEqDiff,Nat.reduceAdd,Nat.reduceMul,Nat.reduceLT,Nat.reduceLeDiff,reduceCtorEq,Int.reduceLE,Int.reduceLT,ne_eq,Int.reduceEq,not_false_eq_true,decide_true,decide_false,Int.reduceToNat,tl3,Int.reduceBNe,Int.reduceBEq,rmK,rm1,not_true_eq_false,Int.toNat_natCast,getD_mapT hi2,hwi,decide_eq_true_eq,decide_eq_false_iff_not,Bool.or_eq_true,Bool.or_eq_false_iff,Bool.and_eq_true,Bool.and_eq_false_iff]
  refine ⟨by omega,fun h3=>absurd h3 (by omega),fun h3=>⟨i + 1,by omega,by omega,?_⟩⟩
  refine .of [(4096,some 4096),(4100,some 4100)] [] rfl (by first | rfl | (rw [hst];rfl)) ?_ ?_
  all_goals (try exact clA)
 refine C1.shut [] (c_ref28_Published sz gs (by omega) (by omega) hg) ?_ (by rfl) rfl ?_
 ·simp only [ltSto,ltO2,ltO1,ltAs,ltA,ltC,ltC0,ltC0s,ltCs,ltT,ltFr,ltS,wrOk,wrO,TL.get,hasFr,↓reduceIte,Nat.reduceEqDiff,reduceCtorEq,Option.getD_some,Option.isSome_some,List.length_map,List.length_append,List.length_cons,List.length_nil,List.append_nil,List.mem_singleton,List.mem_cons,List.not_mem_nil,and_true,true_and,and_self,imp_self,forall_const,false_implies,implies_true,true_implies,or_false,Bool.false_eq_true,Bool.true_eq_false,ImXs_nil,true_or,or_true,false_or,false_and,and_false,rmK,rm1]
 simp only [tl,tl2,tl4,↓un_u,isCallR,entX,argFr,ret,retI,retB,intT,unT,endR,ressR,resR,tupT,bslR,boxR,lenAll,↓reduceIte,Nat.reduceEqDiff,Nat.reduceAdd,Nat.reduceMul,Nat.reduceLT,Nat.reduceLeDiff,reduceCtorEq,Int.reduceLE,Int.reduceLT,ne_eq,Int.reduceEq,not_false_eq_true,decide_true,decide_false,Int.reduceToNat,tl3,Int.reduceBNe,Int.reduceBEq,rmK,rm1,not_true_eq_false,hpb]
 refine ⟨by omega,?_⟩
 refine W_loopF mixm (α:=Nat) [44] (fun c=>c≤t.length) (fun c=>[(44,vI c)]) (fun c=>[(4096,.arr 1 [spT sz] false),(4100,.arr 1 [vwT gs] false),(53260,.arr 1 ((pubsN sz gs t c).map vI) false)]) (fun c=>t.length - c) 0 (by omega) ?_ fun c hc=>?_
 ·rw [pubs_zero,hM,Int.toNat_natCast]
  refine .of [(4096,some 4096),(4100,some 4100),(53260,some 53260)] [] rfl (by first | rfl | (rw [hst];rfl)) ?_ ?_
  all_goals (try simp only [ltSto,ltO2,ltO1,ltAs,ltA,ltC,ltC0,ltC0s,ltCs,ltT,ltFr,ltS,wrOk,wrO,TL.get,hasFr,↓reduceIte,Nat.reduceEqDiff,reduceCtorEq,Option.getD_some,Option.isSome_some,List.length_map,List.length_append,List.length_cons,List.length_nil,List.append_nil,List.mem_singleton,List.mem_cons,List.not_mem_nil,and_true,true_and,and_self,imp_self,forall_const,false_implies,implies_true,true_implies,or_false,Bool.false_eq_true,Bool.true_eq_false,ImXs_nil,true_or,or_true,false_or,false_and,and_false,rmK,rm1,List.map_append,List.map_cons,List.map_nil,List.cons_append,List.nil_append,Int.toNat_natCast,zeros])
  all_goals (try (repeat' (first | exact ltXs_nil | (apply ltXs_map;intro _;exact ⟨rfl,rfl⟩) | (apply imXs_map;intro _;exact ⟨rfl,rfl⟩) | with_reducible apply imXs_append | with_reducible refine imXs_cons ⟨rfl,rfl⟩ ?_ | exact imXs_nil | with_reducible apply ltXs_append | with_reducible refine ltXs_cons ⟨rfl,rfl,?_⟩ ?_ | with_reducible apply And.intro | exact ltCs_im rfl | exact ltCs_im (by assumption) | (refine ⟨⟨?_,rfl,?_,rfl,?_⟩,trivial⟩ <;> first | (simp;done) | (apply imXs_map;intro _;exact ⟨rfl,rfl⟩)) | trivial | rfl | (rw [i64_succ (by omega)]) | omega)))
 have hplc:=hpl c
 simp only [tl,tl2,tl4,↓un_u,isCallR,entX,argFr,ret,retI,retB,intT,unT,endR,ressR,resR,tupT,bslR,boxR,lenAll,↓reduceIte,Nat.reduceEqDiff,Nat.reduceAdd,Nat.reduceMul,Nat.reduceLT,Nat.reduceLeDiff,reduceCtorEq,Int.reduceLE,Int.reduceLT,ne_eq,Int.reduceEq,not_false_eq_true,decide_true,decide_false,Int.reduceToNat,tl3,Int.reduceBNe,Int.reduceBEq,rmK,rm1,not_true_eq_false,decide_eq_true_eq,decide_eq_false_iff_not]
 refine ⟨fun h=>?_,fun h=>?_⟩
 ·have hor:=of_range hv (c:=c) (by omega)
  have hOf:=c_ref28_Of hv (c:Int) (by omega)
  have hc2:c < t.length:=by omega
  have hwc:=i64_succ (i:=c) (by omega)
  refine C1.shut [] hOf ?_ (by rfl) rfl ?_
  ·simp only [ltSto,ltO2,ltO1,ltAs,ltA,ltC,ltC0,ltC0s,ltCs,ltT,ltFr,ltS,wrOk,wrO,TL.get,hasFr,↓reduceIte,Nat.reduceEqDiff,reduceCtorEq,Option.getD_some,Option.isSome_some,List.length_map,List.length_append,List.length_cons,List.length_nil,List.append_nil,List.mem_singleton,List.mem_cons,List.not_mem_nil,and_true,true_and,and_self,imp_self,forall_const,false_implies,implies_true,true_implies,or_false,Bool.false_eq_true,Bool.true_eq_false,ImXs_nil,true_or,or_true,false_or,false_and,and_false,rmK,rm1]
  simp only [tl,tl2,tl4,↓un_u,isCallR,entX,argFr,ret,retI,retB,intT,unT,endR,ressR,resR,tupT,bslR,boxR,lenAll,↓reduceIte,Nat.reduceEqDiff,Nat.reduceAdd,Nat.reduceMul,Nat.reduceLT,Nat.reduceLeDiff,reduceCtorEq,Int.reduceLE,Int.reduceLT,ne_eq,Int.reduceEq,not_false_eq_true,decide_true,decide_false,Int.reduceToNat,tl3,Int.reduceBNe,Int.reduceBEq,rmK,rm1,not_true_eq_false,decide_eq_true_eq,decide_eq_false_iff_not,Bool.or_eq_true,Bool.or_eq_false_iff,Bool.and_eq_true,Bool.and_eq_false_iff,hwc]
  refine ⟨fun h3=>?_,fun h3=>?_⟩
  ·obtain ⟨j,hj⟩:∃ j:Nat,ofS sz gs c = j:=⟨(ofS sz gs c).toNat,by omega⟩
   have hjl:j < (pubsN sz gs t c).length:=by omega
   have hset:=pubs_set (t:=t) hj hjl
   have hb:=pubP_le (sz:=sz) (gs:=gs) (t:=t) (B:=1000000) (by omega) (fun x hx=>by
    have:=List.all_eq_true.1 ht x hx
    simpa [okV] using this) c j
   have hx:=List.all_eq_true.1 ht _ (List.getElem_mem hc2)
   simp only [okV,Bool.and_eq_true,decide_eq_true_eq] at hx
   rw [← pubs_get hjl] at hb
   have hw:IntKind.i64.wrap ((pubsN sz gs t c)[j] + t[c]) = (pubsN sz gs t c)[j] + t[c]:=IntWalk.i64_in _ (by omega)
   rw [getD_get hc2] at hset
   simp only [hj]
   simp only [tl,tl2,tl4,↓un_u,isCallR,entX,argFr,ret,retI,retB,intT,unT,endR,ressR,resR,tupT,bslR,boxR,lenAll,↓reduceIte,Nat.reduceEqDiff,Nat.reduceAdd,Nat.reduceMul,Nat.reduceLT,Nat.reduceLeDiff,reduceCtorEq,Int.reduceLE,Int.reduceLT,ne_eq,Int.reduceEq,not_false_eq_true,decide_true,decide_false,Int.reduceToNat,tl3,Int.reduceBNe,Int.reduceBEq,rmK,rm1,not_true_eq_false,Int.toNat_natCast,getD_mapT hjl,getD_mapT hc2,hw,show ∀ a b:Int,repl (vI a) 0 (vI b) = vI b from fun _ _=>rfl]
   rw [← List.map_set,← hset]
   refine ⟨by omega,⟨by omega,by omega⟩,by omega,by omega,⟨by omega,by omega⟩,by kernel_rfl,c + 1,by omega,by omega,?_⟩
   refine .of [(4096,some 4096),(4100,some 4100),(53260,some 53260)] [] rfl (by first | rfl | (rw [hst];rfl)) ?_ ?_
   all_goals (try exact clA)
  ·have ho:ofS sz gs c = -1:=by omega
   refine ⟨c + 1,by omega,by omega,?_⟩
   rw [pubs_left ho]
   refine .of [(4096,some 4096),(4100,some 4100),(53260,some 53260)] [] rfl (by first | rfl | (rw [hst];rfl)) ?_ ?_
   all_goals (try exact clA)
 ·have hc2:c = t.length:=by omega
  subst hc2
  refine .of [(0,some 53260)] [] rfl (by first | rfl | (rw [hst];rfl)) ?_ ?_
  all_goals (try exact clA)
theorem c_made_Space (cs:List UInt8) (a:Nat) (hl:cs.length≤400) (ha:a≤cs.length):Spc Tryd.prog F_made_Space [.ptr 0 1 0 0] [(0,oC cs a)] (spT (spA cs a).2) [(0,oC cs (spA cs a).1)]:=by
 refine spec_of_ir fn_made_Space mixm (by simp) fun e _ hst=>W_start ?_
 unfold ir_made_Space
 refine sW ?_
 refine C1.draw 0 cs a _ (c_draw_Codes_Next cs a 9 hl ha (by omega)) rfl rfl rfl ?_
 have h1:=nx_range cs a 9 (by omega)
 unfold spA
 obtain ⟨⟨k,a2⟩,hk⟩:∃ y,y = nx cs a 9:=⟨_,rfl⟩
 rw [← hk] at h1 ⊢
 dsimp only at h1 ⊢
 obtain ⟨S,hS⟩:∃ S,S = spTab.getD k.toNat []:=⟨_,rfl⟩
 rw [← hS]
 have hc:k = 0∨k = 1∨k = 2∨k = 3∨k = 4∨k = 5∨k = 6∨k = 7∨k = 8:=by omega
 rcases hc with rfl | rfl | rfl | rfl | rfl | rfl | rfl | rfl | rfl
 all_goals
  simp [spTab] at hS
  subst hS
  refine sW ?_
  refine ⟨by first | omega | decide,?_⟩
  refine .of [(0,some 0)] [12288] rfl (by first | rfl | (rw [hst];rfl)) ?_ ?_
  all_goals (try exact clA)
theorem c_made_CellsN (cs:List UInt8) (a:Nat) (sz:List Int) (most:Int) (N:Nat) (hl:cs.length≤400) (ha:a≤cs.length) (hsl:sz.length < 4611686018427387904) (hc0:cntS sz = N) (hp:N≤48) (hm:0≤most∧most≤1000) :
 Spc Tryd.prog F_made_Cells [.ptr 0 1 0 0,spT sz,vI most] [(0,oC cs a)] (vIs (drN cs (most + 1) N (a,[])).2) [(0,oC cs (drN cs (most + 1) N (a,[])).1)]:=by
 have hw0:IntKind.i64.wrap (most + 1) = most + 1:=IntWalk.i64_in _ (by omega)
 refine spec_of_ir fn_made_Cells mixm (by simp) fun e _ hst=>W_start ?_
 unfold ir_made_Cells
 refine sW ?_
 refine C1.shut [] (c_ref28_Count sz hsl) ?_ (by rfl) rfl ?_
 ·simp only [ltSto,ltO2,ltO1,ltAs,ltA,ltC,ltC0,ltC0s,ltCs,ltT,ltFr,ltS,wrOk,wrO,TL.get,hasFr,↓reduceIte,Nat.reduceEqDiff,reduceCtorEq,Option.getD_some,Option.isSome_some,List.length_map,List.length_append,List.length_cons,List.length_nil,List.append_nil,List.mem_singleton,List.mem_cons,List.not_mem_nil,and_true,true_and,and_self,imp_self,forall_const,false_implies,implies_true,true_implies,or_false,Bool.false_eq_true,Bool.true_eq_false,ImXs_nil,true_or,or_true,false_or,false_and,and_false,rmK,rm1]
 simp only [tl,tl2,tl4,↓un_u,isCallR,entX,argFr,ret,retI,retB,intT,unT,endR,ressR,resR,tupT,bslR,boxR,lenAll,↓reduceIte,Nat.reduceEqDiff,Nat.reduceAdd,Nat.reduceMul,Nat.reduceLT,Nat.reduceLeDiff,reduceCtorEq,Int.reduceLE,Int.reduceLT,ne_eq,Int.reduceEq,not_false_eq_true,decide_true,decide_false,Int.reduceToNat,tl3,Int.reduceBNe,Int.reduceBEq,rmK,rm1,not_true_eq_false,hc0,Int.toNat_natCast]
 refine ⟨by omega,List.length_replicate,?_⟩
 obtain ⟨R,hR⟩:∃ R,R = drN cs (most + 1) N (a,[]):=⟨_,rfl⟩
 rw [← hR]
 refine W_loopF mixm (α:=Nat×Nat×List Int) [14] (fun x=>x.1≤N∧x.2.1≤cs.length∧x.2.2.length = x.1∧drN cs (most + 1) (N - x.1) x.2 = R) (fun x=>[(14,vI x.1)]) (fun x=>[(0,oC cs x.2.1),(8200,.arr 1 ((x.2.2 ++ List.replicate (N - x.1) 0).map vI) false)]) (fun x=>N - x.1) (0,a,[]) ⟨by simp only;omega,ha,rfl,hR.symm⟩ ?_ fun x hx=>?_
 ·simp only [Nat.sub_zero,List.nil_append]
  refine .of [(0,some 0),(8200,some 8200)] [] rfl (by first | rfl | (rw [hst];rfl)) ?_ ?_
  all_goals (try simp only [ltSto,ltO2,ltO1,ltAs,ltA,ltC,ltC0,ltC0s,ltCs,ltT,ltFr,ltS,wrOk,wrO,TL.get,hasFr,↓reduceIte,Nat.reduceEqDiff,reduceCtorEq,Option.getD_some,Option.isSome_some,List.length_map,List.length_append,List.length_cons,List.length_nil,List.append_nil,List.mem_singleton,List.mem_cons,List.not_mem_nil,and_true,true_and,and_self,imp_self,forall_const,false_implies,implies_true,true_implies,or_false,Bool.false_eq_true,Bool.true_eq_false,ImXs_nil,true_or,or_true,false_or,false_and,and_false,rmK,rm1,List.map_append,List.map_cons,List.map_nil,List.cons_append,List.nil_append,zeros])
  all_goals (try (repeat' (first | exact ltXs_nil | (apply ltXs_map;intro _;exact ⟨rfl,rfl⟩) | (apply imXs_map;intro _;exact ⟨rfl,rfl⟩) | with_reducible apply imXs_append | with_reducible refine imXs_cons ⟨rfl,rfl⟩ ?_ | exact imXs_nil | with_reducible apply ltXs_append | with_reducible refine ltXs_cons ⟨rfl,rfl,?_⟩ ?_ | with_reducible apply And.intro | exact ltCs_im rfl | exact ltCs_im (by assumption) | (refine ⟨⟨?_,rfl,?_,rfl,?_⟩,trivial⟩ <;> first | (simp;done) | (apply imXs_map;intro _;exact ⟨rfl,rfl⟩)) | trivial | rfl | (rw [i64_succ (by omega)]) | omega)))
 obtain ⟨i,a1,L⟩:=x
 obtain ⟨hi,ha1,hL,hreg⟩:=hx
 dsimp only at hi ha1 hL hreg
 simp only [tl,tl2,tl4,↓un_u,isCallR,entX,argFr,ret,retI,retB,intT,unT,endR,ressR,resR,tupT,bslR,boxR,lenAll,↓reduceIte,Nat.reduceEqDiff,Nat.reduceAdd,Nat.reduceMul,Nat.reduceLT,Nat.reduceLeDiff,reduceCtorEq,Int.reduceLE,Int.reduceLT,ne_eq,Int.reduceEq,not_false_eq_true,decide_true,decide_false,Int.reduceToNat,tl3,Int.reduceBNe,Int.reduceBEq,rmK,rm1,not_true_eq_false,decide_eq_true_eq,decide_eq_false_iff_not]
 refine ⟨fun h=>?_,fun h=>?_⟩
 ·have hi2:i < N:=by omega
  have hwi:=i64_succ (i:=i) (by omega)
  have hd:=nx_range cs a1 (most + 1) (by omega)
  have hnl:=nx_le cs a1 (most + 1) ha1
  simp only [hw0]
  refine C1.draw 0 cs a1 _ (c_draw_Codes_Next cs a1 (most + 1) hl ha1 (by omega)) rfl rfl rfl ?_
  obtain ⟨⟨k,a2⟩,hk⟩:∃ y,y = nx cs a1 (most + 1):=⟨_,rfl⟩
  rw [← hk] at hd hnl ⊢
  dsimp only at hd hnl ⊢
  have hll:(L ++ List.replicate (N - i) 0).length = N:=by simp;omega
  have hil:i < (L ++ List.replicate (N - i) 0).length:=by omega
  have hset:(L ++ List.replicate (N - i) (0:Int)).set i k = (L ++ [k]) ++ List.replicate (N - (i + 1)) 0:=by
   rw [List.set_append_right _ _ (by omega),hL,Nat.sub_self,show N - i = (N - (i + 1)) + 1 by omega,List.replicate_succ,List.set_cons_zero,List.append_assoc]
   rfl
  simp only [tl,tl2,tl4,↓un_u,isCallR,entX,argFr,ret,retI,retB,intT,unT,endR,ressR,resR,tupT,bslR,boxR,lenAll,↓reduceIte,Nat.reduceEqDiff,Nat.reduceAdd,Nat.reduceMul,Nat.reduceLT,Nat.reduceLeDiff,reduceCtorEq,Int.reduceLE,Int.reduceLT,ne_eq,Int.reduceEq,not_false_eq_true,decide_true,decide_false,Int.reduceToNat,tl3,Int.reduceBNe,Int.reduceBEq,rmK,rm1,not_true_eq_false,Int.toNat_natCast,getD_mapT hil,hwi,show ∀ a b:Int,repl (vI a) 0 (vI b) = vI b from fun _ _=>rfl]
  rw [← List.map_set,hset]
  rw [List.length_append] at hll
  refine ⟨⟨by omega,by omega,by omega⟩,⟨by omega,by omega⟩,(i + 1,a2,L ++ [k]),⟨by simp only;omega,hnl,by simp [hL],?_⟩,by simp only;omega,?_⟩
  ·rw [← hreg]
   simp only
   rw [show N - i = (N - (i + 1)) + 1 by omega,drN,← hk]
  ·refine .of [(0,some 0),(8200,some 8200)] [] rfl (by first | rfl | (rw [hst];rfl)) ?_ ?_
   all_goals (try exact clA)
 ·have hi2:i = N:=by omega
  subst hi2
  rw [Nat.sub_self,drN] at hreg
  rw [← hreg,Nat.sub_self,List.replicate_zero,List.append_nil]
  refine .of [(0,some 0)] [8200] rfl (by first | rfl | (rw [hst];rfl)) ?_ ?_
  all_goals (try exact clA)
theorem c_made_Cells (cs:List UInt8) (a:Nat) (sz:List Int) (most:Int) (hl:cs.length≤400) (ha:a≤cs.length) (hs:SpOk sz) (hm:0≤most∧most≤1000) :
 Spc Tryd.prog F_made_Cells [.ptr 0 1 0 0,spT sz,vI most] [(0,oC cs a)] (vIs (drN cs (most + 1) (prodI sz).toNat (a,[])).2) [(0,oC cs (drN cs (most + 1) (prodI sz).toNat (a,[])).1)]:=by
 have hp:=hs.prod
 have hsl:=hs.len
 have hc0:cntS sz = prodI sz:=by rw [cntS,if_pos (chkS_ok.2 hs)]
 exact c_made_CellsN cs a sz most _ hl ha (by omega) (by omega) (by omega) hm
theorem freeze_vw (gs:List (List Int)):(gs.map vIs).length = gs.length:=List.length_map _
theorem c_made_View (cs:List UInt8) (a:Nat) (sz:List Int) (hl:cs.length≤400) (ha:a≤cs.length) (hs:SpOk sz) :
 Spc Tryd.prog F_made_View [.ptr 0 1 0 0,spT sz] [(0,oC cs a)] (vwT (vwA cs a sz).2) [(0,oC cs (vwA cs a sz).1)]:=by
 have hp:=hs.prod
 have hsl:=hs.len
 refine spec_of_ir fn_made_View mixm (by simp) fun e _ hst=>W_start ?_
 unfold ir_made_View
 refine sW ?_
 have hok:=fun i hi=>vwA_ok (cs:=cs) (a:=a) (sz:=sz) ha hs i hi
 refine W_loopF mixm (α:=Nat) [15] (fun i=>i≤sz.length) (fun i=>[(15,vI i)]) (fun i=>[(0,oC cs (vwA cs a (sz.take i)).1),(4100,.arr 1 [.agg [T.v (Value.slice none 0 0)]] false),(8192,.arr 1 [.agg [.asl 2 (vwA cs a (sz.take i)).2.length]] false),(2,.arr 1 ((vwA cs a (sz.take i)).2.map vIs) false)]) (fun i=>sz.length - i) 0 (by omega) ?_ fun i hi=>?_
 ·refine .of [(0,some 0),(4100,some 4100),(8192,some 8192),(2,none)] [] rfl (by first | rfl | (rw [hst];rfl)) ?_ ?_
  all_goals (try exact clA)
 obtain ⟨h1,h2,h3⟩:=hok i hi
 obtain ⟨x,hx⟩:∃ x,x = vwA cs a (sz.take i):=⟨_,rfl⟩
 rw [← hx] at h1 h2 h3
 obtain ⟨a1,V⟩:=x
 dsimp only at h1 h2 h3
 rw [← hx]
 simp only [tl,tl2,tl4,↓un_u,isCallR,entX,argFr,ret,retI,retB,intT,unT,endR,ressR,resR,tupT,bslR,boxR,lenAll,↓reduceIte,Nat.reduceEqDiff,Nat.reduceAdd,Nat.reduceMul,Nat.reduceLT,Nat.reduceLeDiff,reduceCtorEq,Int.reduceLE,Int.reduceLT,ne_eq,Int.reduceEq,not_false_eq_true,decide_true,decide_false,Int.reduceToNat,tl3,Int.reduceBNe,Int.reduceBEq,rmK,rm1,not_true_eq_false,decide_eq_true_eq,decide_eq_false_iff_not]
 refine ⟨fun h=>?_,fun h=>?_⟩
 ·have hi2:i < sz.length:=by omega
  have hwi:=i64_succ (i:=i) (by omega)
  have hk:=hs.get hi2
  obtain ⟨N,hN⟩:∃ N:Nat,sz[i] = N:=⟨sz[i].toNat,by omega⟩
  have hsn:=vw_snoc (cs:=cs) (a:=a) hi2
  rw [← hx,hN] at hsn
  simp only [vwStep,Int.toNat_natCast] at hsn
  simp only [tl,tl2,tl4,↓un_u,isCallR,entX,argFr,ret,retI,retB,intT,unT,endR,ressR,resR,tupT,bslR,boxR,lenAll,↓reduceIte,Nat.reduceEqDiff,Nat.reduceAdd,Nat.reduceMul,Nat.reduceLT,Nat.reduceLeDiff,reduceCtorEq,Int.reduceLE,Int.reduceLT,ne_eq,Int.reduceEq,not_false_eq_true,decide_true,decide_false,Int.reduceToNat,tl3,Int.reduceBNe,Int.reduceBEq,rmK,rm1,not_true_eq_false,Int.toNat_natCast,getD_mapT hi2,hN]
  refine ⟨by omega,by omega,List.length_replicate,?_⟩
  obtain ⟨R,hR⟩:∃ R,R = gvLoop cs N (a1,0,[]):=⟨_,rfl⟩
  unfold gvA at hsn
  rw [← hR] at hsn
  have hR2:=(gvLoop_ok (cs:=cs) (n:=N) (x:=(a1,0,[])) ⟨h1,rfl,by simp,by simp⟩).2
  rw [← hR] at hR2
  refine W_loopF mixm (α:=Nat×Nat×Int×List Int) [9,23] (fun x=>x.1≤N∧GvOk cs x.2∧x.2.2.2.length = x.1∧gvLoop cs (N - x.1) x.2 = R) (fun x=>[(9,vI x.2.2.1),(23,vI x.1)]) (fun x=>[(0,oC cs x.2.1),(4100,.arr 1 [.agg [T.v (Value.slice none 0 0)]] false),(8192,.arr 1 [.agg [.asl 2 V.length]] false),(2,.arr 1 (V.map vIs) false),(24580,.arr 1 ((x.2.2.2 ++ List.replicate (N - x.1) 0).map vI) false)]) (fun x=>N - x.1) (0,a1,0,[]) ⟨by simp only;omega,⟨h1,rfl,by simp,by simp⟩,rfl,hR.symm⟩ ?_ fun x hx=>?_
  ·simp only [Nat.sub_zero,List.nil_append]
   refine .of [(0,some 0),(4100,some 4100),(8192,some 8192),(2,some 2),(24580,some 24580)] [] rfl (by first | rfl | (rw [hst];rfl)) ?_ ?_
   all_goals (try simp only [ltSto,ltO2,ltO1,ltAs,ltA,ltC,ltC0,ltC0s,ltCs,ltT,ltFr,ltS,wrOk,wrO,TL.get,hasFr,↓reduceIte,Nat.reduceEqDiff,reduceCtorEq,Option.getD_some,Option.isSome_some,List.length_map,List.length_append,List.length_cons,List.length_nil,List.append_nil,List.mem_singleton,List.mem_cons,List.not_mem_nil,and_true,true_and,and_self,imp_self,forall_const,false_implies,implies_true,true_implies,or_false,Bool.false_eq_true,Bool.true_eq_false,ImXs_nil,true_or,or_true,false_or,false_and,and_false,rmK,rm1,List.map_append,List.map_cons,List.map_nil,List.cons_append,List.nil_append,zeros])
   all_goals (try (repeat' (first | exact ltXs_nil | (apply ltXs_map;intro _;exact ⟨rfl,rfl⟩) | (apply imXs_map;intro _;exact ⟨rfl,rfl⟩) | with_reducible apply imXs_append | with_reducible refine imXs_cons ⟨rfl,rfl⟩ ?_ | exact imXs_nil | with_reducible apply ltXs_append | with_reducible refine ltXs_cons ⟨rfl,rfl,?_⟩ ?_ | with_reducible apply And.intro | exact ltCs_im rfl | exact ltCs_im (by assumption) | (refine ⟨⟨?_,rfl,?_,rfl,?_⟩,trivial⟩ <;> first | (simp;done) | (apply imXs_map;intro _;exact ⟨rfl,rfl⟩)) | trivial | rfl | (rw [i64_succ (by omega)]) | omega)))
  obtain ⟨j,a2,n,L⟩:=x
  obtain ⟨hj,hG,hL,hreg⟩:=hx
  dsimp only at hj hG hL hreg
  obtain ⟨g1,g2,g3,g4⟩:=hG
  dsimp only at g1 g2 g3 g4
  have hst1:=gvStep_ok (cs:=cs) (x:=(a2,n,L)) ⟨g1,g2,g3,g4⟩
  refine sD ?_
  refine ⟨fun h5=>?_,fun h5=>?_⟩
  ·have hj2:j < N:=by omega
   have hwj:=i64_succ (i:=j) (by omega)
   have hw2:IntKind.i64.wrap (n + 2) = n + 2:=IntWalk.i64_in _ (by omega)
   have hd:=nx_range cs a2 (n + 2) (by omega)
   have hnl:=nx_le cs a2 (n + 2) g1
   simp only [hw2]
   refine C1.draw 0 cs a2 _ (c_draw_Codes_Next cs a2 (n + 2) hl g1 (by omega)) rfl rfl rfl ?_
   unfold gvStep at hst1
   simp only at hst1
   obtain ⟨⟨d,a3⟩,hd1⟩:∃ y,y = nx cs a2 (n + 2):=⟨_,rfl⟩
   rw [← hd1] at hd hnl hst1 ⊢
   dsimp only at hd hnl hst1 ⊢
   refine sD ?_
   refine ⟨fun h6=>?_,fun h6=>?_⟩
   all_goals
    refine C1.draw 0 cs a3 _ (c_draw_Codes_Next cs a3 8 hl hnl (by omega)) rfl rfl rfl ?_
    have he:=nx_range cs a3 8 (by omega)
    have hnl2:=nx_le cs a3 8 hnl
    obtain ⟨⟨x,a4⟩,hx1⟩:∃ y,y = nx cs a3 8:=⟨_,rfl⟩
    rw [← hx1] at he hnl2 hst1 ⊢
    dsimp only at he hnl2 hst1 ⊢
    have hsq:gvStep cs (a2,n,L) = (a4,if (if x = 7∧0 < L.length then -1 else if d > n then n else d) = n then n + 1 else n,L ++ [if x = 7∧0 < L.length then -1 else if d > n then n else d]):=by
     unfold gvStep
     simp only
     rw [← hd1]
     dsimp only
     rw [← hx1]
    have hset:∀ g:Int,(L ++ List.replicate (N - j) (0:Int)).set j g = (L ++ [g]) ++ List.replicate (N - (j + 1)) 0:=fun g=>by
     rw [List.set_append_right _ _ (by omega),hL,Nat.sub_self,show N - j = (N - (j + 1)) + 1 by omega,List.replicate_succ,List.set_cons_zero,List.append_assoc]
     rfl
    have hwn:IntKind.i64.wrap (n + 1) = n + 1:=IntWalk.i64_in _ (by omega)
    simp only [tl,tl2,tl4,↓un_u,isCallR,entX,argFr,ret,retI,retB,intT,unT,endR,ressR,resR,tupT,bslR,boxR,lenAll,↓reduceIte,Nat.reduceEqDiff,Nat.reduceAdd,Nat.reduceMul,Nat.reduceLT,Nat.reduceLeDiff,reduceCtorEq,Int.reduceLE,Int.reduceLT,ne_eq,Int.reduceEq,not_false_eq_true,decide_true,decide_false,Int.reduceToNat,tl3,Int.reduceBNe,Int.reduceBEq,rmK,rm1,not_true_eq_false,decide_eq_true_eq,decide_eq_false_iff_not,Bool.or_eq_true,Bool.or_eq_false_iff,Bool.and_eq_true,Bool.and_eq_false_iff,beq_iff_eq,beq_eq_false_iff_ne]
    refine ⟨fun h7=>?_,fun h7=>?_⟩
    all_goals
     have hll:(L ++ List.replicate (N - j) (0:Int)).length = N:=by simp;omega
     have hil:j < (L ++ List.replicate (N - j) (0:Int)).length:=by omega
     simp only [tl,tl2,tl4,↓un_u,isCallR,entX,argFr,ret,retI,retB,intT,unT,endR,ressR,resR,tupT,bslR,boxR,lenAll,↓reduceIte,Nat.reduceEqDiff,Nat.reduceAdd,Nat.reduceMul,Nat.reduceLT,Nat.reduceLeDiff,reduceCtorEq,Int.reduceLE,Int.reduceLT,ne_eq,Int.reduceEq,not_false_eq_true,decide_true,decide_false,Int.reduceToNat,tl3,Int.reduceBNe,Int.reduceBEq,rmK,rm1,not_true_eq_false,Int.toNat_natCast,getD_mapT hil,hwj,show ∀ a b:Int,repl (vI a) 0 (vI b) = vI b from fun _ _=>rfl,beq_iff_eq,beq_eq_false_iff_ne]
   ·have hG:(if x = 7∧0 < L.length then -1 else if d > n then n else d) = -1:=by
     rw [if_pos (by omega)]
    rw [hG] at hst1 hsq
    have hll2:L.length + (List.replicate (N - j) (0:Int)).length = N:=by simp;omega
    refine ⟨⟨hll2,by omega,by omega⟩,⟨hll2,by omega⟩,fun h8=>?_,fun h8=>?_⟩
    ·rw [if_pos h8] at hst1 hsq
     refine ⟨(j + 1,a4,n + 1,L ++ [-1]),⟨by simp only;omega,hst1.1,by simp [hL],?_⟩,by simp only;omega,?_⟩
     ·rw [← hreg]
      simp only
      rw [show N - j = (N - (j + 1)) + 1 by omega,gvLoop,hsq]
     ·rw [← List.map_set,hset]
      refine .of [(0,some 0),(4100,some 4100),(8192,some 8192),(2,some 2),(24580,some 24580)] [] rfl (by first | rfl | (rw [hst];rfl)) ?_ ?_
      all_goals (try simp only [ltSto,ltO2,ltO1,ltAs,ltA,ltC,ltC0,ltC0s,ltCs,ltT,ltFr,ltS,wrOk,wrO,TL.get,hasFr,↓reduceIte,Nat.reduceEqDiff,reduceCtorEq,Option.getD_some,Option.isSome_some,List.length_map,List.length_append,List.length_cons,List.length_nil,List.append_nil,List.mem_singleton,List.mem_cons,List.not_mem_nil,and_true,true_and,and_self,imp_self,forall_const,false_implies,implies_true,true_implies,or_false,Bool.false_eq_true,Bool.true_eq_false,ImXs_nil,true_or,or_true,false_or,false_and,and_false,rmK,rm1,List.map_append,List.map_cons,List.map_nil,List.cons_append,List.nil_append,hwn])
      all_goals (try (repeat' (first | exact ltXs_nil | (apply ltXs_map;intro _;exact ⟨rfl,rfl⟩) | (apply imXs_map;intro _;exact ⟨rfl,rfl⟩) | with_reducible apply imXs_append | with_reducible refine imXs_cons ⟨rfl,rfl⟩ ?_ | exact imXs_nil | with_reducible apply ltXs_append | with_reducible refine ltXs_cons ⟨rfl,rfl,?_⟩ ?_ | with_reducible apply And.intro | exact ltCs_im rfl | exact ltCs_im (by assumption) | (refine ⟨⟨?_,rfl,?_,rfl,?_⟩,trivial⟩ <;> first | (simp;done) | (apply imXs_map;intro _;exact ⟨rfl,rfl⟩)) | trivial | rfl | (rw [i64_succ (by omega)]) | omega)))
    ·rw [if_neg h8] at hst1 hsq
     refine ⟨(j + 1,a4,n,L ++ [-1]),⟨by simp only;omega,hst1.1,by simp [hL],?_⟩,by simp only;omega,?_⟩
     ·rw [← hreg]
      simp only
      rw [show N - j = (N - (j + 1)) + 1 by omega,gvLoop,hsq]
     ·rw [← List.map_set,hset]
      refine .of [(0,some 0),(4100,some 4100),(8192,some 8192),(2,some 2),(24580,some 24580)] [] rfl (by first | rfl | (rw [hst];rfl)) ?_ ?_
      all_goals (try exact clA)
   ·have hG:(if x = 7∧0 < L.length then -1 else if d > n then n else d) = n:=by
     rw [if_neg (by omega),if_pos h6]
    rw [hG,if_pos rfl] at hst1 hsq
    have hll2:L.length + (List.replicate (N - j) (0:Int)).length = N:=by simp;omega
    refine ⟨⟨hll2,by omega,by omega⟩,⟨hll2,by omega⟩,(j + 1,a4,n + 1,L ++ [n]),⟨by simp only;omega,hst1.1,by simp [hL],?_⟩,by simp only;omega,?_⟩
    ·rw [← hreg]
     simp only
     rw [show N - j = (N - (j + 1)) + 1 by omega,gvLoop,hsq]
    ·rw [← List.map_set,hset]
     refine .of [(0,some 0),(4100,some 4100),(8192,some 8192),(2,some 2),(24580,some 24580)] [] rfl (by first | rfl | (rw [hst];rfl)) ?_ ?_
     all_goals (try simp only [ltSto,ltO2,ltO1,ltAs,ltA,ltC,ltC0,ltC0s,ltCs,ltT,ltFr,ltS,wrOk,wrO,TL.get,hasFr,↓reduceIte,Nat.reduceEqDiff,reduceCtorEq,Option.getD_some,Option.isSome_some,List.length_map,List.length_append,List.length_cons,List.length_nil,List.append_nil,List.mem_singleton,List.mem_cons,List.not_mem_nil,and_true,true_and,and_self,imp_self,forall_const,false_implies,implies_true,true_implies,or_false,Bool.false_eq_true,Bool.true_eq_false,ImXs_nil,true_or,or_true,false_or,false_and,and_false,rmK,rm1,List.map_append,List.map_cons,List.map_nil,List.cons_append,List.nil_append,hwn])
     all_goals (try (repeat' (first | exact ltXs_nil | (apply ltXs_map;intro _;exact ⟨rfl,rfl⟩) | (apply imXs_map;intro _;exact ⟨rfl,rfl⟩) | with_reducible apply imXs_append | with_reducible refine imXs_cons ⟨rfl,rfl⟩ ?_ | exact imXs_nil | with_reducible apply ltXs_append | with_reducible refine ltXs_cons ⟨rfl,rfl,?_⟩ ?_ | with_reducible apply And.intro | exact ltCs_im rfl | exact ltCs_im (by assumption) | (refine ⟨⟨?_,rfl,?_,rfl,?_⟩,trivial⟩ <;> first | (simp;done) | (apply imXs_map;intro _;exact ⟨rfl,rfl⟩)) | trivial | rfl | (rw [i64_succ (by omega)]) | omega)))
   ·have hG:(if x = 7∧0 < L.length then -1 else if d > n then n else d) = -1:=by
     rw [if_pos (by omega)]
    rw [hG] at hst1 hsq
    have hll2:L.length + (List.replicate (N - j) (0:Int)).length = N:=by simp;omega
    refine ⟨⟨hll2,by omega,by omega⟩,⟨hll2,by omega⟩,fun h8=>?_,fun h8=>?_⟩
    ·rw [if_pos h8] at hst1 hsq
     refine ⟨(j + 1,a4,n + 1,L ++ [-1]),⟨by simp only;omega,hst1.1,by simp [hL],?_⟩,by simp only;omega,?_⟩
     ·rw [← hreg]
      simp only
      rw [show N - j = (N - (j + 1)) + 1 by omega,gvLoop,hsq]
     ·rw [← List.map_set,hset]
      refine .of [(0,some 0),(4100,some 4100),(8192,some 8192),(2,some 2),(24580,some 24580)] [] rfl (by first | rfl | (rw [hst];rfl)) ?_ ?_
      all_goals (try simp only [ltSto,ltO2,ltO1,ltAs,ltA,ltC,ltC0,ltC0s,ltCs,ltT,ltFr,ltS,wrOk,wrO,TL.get,hasFr,↓reduceIte,Nat.reduceEqDiff,reduceCtorEq,Option.getD_some,Option.isSome_some,List.length_map,List.length_append,List.length_cons,List.length_nil,List.append_nil,List.mem_singleton,List.mem_cons,List.not_mem_nil,and_true,true_and,and_self,imp_self,forall_const,false_implies,implies_true,true_implies,or_false,Bool.false_eq_true,Bool.true_eq_false,ImXs_nil,true_or,or_true,false_or,false_and,and_false,rmK,rm1,List.map_append,List.map_cons,List.map_nil,List.cons_append,List.nil_append,hwn])
      all_goals (try (repeat' (first | exact ltXs_nil | (apply ltXs_map;intro _;exact ⟨rfl,rfl⟩) | (apply imXs_map;intro _;exact ⟨rfl,rfl⟩) | with_reducible apply imXs_append | with_reducible refine imXs_cons ⟨rfl,rfl⟩ ?_ | exact imXs_nil | with_reducible apply ltXs_append | with_reducible refine ltXs_cons ⟨rfl,rfl,?_⟩ ?_ | with_reducible apply And.intro | exact ltCs_im rfl | exact ltCs_im (by assumption) | (refine ⟨⟨?_,rfl,?_,rfl,?_⟩,trivial⟩ <;> first | (simp;done) | (apply imXs_map;intro _;exact ⟨rfl,rfl⟩)) | trivial | rfl | (rw [i64_succ (by omega)]) | omega)))
    ·rw [if_neg h8] at hst1 hsq
     refine ⟨(j + 1,a4,n,L ++ [-1]),⟨by simp only;omega,hst1.1,by simp [hL],?_⟩,by simp only;omega,?_⟩
     ·rw [← hreg]
      simp only
      rw [show N - j = (N - (j + 1)) + 1 by omega,gvLoop,hsq]
     ·rw [← List.map_set,hset]
      refine .of [(0,some 0),(4100,some 4100),(8192,some 8192),(2,some 2),(24580,some 24580)] [] rfl (by first | rfl | (rw [hst];rfl)) ?_ ?_
      all_goals (try exact clA)
   ·have hG:(if x = 7∧0 < L.length then -1 else if d > n then n else d) = d:=by
     rw [if_neg (by omega),if_neg h6]
    rw [hG] at hst1 hsq
    have hll2:L.length + (List.replicate (N - j) (0:Int)).length = N:=by simp;omega
    refine ⟨⟨hll2,by omega,by omega⟩,⟨hll2,by omega⟩,fun h8=>?_,fun h8=>?_⟩
    ·rw [if_pos h8] at hst1 hsq
     refine ⟨(j + 1,a4,n + 1,L ++ [d]),⟨by simp only;omega,hst1.1,by simp [hL],?_⟩,by simp only;omega,?_⟩
     ·rw [← hreg]
      simp only
      rw [show N - j = (N - (j + 1)) + 1 by omega,gvLoop,hsq]
     ·rw [← List.map_set,hset]
      refine .of [(0,some 0),(4100,some 4100),(8192,some 8192),(2,some 2),(24580,some 24580)] [] rfl (by first | rfl | (rw [hst];rfl)) ?_ ?_
      all_goals (try simp only [ltSto,ltO2,ltO1,ltAs,ltA,ltC,ltC0,ltC0s,ltCs,ltT,ltFr,ltS,wrOk,wrO,TL.get,hasFr,↓reduceIte,Nat.reduceEqDiff,reduceCtorEq,Option.getD_some,Option.isSome_some,List.length_map,List.length_append,List.length_cons,List.length_nil,List.append_nil,List.mem_singleton,List.mem_cons,List.not_mem_nil,and_true,true_and,and_self,imp_self,forall_const,false_implies,implies_true,true_implies,or_false,Bool.false_eq_true,Bool.true_eq_false,ImXs_nil,true_or,or_true,false_or,false_and,and_false,rmK,rm1,List.map_append,List.map_cons,List.map_nil,List.cons_append,List.nil_append,hwn])
      all_goals (try (repeat' (first | exact ltXs_nil | (apply ltXs_map;intro _;exact ⟨rfl,rfl⟩) | (apply imXs_map;intro _;exact ⟨rfl,rfl⟩) | with_reducible apply imXs_append | with_reducible refine imXs_cons ⟨rfl,rfl⟩ ?_ | exact imXs_nil | with_reducible apply ltXs_append | with_reducible refine ltXs_cons ⟨rfl,rfl,?_⟩ ?_ | with_reducible apply And.intro | exact ltCs_im rfl | exact ltCs_im (by assumption) | (refine ⟨⟨?_,rfl,?_,rfl,?_⟩,trivial⟩ <;> first | (simp;done) | (apply imXs_map;intro _;exact ⟨rfl,rfl⟩)) | trivial | rfl | (rw [i64_succ (by omega)]) | omega)))
    ·rw [if_neg h8] at hst1 hsq
     refine ⟨(j + 1,a4,n,L ++ [d]),⟨by simp only;omega,hst1.1,by simp [hL],?_⟩,by simp only;omega,?_⟩
     ·rw [← hreg]
      simp only
      rw [show N - j = (N - (j + 1)) + 1 by omega,gvLoop,hsq]
     ·rw [← List.map_set,hset]
      refine .of [(0,some 0),(4100,some 4100),(8192,some 8192),(2,some 2),(24580,some 24580)] [] rfl (by first | rfl | (rw [hst];rfl)) ?_ ?_
      all_goals (try exact clA)
  ·have hj2:j = N:=by omega
   subst hj2
   rw [Nat.sub_self,gvLoop] at hreg
   rw [← hreg] at hsn hR2
   simp only at hsn
   refine ⟨by simp;omega,by omega,i + 1,by omega,by omega,?_⟩
   rw [hsn,Nat.sub_self,List.replicate_zero,List.append_nil]
   refine .of [(0,some 0),(4100,some 4100),(8192,some 8192),(2,some 2)] [24580] rfl (by first | rfl | (rw [hst];rfl)) ?_ ?_
   all_goals (try simp only [ltSto,ltO2,ltO1,ltAs,ltA,ltC,ltC0,ltC0s,ltCs,ltT,ltFr,ltS,wrOk,wrO,TL.get,hasFr,↓reduceIte,Nat.reduceEqDiff,reduceCtorEq,Option.getD_some,Option.isSome_some,List.length_map,List.length_append,List.length_cons,List.length_nil,List.append_nil,List.mem_singleton,List.mem_cons,List.not_mem_nil,and_true,true_and,and_self,imp_self,forall_const,false_implies,implies_true,true_implies,or_false,Bool.false_eq_true,Bool.true_eq_false,ImXs_nil,true_or,or_true,false_or,false_and,and_false,rmK,rm1,List.map_append,List.map_cons,List.map_nil,List.cons_append,List.nil_append,hwi,List.length_append,List.length_cons,List.length_nil])
   all_goals (try (repeat' (first | exact ltXs_nil | (apply ltXs_map;intro _;exact ⟨rfl,rfl⟩) | (apply imXs_map;intro _;exact ⟨rfl,rfl⟩) | with_reducible apply imXs_append | with_reducible refine imXs_cons ⟨rfl,rfl⟩ ?_ | exact imXs_nil | with_reducible apply ltXs_append | with_reducible refine ltXs_cons ⟨rfl,rfl,?_⟩ ?_ | with_reducible apply And.intro | exact ltCs_im rfl | exact ltCs_im (by assumption) | (refine ⟨⟨?_,rfl,?_,rfl,?_⟩,trivial⟩ <;> first | (simp;done) | (apply imXs_map;intro _;exact ⟨rfl,rfl⟩)) | trivial | rfl | (rw [i64_succ (by omega)]) | omega)))
   show ltCs _ _ _ [T.asl 24580 j] [vIs L]
   simp only [ltSto,ltO2,ltO1,ltAs,ltA,ltC,ltC0,ltC0s,ltCs,ltT,ltFr,ltS,wrOk,wrO,TL.get,hasFr,↓reduceIte,Nat.reduceEqDiff,reduceCtorEq,Option.getD_some,Option.isSome_some,List.length_map,List.length_append,List.length_cons,List.length_nil,List.append_nil,List.mem_singleton,List.mem_cons,List.not_mem_nil,and_true,true_and,and_self,imp_self,forall_const,false_implies,implies_true,true_implies,or_false,Bool.false_eq_true,Bool.true_eq_false,ImXs_nil,true_or,or_true,false_or,false_and,and_false,rmK,rm1]
   exact ⟨hL,(by apply imXs_map;intro _;exact ⟨rfl,rfl⟩)⟩
 ·have hi2:i = sz.length:=by omega
  subst hi2
  rw [List.take_length] at hx
  rw [← hx]
  refine .of [(0,some 0)] [2] rfl (by first | rfl | (rw [hst];rfl)) ?_ ?_
  all_goals (try exact clA)
end Go.Proofs
