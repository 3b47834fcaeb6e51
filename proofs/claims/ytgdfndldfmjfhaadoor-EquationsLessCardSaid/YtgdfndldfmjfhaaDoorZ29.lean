import Derived.Test.YtgdfndldfmjfhaaDoorAw29
import Derived.Test.YtgdfndldfmjfhaaDoorY229
set_option linter.unusedSimpArgs false
set_option linter.unusedVariables false
namespace Go.Proofs
open Go Go.TL
open Go.TL.So
set_option maxRecDepth 4000
def conE (l:List Eqn):Prop:=∀ p∈l,∀ q∈l,p.cells = q.cells→p.val = q.val
theorem eqn_ext {p q:Eqn} (h1:p.cells = q.cells) (h2:p.val = q.val):p = q:=by cases p;cases q;subst h1 h2;rfl
open Classical in
theorem redS_con {o:List Eqn} {q:Eqn} (h:conE (o ++ [q])):redS o q = if q∈o then some o else some (o ++ [q]):=by
 have h1:o.any (fun p=>p.cells == q.cells && p.val != q.val) = false:=by
  rw [List.any_eq_false]
  intro p hp e
  simp only [Bool.and_eq_true,beq_iff_eq,bne_iff_ne] at e
  exact e.2 (h p (by simp [hp]) q (by simp) e.1)
 rw [redS,if_neg (by rw [h1];simp)]
 by_cases hq:q∈o
 ·rw [if_pos hq,if_pos (List.any_eq_true.2 ⟨q,hq,by simp⟩)]
 ·rw [if_neg hq,if_neg]
  intro e
  obtain ⟨p,hp,e⟩:=List.any_eq_true.1 e
  have e:=eq_of_beq e
  exact hq (eqn_ext e (h p (by simp [hp]) q (by simp) e) ▸ hp)
theorem conE_sub {a b:List Eqn} (h:conE b) (hs:∀ p∈a,p∈b):conE a:=fun p hp q hq=>h p (hs p hp) q (hs q hq)
open Classical in
theorem redF_good:∀ (l o:List Eqn),conE (o ++ l)→∃ r,redF l o = some r∧(∀ p,p∈r↔p∈o∨p∈l)∧r.length≤o.length + l.length
 | [],o,_=>⟨o,rfl,by simp,by simp⟩
 | q :: l,o,h=>by
   have h1:=redS_con (o:=o) (q:=q) (conE_sub h (by intro p hp;simp at hp ⊢;rcases hp with hp | hp <;> simp [hp]))
   by_cases hq:q∈o
   ·rw [if_pos hq] at h1
    obtain ⟨r,h2,h3,h4⟩:=redF_good l o (conE_sub h (by intro p hp;simp at hp ⊢;rcases hp with hp | hp <;> simp [hp]))
    refine ⟨r,by rw [redF,h1];exact h2,fun p=>?_,by rw [List.length_cons];omega⟩
    rw [h3,List.mem_cons]
    constructor
    ·rintro (a | a)
     ·exact .inl a
     ·exact .inr (.inr a)
    ·rintro (a | a | a)
     ·exact .inl a
     ·exact .inl (a ▸ hq)
     ·exact .inr a
   ·rw [if_neg hq] at h1
    obtain ⟨r,h2,h3,h4⟩:=redF_good l (o ++ [q]) (by rw [List.append_assoc];exact h)
    refine ⟨r,by rw [redF,h1];exact h2,fun p=>?_,by rw [List.length_append,List.length_cons,List.length_nil] at h4;rw [List.length_cons];omega⟩
    rw [h3,List.mem_append,List.mem_singleton,List.mem_cons,or_assoc]
open Classical in
theorem redF_in:∀ (l o:List Eqn),conE o→(∀ p∈l,p∈o)→redF l o = some o
 | [],_,_,_=>rfl
 | q :: l,o,h,hs=>by
   have hq:=hs q (by simp)
   have h1:=redS_con (o:=o) (q:=q) (conE_sub h (by intro p hp;simp at hp;rcases hp with hp | hp <;> simp [hp,hq]))
   rw [if_pos hq] at h1
   rw [redF,h1]
   exact redF_in l o h fun p hp=>hs p (List.mem_cons_of_mem _ hp)
theorem redF_append:∀ (a b o:List Eqn),redF (a ++ b) o = match redF a o with | none=>none | some o2=>redF b o2
 | [],b,o=>rfl
 | q :: a,b,o=>by
   rw [List.cons_append,redF,redF]
   cases h:redS o q with
   | none=>rfl
   | some o2=>exact redF_append a b o2
theorem red_twice {q:List Eqn} (h:conE q):∃ r,redF (q ++ q) [] = some r∧(∀ p,p∈r↔p∈q)∧r.length≤q.length:=by
 obtain ⟨r,h1,h2,h3⟩:=redF_good q [] (by simpa using h)
 have h2:∀ p,p∈r↔p∈q:=fun p=>by rw [h2];simp
 refine ⟨r,?_,h2,by simpa using h3⟩
 rw [redF_append,h1]
 exact redF_in q r (conE_sub h fun p hp=>(h2 p).1 hp) fun p hp=>(h2 p).2 hp
theorem agrees_mem {a b:List Eqn} (h:∀ p,p∈a↔p∈b) (t:List Int):agrees a t = agrees b t:=by
 have:a.all (agr1 t) = b.all (agr1 t):=by
  rw [Bool.eq_iff_iff,List.all_eq_true,List.all_eq_true]
  exact ⟨fun k p hp=>k p ((h p).2 hp),fun k p hp=>k p ((h p).1 hp)⟩
 unfold agrees
 rw [this]
theorem tchA_mem {a b:List Eqn} (h:∀ p,p∈a↔p∈b) (n:Int):tchA n a = tchA n b:=by
 obtain ⟨h1,h2⟩:=insU_fold ltI_ord ltI_tot ltI_trans eqI2_iff ((cellsOf a).filter (inC n)) (l:=[]) .nil
 obtain ⟨h3,h4⟩:=insU_fold ltI_ord ltI_tot ltI_trans eqI2_iff ((cellsOf b).filter (inC n)) (l:=[]) .nil
 refine srt_uniq ltI_ord h1 h3 fun x=>?_
 show x∈((cellsOf a).filter (inC n)).foldl (insU ltI eqI2) []↔x∈((cellsOf b).filter (inC n)).foldl (insU ltI eqI2) []
 rw [h2,h4]
 simp only [List.mem_filter,cellsOf,List.mem_flatMap,List.not_mem_nil,or_false]
 constructor
 ·rintro ⟨⟨p,hp,hx⟩,e⟩;exact ⟨⟨p,(h p).1 hp,hx⟩,e⟩
 ·rintro ⟨⟨p,hp,hx⟩,e⟩;exact ⟨⟨p,(h p).2 hp,hx⟩,e⟩
theorem con_agrees {q:List Eqn} {t:List Int} (h:agrees q t = true):conE q:=by
 intro p hp r hr e
 unfold agrees at h
 rw [Bool.and_eq_true] at h
 have h1:=List.all_eq_true.1 h.2 p hp
 have h2:=List.all_eq_true.1 h.2 r hr
 rw [agr1_eq,Bool.and_eq_true,beq_iff_eq] at h1 h2
 rw [← h1.2,← h2.2,e]
theorem agrees_take {q:List Eqn} {t:List Int} (h:agrees q t = true) (k:Nat):agrees (q.take k) t = true:=by
 unfold agrees at h ⊢
 rw [Bool.and_eq_true] at h ⊢
 exact ⟨h.1,List.all_eq_true.2 fun p hp=>List.all_eq_true.1 h.2 p (List.mem_of_mem_take hp)⟩
theorem c_made_Equations (cs:List UInt8) (a:Nat) (most:Int) (hl:cs.length≤400) (ha:a≤cs.length) (hm:0≤most∧most≤10) :
 Spc Tryd.prog F_made_Equations [.ptr 0 1 0 0,vI most] [(0,oC cs a)]
  (.tup [vI (prodI (toldA cs a most 3).2.1),vIs (toldA cs a most 3).2.2.1,vQs ((tells (toldA cs a most 3).2.1 (toldA cs a most 3).2.2.2).take 8)]) [(0,oC cs (toldA cs a most 3).1)]:=by
 have hT:=c_made_Told cs a most 3 hl ha hm (by omega)
 obtain ⟨t1,t2,t3,t4,t5,t6,t7⟩:=toldA_ok (cs:=cs) (a:=a) (most:=most) (rel:=3) ha hm (by omega)
 generalize toldA cs a most 3 = y at *
 obtain ⟨a1,sz,t,L⟩:=y
 dsimp only at t1 t2 t3 t4 t5 t6 t7 hT ⊢
 have hszl:=t2.len
 have hAll:=c_ref29_All sz L (by omega) (by omega) (rls_sm t5)
 rw [allA,if_neg (fun e=>e t5)] at hAll
 have hC:=c_ref28_Count sz (by omega)
 rw [show cntS sz = prodI sz by rw [cntS,if_pos (chkS_ok.2 t2)]] at hC
 have hlen:(tells sz L).length≤24000000:=by
  have:=tells_len (sz:=sz) (l:=L) fun x hx=>rls_sm t5 x hx
  omega
 generalize tells sz L = q at *
 refine spec_of_ir fn_made_Equations mixm (by simp) fun e _ hst=>W_start ?_
 unfold ir_made_Equations
 refine sW ?_
 refine C1.draw 0 cs a _ hT rfl rfl rfl ?_
 refine sW ?_
 refine C1.shut [] hAll ?_ (by rfl) rfl ?_
 ·simp only [ltSto,ltO2,ltO1,ltAs,ltA,ltC,ltC0,ltC0s,ltCs,ltT,ltFr,ltS,wrOk,wrO,TL.get,hasFr,↓reduceIte,Nat.reduceEqDiff,reduceCtorEq,Option.getD_some,Option.isSome_some,List.length_map,List.length_append,List.length_cons,List.length_nil,List.append_nil,List.mem_singleton,List.mem_cons,List.not_mem_nil,and_true,true_and,and_self,imp_self,forall_const,false_implies,implies_true,true_implies,or_false,Bool.false_eq_true,Bool.true_eq_false,ImXs_nil,true_or,or_true,false_or,false_and,and_false,rmK,rm1]
 refine sW ?_
 refine C1.shut [] hC ?_ (by rfl) rfl ?_
 ·simp only [ltSto,ltO2,ltO1,ltAs,ltA,ltC,ltC0,ltC0s,ltCs,ltT,ltFr,ltS,wrOk,wrO,TL.get,hasFr,↓reduceIte,Nat.reduceEqDiff,reduceCtorEq,Option.getD_some,Option.isSome_some,List.length_map,List.length_append,List.length_cons,List.length_nil,List.append_nil,List.mem_singleton,List.mem_cons,List.not_mem_nil,and_true,true_and,and_self,imp_self,forall_const,false_implies,implies_true,true_implies,or_false,Bool.false_eq_true,Bool.true_eq_false,ImXs_nil,true_or,or_true,false_or,false_and,and_false,rmK,rm1]
 refine sW ?_
 refine W_loopF mixm (α:=Nat) [13,32] (fun i=>i≤q.length) (fun i=>[(13,.asl 1 ((q.take 8).take i).length),(32,vI i)]) (fun i=>[(0,oC cs a1),(1,.arr 2 (((q.take 8).take i).map eqnT) false)]) (fun i=>q.length - i) 0 (by omega) ?_ fun i hi=>?_
 ·simp only [List.take_zero,List.length_nil,List.map_nil]
  refine .of [(0,some 0),(1,none)] [] rfl (by first | rfl | (rw [hst];rfl)) ?_ ?_
  all_goals (try exact clA)
 refine sD ?_
 refine ⟨fun h3=>?_,fun h3=>?_⟩
 ·have hi2:i < q.length:=by omega
  have hwi:=i64_succ (i:=i) (by omega)
  have hq1:((q.take 8).take i).length = min i 8:=by simp only [List.length_take];omega
  simp only [tl,tl2,tl4,↓un_u,isCallR,entX,argFr,ret,retI,retB,intT,unT,endR,ressR,resR,tupT,bslR,boxR,lenAll,↓reduceIte,Nat.reduceEqDiff,Nat.reduceAdd,Nat.reduceMul,Nat.reduceLT,Nat.reduceLeDiff,reduceCtorEq,Int.reduceLE,Int.reduceLT,ne_eq,Int.reduceEq,not_false_eq_true,decide_true,decide_false,Int.reduceToNat,tl3,Int.reduceBNe,Int.reduceBEq,rmK,rm1,not_true_eq_false,Int.toNat_natCast,getD_mapT hi2,hwi,hq1,decide_eq_true_eq,decide_eq_false_iff_not,Bool.or_eq_true,Bool.or_eq_false_iff,Bool.and_eq_true,Bool.and_eq_false_iff]
  refine ⟨fun h4=>?_,fun h4=>?_⟩
  ·have hi8:i < 8:=by omega
   have hs:(q.take 8).take (i + 1) = (q.take 8).take i ++ [q[i]]:=by
    rw [take_snoc (by rw [List.length_take];omega),List.getElem_take]
   have hq2:((q.take 8).take (i + 1)).length = min i 8 + 1:=by rw [hs,List.length_append,hq1];rfl
   refine ⟨by omega,by omega,i + 1,by omega,by omega,?_⟩
   rw [show List.map eqnT ((q.take 8).take i) ++ [T.agg [vIs q[i].cells,vI q[i].val]] = ((q.take 8).take (i + 1)).map eqnT by rw [hs];simp,← hq2]
   refine .of [(0,some 0),(1,some 1)] [] rfl (by first | rfl | (rw [hst];rfl)) ?_ ?_
   all_goals (try exact clA)
  ·have hs:(q.take 8).take (i + 1) = (q.take 8).take i:=by
    rw [List.take_take,List.take_take,show min (i + 1) 8 = 8 by omega,show min i 8 = 8 by omega]
   refine ⟨i + 1,by omega,by omega,?_⟩
   rw [hs,hq1]
   refine .of [(0,some 0),(1,some 1)] [] rfl (by first | rfl | (rw [hst];rfl)) ?_ ?_
   all_goals (try exact clA)
 ·have hil:i = q.length:=by omega
  subst hil
  rw [List.take_of_length_le (l:=q.take 8) (by rw [List.length_take];omega)]
  refine .of [(0,some 0)] [1] rfl (by first | rfl | (rw [hst];rfl)) ?_ ?_
  all_goals (try exact clA)
theorem c_law29_EquationsLess (l:List UInt8):Spc Tryd.prog F_law29_EquationsLess [vL l] [] (vB true) []:=by
 obtain ⟨cs,hcs⟩:∃ cs,cs = l.take 400:=⟨_,rfl⟩
 have hl:=len400 l
 rw [← hcs] at hl
 have hE:=c_made_Equations cs 0 3 hl (by omega) (by omega)
 obtain ⟨t1,t2,t3,t4,t5,t6,t7⟩:=toldA_ok (cs:=cs) (a:=0) (most:=3) (rel:=3) (by omega) (by omega) (by omega)
 generalize toldA cs 0 3 3 = y at *
 obtain ⟨a1,sz,t,L⟩:=y
 dsimp only at t1 t2 t3 t4 t5 t6 t7 hE
 have htv:t.all okV = true:=tab_okV (most:=3) (by omega) t4
 have hTe:agrees (tells sz L) t = true:=by
  rw [agrees_tells t2 t3 htv L,List.all_eq_true]
  exact t7
 have hcl:=tell_cells (sz:=sz) (l:=L) t2
 have hval:=valid_tells t5
 obtain ⟨q,hq⟩:∃ q,q = (tells sz L).take 8:=⟨_,rfl⟩
 rw [← hq] at hE
 have hqt:agrees q t = true:=by rw [hq];exact agrees_take hTe 8
 have hq8:q.length≤8:=by rw [hq,List.length_take];omega
 have hqc:∀ x∈q,x.cells.length≤48:=fun x hx=>hcl x (List.mem_of_mem_take (hq ▸ hx))
 have hp:=t2.prod
 have hqv:validB (prodI sz) (q ++ q) = true:=by
  have hv2:=valid_parts hval
  simp only [validB,Bool.and_eq_true,decide_eq_true_eq,List.all_eq_true,List.length_append]
  refine ⟨⟨⟨by omega,by omega⟩,by omega⟩,fun x hx=>?_⟩
  have hx:x∈q:=by simpa using hx
  exact (hv2.2.2.2 x (List.mem_of_mem_take (hq ▸ hx))).1
 obtain ⟨r,r1,r2,r3⟩:=red_twice (con_agrees hqt)
 have hrc:∀ x∈r,x.cells.length≤48:=fun x hx=>hqc x ((r2 x).1 hx)
 have hR:=c_equations_Reduce (prodI sz) (q ++ q) (by rw [List.length_append];omega) (fun x hx=>by have:=hqc x (by simpa using hx);omega)
 rw [redA,if_neg (by rw [hqv];simp),r1] at hR
 dsimp only at hR
 generalize tells sz L = Q at *
 obtain ⟨n,hn⟩:∃ n,n = prodI sz:=⟨_,rfl⟩
 rw [← hn] at hE hR hp
 obtain ⟨N,hN1,hN2⟩:∃ N:Nat,cntS [n] = N∧N≤48:=by
  unfold cntS
  split
  ·have:=(chkS_ok.1 (by assumption)).prod
   exact ⟨(prodI [n]).toNat,by omega,by omega⟩
  ·exact ⟨0,rfl,by omega⟩
 have hM:=c_made_CellsN cs a1 [n] 3 N hl t1 (by simp) hN1 hN2 (by omega)
 have hu1:=(drN_ok (cs:=cs) (k:=3 + 1) (by omega) (n:=N) (x:=(a1,[])) t1 (by simp)).2.1
 generalize drN cs (3 + 1) N (a1,[]) = d at *
 obtain ⟨a2,u⟩:=d
 dsimp only at hM hu1
 have hrl:r.length≤8:=by omega
 have ht48:(t.length:Int)≤48:=by have:=t2.prod;omega
 have hat:=c_equations_Agrees r t (by omega) (by omega) (fun x hx=>by have:=hrc x hx;omega)
 rw [agrees_mem r2,hqt] at hat
 have hau:=c_equations_Agrees r u (by omega) (by simp at hu1;omega) (fun x hx=>by have:=hrc x hx;omega)
 have haq:=c_equations_Agrees q u (by omega) (by simp at hu1;omega) (fun x hx=>by have:=hqc x hx;omega)
 rw [agrees_mem r2] at hau
 have hcl2:∀ (z:List Eqn),z.length≤8→(∀ x∈z,x.cells.length≤48)→(cellsOf z).length≤z.length * 48:=by
  intro z
  induction z with
  | nil=>intro _ _;simp [cellsOf]
  | cons x z ih=>
    intro h1 h2
    have h3:=ih (by simp at h1;omega) fun y hy=>h2 y (List.mem_cons_of_mem _ hy)
    have h4:=h2 x (by simp)
    have:cellsOf (x :: z) = x.cells ++ cellsOf z:=by simp [cellsOf]
    rw [this,List.length_append,List.length_cons]
    omega
 have htr:=c_equations_Touched n r (by omega) (by have:=hcl2 r hrl hrc;omega)
 have htq:=c_equations_Touched n q (by omega) (by have:=hcl2 q hq8 hqc;omega)
 rw [tchA_mem r2] at htr
 have hIl:(tchA n q).length < 4611686018427387904:=by
  have h1:=insU_flen (lt:=ltI) (eq:=eqI2) ((cellsOf q).filter (inC n)) (l:=[])
  have h2:=List.length_filter_le (inC n) (cellsOf q)
  have h3:=hcl2 q hq8 hqc
  unfold tchA
  rw [List.length_nil] at h1
  unfold cellsOf at h1 h2 h3
  omega
 have hI:=c_ref28_Ints (tchA n q) (tchA n q) hIl hIl
 rw [ints_true] at hI
 generalize tchA n q = tc at *
 refine spec_of_ir fn_law29_EquationsLess mixm (by simp) fun e _ hst=>W_start ?_
 unfold ir_law29_EquationsLess
 refine sW ?_
 refine C1.newdraw 8196 (c_draw_New l) rfl rfl ?_
 simp only [tl,tl2,tl4,↓un_u,isCallR,entX,argFr,ret,retI,retB,intT,unT,endR,ressR,resR,tupT,bslR,boxR,lenAll,↓reduceIte,Nat.reduceEqDiff,Nat.reduceAdd,Nat.reduceMul,Nat.reduceLT,Nat.reduceLeDiff,reduceCtorEq,Int.reduceLE,Int.reduceLT,ne_eq,Int.reduceEq,not_false_eq_true,decide_true,decide_false,Int.reduceToNat,tl3,Int.reduceBNe,Int.reduceBEq,rmK,rm1,not_true_eq_false,← hcs]
 refine C1.draw 8196 cs 0 _ hE rfl rfl rfl ?_
 refine sW ?_
 refine C1.drawB 8196 cs a1 a2 16392 hM rfl (by rfl) (by simp) ?_ (by rfl) ?_
 ·all_goals (try exact clA)
 refine sW ?_
 refine ⟨by omega,by omega,?_⟩
 rw [← List.map_append,show q.length + q.length = (q ++ q).length by simp]
 refine C1.shut [20480] hR ?_ (by rfl) rfl ?_
 ·all_goals (try exact clA)
 have hle:decide ((r.length:Int)≤(q.length:Int)) = true:=decide_eq_true (by omega)
 have haw:=c_law29_awake
 simp only [tl,tl2,tl4,↓un_u,isCallR,entX,argFr,ret,retI,retB,intT,unT,endR,ressR,resR,tupT,bslR,boxR,lenAll,↓reduceIte,Nat.reduceEqDiff,Nat.reduceAdd,Nat.reduceMul,Nat.reduceLT,Nat.reduceLeDiff,reduceCtorEq,Int.reduceLE,Int.reduceLT,ne_eq,Int.reduceEq,not_false_eq_true,decide_true,decide_false,Int.reduceToNat,tl3,Int.reduceBNe,Int.reduceBEq,rmK,rm1,not_true_eq_false,hle]
 refine C2.im (fun _=>hat) (fun _=>rfl) (by rfl) ?_
 refine sW ?_
 refine C2.im (fun _=>hau) (fun _=>rfl) (by rfl) ?_
 refine sW ?_
 refine C2.im (fun _=>haq) (fun _=>rfl) (by rfl) ?_
 simp only [tl,tl2,tl4,↓un_u,isCallR,entX,argFr,ret,retI,retB,intT,unT,endR,ressR,resR,tupT,bslR,boxR,lenAll,↓reduceIte,Nat.reduceEqDiff,Nat.reduceAdd,Nat.reduceMul,Nat.reduceLT,Nat.reduceLeDiff,reduceCtorEq,Int.reduceLE,Int.reduceLT,ne_eq,Int.reduceEq,not_false_eq_true,decide_true,decide_false,Int.reduceToNat,tl3,Int.reduceBNe,Int.reduceBEq,rmK,rm1,not_true_eq_false,beq_self_eq_true]
 refine C2.im (fun _=>htr) (fun _=>rfl) (by rfl) ?_
 refine sW ?_
 refine C2.im (fun _=>htq) (fun _=>rfl) (by rfl) ?_
 refine sW ?_
 refine C2.im (fun _=>hI) (fun _=>rfl) (by rfl) ?_
 refine sW ?_
 refine C2.im (fun _=>haw) (fun _=>rfl) (by rfl) ?_
 refine sW ?_
 refine .of [] [] rfl (by first | rfl | (rw [hst];rfl)) ?_ ?_
 all_goals (try exact clA)
end Go.Proofs
