/- A part of the proof: trees of Go values, short forms, contracts. -/
import Derived.WalkKit
import Derived.Still
import Derived.MapKept
import GoSem.Builtin.Cap
import Derived.Laws.Externs
import GoSem.Extern.SlicesOverlaps
import Derived.Carry
import Derived.ProofKit
import Derived.OpenShut
import Derived.HandedShaped
import Derived.Lay
import Derived.LaidLaws
import Derived.MakeChecks
import Derived.SevenTiedAt
import Derived.Test.YtpmgddadeedmbaaGreatChecked
import Derived.Test.YtpmgddadeedmbaaGreatK17
set_option linter.unusedSimpArgs false
set_option linter.unusedVariables false
namespace Go.Proofs
open Go Go.TL
set_option maxRecDepth 4000
set_option maxHeartbeats 8000000
theorem qa5:∀ (c:Cnd) (m:Int),0≤m→m≤1000→Spc Tryz.prog jR [cnT c,vI m] [] (vI (cntC c (m + 1))) []:=by
 refine Cnd.ind' fun c ih m hm hm2=>?_
 rw [qa0]
 refine qd WY mixm (by simp) fun e _ hst=>qk ?_
 unfold wj
 refine sW ?_
 refine qw mixm (α:=Nat×Int) [5,11] (fun y=>y.1≤c.kids.length∧yf c.kids (m + 1) 1 = yf (c.kids.drop y.1) (m + 1) y.2∧y.2≤m + 1∧y.1 + 1≤y.2) (fun y=>[(5,vI y.2),(11,vI y.1)]) (fun y=>[]) (fun y=>c.kids.length - y.1) (0,1) ⟨by simp,rfl,by dsimp only;omega,by simp⟩ ?_ fun y hy=>?_
 ·exact .oA [] []
 obtain ⟨i,n⟩:=y
 obtain ⟨y1,y2,y3,y4⟩:=hy
 dsimp only at y1 y2 y3 y4
 rw [y2]
 refine sD ?_
 refine ⟨fun h=>?_,fun h=>?_⟩
 ·have hi:i < c.kids.length:=by omega
  have hwi:=qo (i:=i) (by omega)
  rw [zr0 hi,yf]
  simp only [tZ,↓un_u,simprocAttr,Int.toNat_natCast,qe hi,wU,tD]
  refine ⟨by omega,fun h2=>?_,fun h2=>?_⟩
  ·rw [if_neg (by omega)]
   exact .oA [] []
  have hw:IntKind.i64.wrap (m - n) = m - n:=IntWalk.i64_in _ (by omega)
  have hc:=qt2 c.kids[i] (m - n + 1) (by omega)
  have e1:m + 1 - n = m - n + 1:=by omega
  have hw2:IntKind.i64.wrap (n + cntC c.kids[i] (m - n + 1)) = n + cntC c.kids[i] (m - n + 1):=IntWalk.i64_in _ (by omega)
  rw [if_pos (by omega),e1]
  simp only [tZ,↓un_u,simprocAttr,hw]
  refine C1.im (ih _ (List.getElem_mem hi) (m - n) (by omega) (by omega)) (by rfl) (by rfl) ?_
  simp only [tZ,↓un_u,simprocAttr,hw2,hwi]
  refine ⟨(i + 1,n + cntC c.kids[i] (m - n + 1)),⟨by dsimp only;omega,rfl,by dsimp only;omega,by dsimp only;omega⟩,by dsimp only;omega,?_⟩
  exact .oA [] []
 ·rw [List.drop_of_length_le (by omega),yf]
  exact .oA [] []
theorem qe9:∀ (c:Cnd) (m:Int),1≤m→m≤1000→cntC c m < m→Spc Tryz.prog kr [cnT c] [] (vI (depC c)) []:=by
 refine Cnd.ind' fun c ih m hm hm2 hc=>?_
 have hd:=zM2 c m hm hc
 rw [qa0] at hc hd
 obtain ⟨hk1,hk2⟩:=qx0 (by omega) hc
 rw [zq7] at hd ⊢
 refine qd YS mixm (by simp) fun e _ hst=>qk ?_
 unfold wP
 refine sW ?_
 refine qw mixm (α:=Nat) [3,9] (fun i=>i≤c.kids.length) (fun i=>[(3,vI (Qm (c.kids.take i))),(9,vI i)]) (fun i=>[]) (fun i=>c.kids.length - i) 0 (by omega) ?_ fun i hi=>?_
 ·refine .of [] [] rfl (by first | rfl | (rw [hst];rfl)) ?_ ?_
  all_goals (try simp only [tL,simprocAttr,List.map_append,List.map_cons,List.map_nil,List.cons_append,List.nil_append,List.take_zero,Qm])
  all_goals (try (repeat' (first | exact zh | (apply zB;intro _;exact ⟨rfl,rfl⟩) | (apply qz;intro _;exact ⟨rfl,rfl⟩) | with_reducible apply qQ | with_reducible refine qD ⟨rfl,rfl⟩ ?_ | exact qR | with_reducible apply qJ | with_reducible refine qW ⟨rfl,rfl,?_⟩ ?_ | with_reducible apply And.intro | exact qK rfl | exact qK (by assumption) | (refine ⟨⟨?_,rfl,?_,rfl,?_⟩,trivial⟩ <;> first | (simp;done) | (apply qz;intro _;exact ⟨rfl,rfl⟩)) | trivial | rfl | (rw [qo (by omega)]) | omega)))
 have hdt:=qt4 c.kids i
 refine sD ?_
 refine ⟨fun h=>?_,fun h=>?_⟩
 ·have hi2:i < c.kids.length:=by omega
  have hwi:=qo (i:=i) (by omega)
  have hs:Qm (c.kids.take (i + 1)) = max (Qm (c.kids.take i)) (depC c.kids[i]):=by rw [qS hi2,qt3]
  obtain ⟨m',a1,a2,a3⟩:=hk2 _ (List.getElem_mem hi2)
  simp only [tZ,↓un_u,simprocAttr,Int.toNat_natCast,qe hi2,wU]
  refine ⟨by omega,?_⟩
  refine C1.im (ih _ (List.getElem_mem hi2) m' a1 (by omega) a3) (by rfl) (by rfl) ?_
  have hmx:maxI (Qm (c.kids.take i):Int) (depC c.kids[i]) = (Qm (c.kids.take (i + 1)):Int):=by rw [hs];unfold maxI;omega
  simp only [tZ,↓un_u,simprocAttr,hwi,hmx]
  refine ⟨i + 1,by omega,by omega,?_⟩
  exact .oA [] []
 ·have hil:i = c.kids.length:=by omega
  subst hil
  rw [List.take_length] at hdt ⊢
  have hw:=qo (i:=Qm c.kids) (by omega)
  simp only [tZ,↓un_u,simprocAttr,hw]
  exact .oA [] []
theorem qf0 (op:Int):Spc Tryz.prog ym [vI op] [] (vI (arC op)) []:=by
 refine qd YX mixm (by simp) fun e _ hst=>qk ?_
 unfold wS
 simp only [tZ,↓un_u,simprocAttr,Cnd.op,Cnd.col,Cnd.code,Cnd.lo,Cnd.hi,Cnd.kids]
 by_cases h5:op = 5
 ·subst h5
  refine sW ?_
  exact .oA [] []
 by_cases h6:op = 6
 ·subst h6
  refine sW ?_
  exact .oA [] []
 by_cases h7:op = 7
 ·subst h7
  refine sW ?_
  exact .oA [] []
 have e:arC op = 0:=by rw [arC,if_neg (by omega),if_neg h7]
 rw [e]
 simp only [tZ,↓un_u,simprocAttr,beq_eq_false_iff_ne.2 h5,beq_eq_false_iff_ne.2 h6,beq_eq_false_iff_ne.2 h7]
 exact .oA [] []
def unuC (c:Cnd):Bool:=if ((!isAt c && (c.col != 0)) || ((c.op != 2) && (c.code != 0))) = true then false else (c.op == 3) || ((c.lo == 0) && (c.hi == 0))
theorem zN0 {c:Cnd}:unuC c = false↔(c.op≠2∧c.op≠3∧c.op≠4∧c.col≠0)∨(c.op≠2∧c.code≠0)∨(c.op≠3∧(c.lo≠0∨c.hi≠0)):=by
 unfold unuC isAt
 grind
theorem Yr (c:Cnd):Spc Tryz.prog kV [cnT c] [] (vB (unuC c)) []:=by
 refine qd Wf mixm (by simp) fun e _ hst=>qk ?_
 unfold kE
 refine sW ?_
 have hi:isAt c = ((c.op == 2) || (c.op == 3) || (c.op == 4)):=rfl
 rw [← hi]
 unfold unuC
 cases h:(!isAt c && (c.col != 0))
 ·simp only [tZ,↓un_u,simprocAttr,h]
  cases h2:((c.op != 2) && (c.code != 0))
  ·simp only [tZ,↓un_u,simprocAttr,h2]
   exact .oA [] []
  ·simp only [tZ,↓un_u,simprocAttr,h2]
   exact .oA [] []
 ·simp only [tZ,↓un_u,simprocAttr,h]
  exact .oA [] []
theorem Ky (s:Sch) (hok:SchOk s) (c:Cnd):Spc Tryz.prog jW [schT s,cnT c] [] (vI (ndE s c)) []:=by
 have hn0:=hok.nl
 have hn1:=hok.nc
 have hn:ndE s c = if c.op < 1∨7 < c.op then 4
 else if c.kids.length≠arC c.op∨(c.op≠2∧c.op≠3∧c.op≠4∧c.col≠0)∨(c.op≠2∧c.code≠0)∨(c.op≠3∧(c.lo≠0∨c.hi≠0)) then 11
 else if (c.op = 2∧isB s c.col 2 = false)∨(c.op = 3∧isB s c.col 3 = false)∨(c.op = 4∧(isB s c.col 3 = false∨(qh s c.col.toNat).opt = false)) then 7
 else if c.op = 2∧(c.code < 0∨c.code≥(qH s c.col.toNat).codes.length) then 6
 else if c.op = 3∧(c.lo < -1000000∨c.hi > 1000000∨c.lo > c.hi) then 2 else 0:=rfl
 have hu:=@zN0 c
 generalize ndE s c = E at hn ⊢
 refine qd JH mixm (by simp) fun e _ hst=>qk ?_
 unfold jK
 refine sD ?_
 refine ⟨fun h=>?_,fun h=>?_⟩
 ·rw [if_pos (by omega)] at hn
  rw [hn]
  exact .oA [] []
 rw [if_neg (by omega)] at hn
 refine C1.im (qf0 c.op) (by rfl) (by rfl) ?_
 refine sW ?_
 refine C2.im (fun _=>Yr c) (fun _=>rfl) (by rfl) ?_
 simp only [tZ,↓un_u,simprocAttr,bne_iff_ne,bne_eq_false_iff_eq,Bool.not_eq_true',Bool.not_eq_false']
 repeat (first | refine ⟨by omega,?_⟩ | refine ⟨by kernel_rfl,?_⟩)
 refine ⟨fun h2=>?_,fun h2=>?_⟩
 ·rw [if_pos (by grind)] at hn
  rw [hn]
  exact .oA [] []
 rw [if_neg (by grind)] at hn
 by_cases hat:c.op≠2∧c.op≠3∧c.op≠4
 ·rw [if_neg (by omega),if_neg (by omega),if_neg (by omega)] at hn
  rw [hn]
  simp only [tZ,↓un_u,simprocAttr,bne_iff_ne.2 hat.1,bne_iff_ne.2 hat.2.1,bne_iff_ne.2 hat.2.2]
  exact .oA [] []
 have e1:((c.op != 2) && (c.op != 3) && (c.op != 4)) = false:=by
  cases e:((c.op != 2) && (c.op != 3) && (c.op != 4)) with
  | false=>rfl
  | true=>exact absurd (by simpa [and_assoc] using e) hat
 simp only [tZ,↓un_u,simprocAttr,e1,tD]
 refine ⟨fun h3=>?_,fun h3=>?_⟩
 ·have b2:isB s c.col 2 = false:=by
   cases e:isB s c.col 2 with
   | false=>rfl
   | true=>have:=Qn.1 e;omega
  have b3:isB s c.col 3 = false:=by
   cases e:isB s c.col 3 with
   | false=>rfl
   | true=>have:=Qn.1 e;omega
  rw [b2,b3,if_pos (by grind)] at hn
  rw [hn]
  exact .oA [] []
 obtain ⟨i,hci⟩:=Int.eq_ofNat_of_zero_le (show 0≤c.col by omega)
 have hil:i < s.cols.length:=by omega
 have hat2:qh s i = s.cols[i]:=by rw [qh,qr hil]
 have hcd:=fun e=>hok.cdl hil e
 have hcd2:=(zA (hok.cs i hil)).2.2.2.1
 have hcl:qH s i = s.lists.getD s.cols[i].list.toNat default:=by rw [qH,hat2]
 have hB:∀ k,isB s c.col k = (s.cols[i].kind == k):=fun k=>by
  rw [isB,hci,Int.toNat_natCast,hat2,decide_eq_true (by omega),decide_eq_true (by omega)];rfl
 rw [hB,hB,hci,Int.toNat_natCast,hcl,hat2] at hn
 rw [hat2,hcl] at hcd
 rw [hat2] at hcd2
 simp only [tZ,↓un_u,simprocAttr,hci,Int.toNat_natCast,qe hil]
 generalize s.cols[i] = x at hn hcd hcd2 ⊢
 simp only [tZ,↓un_u,simprocAttr,beq_iff_eq,beq_eq_false_iff_ne,bne_iff_ne,bne_eq_false_iff_eq]
 refine ⟨by omega,fun h4=>⟨fun h5=>?_,fun h5=>?_⟩,fun h4=>⟨fun h5=>⟨fun h6=>?_,fun h6=>?_⟩,fun h5=>?_⟩⟩
 ·rw [if_pos (by grind)] at hn
  rw [hn]
  exact .oA [] []
 ·rw [if_neg (by grind)] at hn
  obtain ⟨d1,d2⟩:=hcd h5
  obtain ⟨d3,d4⟩:=hcd2 h5
  rw [qr d1] at hn
  simp only [tZ,↓un_u,simprocAttr,qe d1,tD]
  generalize s.lists[x.list.toNat] = l at hn
  repeat (first | refine ⟨by omega,?_⟩ | refine ⟨by kernel_rfl,?_⟩)
  refine ⟨fun h6=>?_,fun h6=>?_⟩
  ·rw [if_pos (by grind)] at hn
   rw [hn]
   exact .oA [] []
  ·rw [if_neg (by grind),if_neg (by grind)] at hn
   rw [hn]
   exact .oA [] []
 ·rw [if_pos (by grind)] at hn
  rw [hn]
  exact .oA [] []
 ·rw [if_neg (by grind),if_neg (by grind)] at hn
  refine sD ?_
  refine ⟨fun h7=>?_,fun h7=>?_⟩
  ·rw [if_pos (by grind)] at hn
   rw [hn]
   exact .oA [] []
  ·rw [if_neg (by grind)] at hn
   rw [hn]
   exact .oA [] []
 ·refine ⟨fun h6=>?_,fun h6=>by omega⟩
  refine ⟨fun h7=>?_,fun h7=>?_⟩
  ·rw [if_pos (by grind)] at hn
   rw [hn]
   exact .oA [] []
  ·rw [if_neg (by grind),if_neg (by grind),if_neg (by grind)] at hn
   rw [hn]
   exact .oA [] []
theorem zS3 (op:Int):arC op≤2:=by
 unfold arC
 split
 ·omega
 ·split <;> omega
theorem Kz (s:Sch) (hok:SchOk s):∀ (c:Cnd),Spc Tryz.prog zT [schT s,cnT c] [] (vI (nodE s c)) []:=by
 refine Cnd.ind' fun c ih=>?_
 have hN:=zq8 s c
 generalize nodE s c = N at hN ⊢
 refine qd JD mixm (by simp) fun e _ hst=>qk ?_
 unfold jI
 refine sW ?_
 refine C1.im (Ky s hok c) (by rfl) (by rfl) ?_
 simp only [tZ,↓un_u,simprocAttr,bne_iff_ne,bne_eq_false_iff_eq]
 refine ⟨fun h=>?_,fun h=>?_⟩
 ·rw [hN,if_pos h]
  exact .oA [] []
 rw [if_neg (by rw [h];simp)] at hN
 have hnk:=(zH5 h).nk
 have har:=zS3 c.op
 rw [hN]
 refine qw mixm (α:=Nat) [18] (fun i=>i≤c.kids.length∧(Kv s (c.kids.take i) = 0)) (fun i=>[(18,vI i)]) (fun i=>[(4096,.arr 2 [schT s] false)]) (fun i=>c.kids.length - i) 0 ⟨by omega,?_⟩ ?_ fun i hi=>?_
 ·rfl
 ·exact .oA [(4096,some 4096)] []
 simp only [tZ,↓un_u,simprocAttr,decide_eq_true_eq,decide_eq_false_iff_not]
 refine ⟨fun h=>?_,fun h=>?_⟩
 ·have hi2:i < c.kids.length:=by omega
  have hi2:i < c.kids.length:=by omega
  have hwi:=qo (i:=i) (by omega)
  simp only [tZ,↓un_u,simprocAttr,Int.toNat_natCast,qe hi2,hwi,wU]
  refine ⟨by omega,?_⟩
  refine C1.im (ih _ (List.getElem_mem hi2)) (by rfl) (by rfl) ?_
  simp only [tZ,↓un_u,simprocAttr,bne_iff_ne,bne_eq_false_iff_eq]
  refine ⟨fun h6=>?_,fun h6=>?_⟩
  ·rw [qm2 hi2 hi.2 h6]
   exact .oA [] []
  ·refine ⟨i + 1,⟨by omega,by rw [qS hi2];exact qt5 hi.2 h6⟩,by omega,?_⟩
   exact .oA [(4096,some 4096)] []
 ·have hi2:i = c.kids.length:=by omega
  subst hi2
  rw [List.take_of_length_le (by omega)] at hi
  rw [hi.2]
  exact .oA [] []
theorem jS (s:Sch) (hs:Jc s) (c:Cnd):Spc Tryz.prog zt [schT s,cnT c] [] (vI (chkC s c)) []:=by
 refine qd WQ mixm (by simp) fun e _ hst=>qk ?_
 unfold kZ
 refine sW ?_
 refine C1.im (js s hs.2.1 hs.1) (by rfl) (by rfl) ?_
 simp only [tZ,↓un_u,simprocAttr,bne_iff_ne,bne_eq_false_iff_eq]
 refine ⟨fun h=>?_,fun h=>?_⟩
 ·rw [chkC,if_pos h]
  exact .oA [] []
 have hok:=zq h
 refine C1.im (qa5 c 40 (by omega) (by omega)) (by rfl) (by rfl) ?_
 rw [show (40:Int) + 1 = 41 from rfl]
 refine sD ?_
 refine ⟨fun h2=>?_,fun h2=>?_⟩
 ·rw [chkC,if_neg (by rw [h];simp),if_pos h2]
  exact .oA [] []
 refine C1.im (qe9 c 41 (by omega) (by omega) (by omega)) (by rfl) (by rfl) ?_
 refine sD ?_
 refine ⟨fun h3=>?_,fun h3=>?_⟩
 ·rw [chkC,if_neg (by rw [h];simp),if_neg h2,if_pos (by omega)]
  exact .oA [] []
 rw [chkC,if_neg (by rw [h];simp),if_neg h2,if_neg (by omega)]
 refine C1.im (Kz s hok c) (by rfl) (by rfl) ?_
 refine sW ?_
 exact .oA [] []
theorem wW (b:Bool):Spc Tryz.prog ja [vB b] [] (vI (tf b)) []:=by
 refine qd Yg mixm (by simp) fun e _ hst=>qk ?_
 unfold wq
 refine sW ?_
 cases b
 ·refine sW ?_
  exact .oA [] []
 ·refine sW ?_
  exact .oA [] []
theorem ZQ (s:Sch) (hok:SchOk s) (c:Cnd) (hc:NdOk s c) (ha:isAt c = true) (v:Int):Spc Tryz.prog jr [schT s,cnT c,vI v] [] (vI (kg s c v)) []:=by
 have hn0:=hok.nl
 have hn1:=hok.nc
 have hA:kg s c v = if c.op = 2 then tf (qc3 (qH s c.col.toNat) v c.code)
 else if c.op = 3 then (if v = Wg then 0 else tf (decide (c.lo≤v) && decide (v≤c.hi)))
 else if c.op = 4 then tf (v == Wg) else -1:=rfl
 rw [hA]
 by_cases h2:c.op = 2
 ·obtain ⟨b,b4,b5⟩:=hc.under h2
  obtain ⟨b1,b2,b3⟩:=Qn.1 b
  obtain ⟨i,hci⟩:=Int.eq_ofNat_of_zero_le b1
  rw [hci] at b2 b5
  rw [hci,Int.toNat_natCast] at b3
  rw [Int.toNat_natCast] at b5
  have hil:i < s.cols.length:=by omega
  have hat:qh s i = s.cols[i]:=by rw [qh,qr hil]
  have hcd:=hok.cdl hil b3
  have hcd2:=(zA (hok.cs i hil)).2.2.2.1 b3
  have hcl:qH s i = s.lists.getD s.cols[i].list.toNat default:=by rw [qH,hat]
  rw [hat] at hcd hcd2
  rw [if_pos h2,hci,Int.toNat_natCast]
  rw [hcl,qr hcd.1] at hcd ⊢
  have q:(c.op == 2) = true:=beq_iff_eq.2 h2
  refine qd wQ mixm (by simp) fun e _ hst=>qk ?_
  unfold jd
  simp only [tZ,↓un_u,simprocAttr,q,hci,Int.toNat_natCast,qe hil,qe hcd.1]
  refine ⟨by omega,by omega,?_⟩
  refine C1.im (qx5 _ v c.code) (by rfl) (by rfl) ?_
  refine sW ?_
  repeat (first | refine ⟨by omega,?_⟩ | refine ⟨by kernel_rfl,?_⟩)
  refine C1.im (wW _) (by rfl) (by rfl) ?_
  refine sW ?_
  repeat (first | refine ⟨by omega,?_⟩ | refine ⟨by kernel_rfl,?_⟩)
  exact .oA [] []
 have q:(c.op == 2) = false:=beq_eq_false_iff_ne.2 h2
 rw [if_neg h2]
 by_cases h4:c.op = 4
 ·have q4:(c.op == 4) = true:=beq_iff_eq.2 h4
  rw [if_neg (by omega),if_pos h4]
  refine qd wQ mixm (by simp) fun e _ hst=>qk ?_
  unfold jd
  simp only [tZ,↓un_u,simprocAttr,q,q4]
  rw [show (-1099511627776:Int) = Wg from rfl]
  refine C1.im (wW _) (by rfl) (by rfl) ?_
  refine sW ?_
  exact .oA [] []
 have q4:(c.op == 4) = false:=beq_eq_false_iff_ne.2 h4
 have h3:c.op = 3:=by
  unfold isAt at ha
  rw [q,q4] at ha
  simpa using ha
 rw [if_pos h3]
 refine qd wQ mixm (by simp) fun e _ hst=>qk ?_
 unfold jd
 simp only [tZ,↓un_u,simprocAttr,q,q4,beq_iff_eq,beq_eq_false_iff_ne]
 rw [show (-1099511627776:Int) = Wg from rfl]
 refine ⟨fun h=>?_,fun h=>?_⟩
 ·rw [if_pos h]
  exact .oA [] []
 ·rw [if_neg h]
  refine C1.im (wW _) (by rfl) (by rfl) ?_
  refine sW ?_
  exact .oA [] []
theorem Zb:∀ (c:Cnd) (m:Int),1≤m→m≤1000→cntC c m < m→Spc Tryz.prog zZ [cnT c] [] (vCs (atsC c)) []:=by
 refine Cnd.ind' fun c ih m hm hm2 hc=>?_
 have hal:=qx1 c m hm hc
 rw [qa0] at hc hal
 obtain ⟨hk1,hk2⟩:=qx0 (by omega) hc
 have hi:isAt c = ((c.op == 2) || (c.op == 3) || (c.op == 4)):=rfl
 refine qd Ya mixm (by simp) fun e _ hst=>qk ?_
 unfold wl
 refine sW ?_
 rw [← hi]
 refine ⟨fun h=>?_,fun h=>?_⟩
 ·rw [qw8,if_pos h]
  show ZT [] _ _ (.sl 6 [cndT c]) []
  rw [wU]
  exact .oA [] [12292]
 ·rw [qw8,if_neg (by rw [h];simp)] at hal ⊢
  refine qw mixm (α:=Nat) [3,24,18] (fun i=>i≤c.kids.length) (fun i=>[(3,.asl 1 (QY (c.kids.take i)).length),(24,vI i)]) (fun i=>[(1,.arr 6 ((QY (c.kids.take i)).map cndT) false)]) (fun i=>c.kids.length - i) 0 (by omega) ?_ fun i hi2=>?_
  ·exact .oA [(1,none)] []
  have htl:=ZG c.kids i
  refine sD ?_
  refine ⟨fun h5=>?_,fun h5=>?_⟩
  ·have hi2:i < c.kids.length:=by omega
   have hwi:=qo (i:=i) (by omega)
   obtain ⟨m',a1,a2,a3⟩:=hk2 _ (List.getElem_mem hi2)
   have htl2:=ZG c.kids (i + 1)
   rw [qS hi2,qa1,List.length_append] at htl2
   simp only [tZ,↓un_u,simprocAttr,Int.toNat_natCast,qe hi2,wU]
   refine ⟨by omega,?_⟩
   refine C1.im (ih _ (List.getElem_mem hi2) m' a1 (by omega) a3) (by rfl) (by rfl) ?_
   simp only [tZ,↓un_u,simprocAttr,hwi]
   refine ⟨by omega,i + 1,by omega,by omega,?_⟩
   rw [qS hi2,qa1,List.map_append]
   refine .of [(1,some 1)] [] rfl (by first | rfl | (rw [hst];rfl)) ?_ ?_
   all_goals (try simp only [tL,simprocAttr,List.map_append,List.map_cons,List.map_nil,List.cons_append,List.nil_append,List.append_assoc])
   all_goals (try (repeat' (first | exact zh | (apply zB;intro _;exact ⟨rfl,rfl⟩) | (apply qz;intro _;exact ⟨rfl,rfl⟩) | with_reducible apply qQ | with_reducible refine qD ⟨rfl,rfl⟩ ?_ | exact qR | with_reducible apply qJ | with_reducible refine qW ⟨rfl,rfl,?_⟩ ?_ | with_reducible apply And.intro | exact qK rfl | exact qK (by assumption) | (refine ⟨⟨?_,rfl,?_,rfl,?_⟩,trivial⟩ <;> first | (simp;done) | (apply qz;intro _;exact ⟨rfl,rfl⟩)) | trivial | rfl | (rw [qo (by omega)]) | omega)))
   all_goals first | exact zr2 _ | exact zr1 _
  ·have hil:i = c.kids.length:=by omega
   subst hil
   rw [List.take_length]
   refine .of [] [1] rfl (by first | rfl | (rw [hst];rfl)) ?_ ?_
   all_goals (try simp only [tL,simprocAttr,List.map_append,List.map_cons,List.map_nil,List.cons_append,List.nil_append,List.append_assoc])
   all_goals (try (repeat' (first | exact zh | (apply zB;intro _;exact ⟨rfl,rfl⟩) | (apply qz;intro _;exact ⟨rfl,rfl⟩) | with_reducible apply qQ | with_reducible refine qD ⟨rfl,rfl⟩ ?_ | exact qR | with_reducible apply qJ | with_reducible refine qW ⟨rfl,rfl,?_⟩ ?_ | with_reducible apply And.intro | exact qK rfl | exact qK (by assumption) | (refine ⟨⟨?_,rfl,?_,rfl,?_⟩,trivial⟩ <;> first | (simp;done) | (apply qz;intro _;exact ⟨rfl,rfl⟩)) | trivial | rfl | (rw [qo (by omega)]) | omega)))
   all_goals first | exact zr2 _ | exact zr1 _
end Go.Proofs
namespace Go.Proofs
open Go Go.TL
set_option maxRecDepth 4000
set_option maxHeartbeats 8000000
theorem ZR (n w:Int) (hw:0 < w∧w≤1000000) (hn : -4611686018427387904 < n∧n < 4611686018427387904):Spc Tryz.prog ku [vI n,vI w] [] (vI (qy n w * w)) []:=by
 rw [qN0 hw.1]
 have h2:=Int.tmod_lt_of_pos n hw.1
 have h3:=Int.lt_tmod_of_pos n hw.1
 have w1:IntKind.i64.wrap (n.tmod w) = n.tmod w:=IntWalk.i64_in _ (by omega)
 have w2:IntKind.i64.wrap (n.tmod w + w) = n.tmod w + w:=IntWalk.i64_in _ (by omega)
 have w3:IntKind.i64.wrap (n - n.tmod w) = n - n.tmod w:=IntWalk.i64_in _ (by omega)
 have w4:IntKind.i64.wrap (n - (n.tmod w + w)) = n - (n.tmod w + w):=IntWalk.i64_in _ (by omega)
 refine qd YV mixm (by simp) fun e _ hst=>qk ?_
 unfold wR
 simp only [tZ,↓un_u,simprocAttr,w1,w2,w3,w4,tD]
 refine ⟨by omega,fun h=>?_,fun h=>?_⟩
 ·rw [if_pos h]
  exact .oA [] []
 ·rw [if_neg h]
  exact .oA [] []
theorem qa6 (c:Col) (lev:Int) (h1:1≤lev∧lev≤c.widths.length) (h2:c.widths.length < 4611686018427387904):Spc Tryz.prog wG [colT c,vI lev] [] (vI (zd c lev)) []:=by
 have hw:IntKind.i64.wrap ((c.widths.length:Int) - lev) = (c.widths.length:Int) - lev:=IntWalk.i64_in _ (by omega)
 have hk:((c.widths.length:Int) - lev).toNat < c.widths.length:=by omega
 refine qd Ye mixm (by simp) fun e _ hst=>qk ?_
 unfold wn
 simp only [tZ,↓un_u,simprocAttr,hw,qe hk]
 rw [zd,qr hk]
 refine ⟨by omega,?_⟩
 exact .oA [] []
theorem Ys (k k' v:Int):∀ l:List (Int×Int),TL.look TL.eqI k (TL.asg TL.eqI k' v l) = if k = k' then some v else TL.look TL.eqI k l
 | []=>by
   simp only [TL.asg,TL.look,TL.eqI,beq_iff_eq]
 | (a,b) :: r=>by
   have ih:=Ys k k' v r
   simp only [TL.asg,TL.eqI,beq_iff_eq] at ih ⊢
   by_cases h:k' = a
   ·subst h
    rw [if_pos rfl]
    simp only [TL.look,TL.eqI,beq_iff_eq]
    split <;> rfl
   ·rw [if_neg h]
    simp only [TL.look,TL.eqI,beq_iff_eq]
    rw [ih]
    by_cases h2:k = a
    ·subst h2
     rw [if_pos rfl,if_neg (fun e=>h e.symm),if_pos rfl]
    ·rw [if_neg h2,if_neg h2]
theorem qI6 {n w:Int} (hw:0 < w):(qy n w * w == n) = (n.tmod w == 0):=by
 rw [qN0 hw,Bool.eq_iff_iff,beq_iff_eq,beq_iff_eq]
 have h2:=Int.tmod_lt_of_pos n hw
 have h3:=Int.lt_tmod_of_pos n hw
 split <;> omega
theorem KA (s:Sch) (hE:schE s = 0) (c:Cnd) (hnd:NdOk s c) (ha:isAt c = true) (lev:Nat) (hl:(lev:Int)≤finI s c.col):Spc Tryz.prog jV [schT s,cnT c,vI lev] [] (vB (decB s c lev)) []:=by
 have hok:=zq hE
 have hn0:=hok.nl
 have hn1:=hok.nc
 obtain ⟨_,c1,c2,hfin⟩:=ZF (s:=s) (c:=c.col) (by omega)
 obtain ⟨i,hci⟩:=Int.eq_ofNat_of_zero_le (show 0≤c.col by omega)
 have hcn:c.col.toNat = i:=by omega
 have hil:i < s.cols.length:=by omega
 have hat:qh s i = s.cols[i]:=by rw [qh,qr hil]
 have hcd:=fun e=>hok.cdl hil e
 have hcd2:=(zA (hok.cs i hil)).2.2.2.1
 have hwd:=fun e l=>hok.wid hil (by omega) e (lev:=l)
 have hll:=za8 hok hil
 have hcl:qH s i = s.lists.getD s.cols[i].list.toNat default:=by rw [qH,hat]
 have hlh:=fun h2 v=>QX (s:=s) (i:=i) h2 (v:=v)
 have hfi:∀ h2:(qh s i).kind = 2,finI s c.col = zj (qH s i) - 1:=fun h2=>by rw [hfin,hcn,if_pos h2]
 have hco:∀ h2:(qh s i).kind = 2,∀ v∈qE s i,qG s c.col lev v = upC (qH s i) v lev:=fun h2 v hv=>by
  have:=QX h2 (hcd h2).2 hv
  rw [qG,if_neg (by rw [Bool.not_eq_false,KJ];omega),hcn,if_pos h2,if_neg (by rw [this];simp)]
 rw [hcn,hat] at hfin
 rw [hat] at hwd hll hcd hcd2 hfi hco
 have hD:decB s c lev = if c.op = 2 then ql7 (qE s i).length (decP s c lev)
 else if c.op = 4 then decide (0 < lev)
 else if lev = 0 then !s.cols[i].opt && !(decide (s.cols[i].low < c.lo) && decide (c.lo≤s.cols[i].high)) && !(decide (s.cols[i].low≤c.hi) && decide (c.hi < s.cols[i].high))
  else (!(decide (s.cols[i].low < c.lo) && decide (c.lo≤s.cols[i].high)) || (c.lo.tmod (zd s.cols[i] lev) == 0)) && (!(decide (s.cols[i].low≤c.hi) && decide (c.hi < s.cols[i].high)) || ((c.hi + 1).tmod (zd s.cols[i] lev) == 0)):=by
  rw [decB,hcn,hat]
 have hk2:c.op = 2→s.cols[i].kind = 2:=fun h=>by
  have:=(Qn.1 (hnd.under h).1).2.2
  rw [hcn,hat] at this;exact this
 have hk3:c.op = 3→s.cols[i].kind = 3:=fun h=>by
  have:=(Qn.1 (hnd.between h).1).2.2
  rw [hcn,hat] at this;exact this
 have hm4:c.op = 4→s.cols[i].opt = true:=fun h=>by
  have:=(hnd.miss h).2
  rw [hcn,hat] at this;exact this
 have hPd:∀ L,qE s i = L→∀ j k,decP s c lev j k = !((qG s c.col lev (L.getD j 0) == qG s c.col lev (L.getD k 0)) && !(kg s c (L.getD j 0) == kg s c (L.getD k 0))):=fun L hL j k=>by rw [decP,hcn,hL]
 have hlv:qE s i = atL (qH s i) (zj (qH s i) - 1):=rfl
 rw [hD]
 rw [hcl] at hcd hco hlv
 refine qd JF mixm (by simp) fun e _ hst=>qk ?_
 unfold jJ
 simp only [tZ,↓un_u,simprocAttr,hcn,qe hil]
 have hmw:s.cols[i].kind = 3→1≤s.cols[i].widths.length:=fun h=>by
  have:=(zA (hok.cs i hil)).2.2.2.2 (by rw [hat];exact h)
  rw [hat] at this
  unfold measE at this
  grind
 generalize s.cols[i] = x at hmw hwd hfin hll hk2 hk3 hm4 hcd hcd2 hco hlv ⊢
 simp only [tZ,↓un_u,simprocAttr,beq_iff_eq,beq_eq_false_iff_ne]
 refine ⟨by omega,fun h2=>?_,fun h2=>?_⟩
 ·rw [if_pos h2]
  obtain ⟨d1,d2⟩:=hcd (hk2 h2)
  obtain ⟨d3,d4⟩:=hcd2 (hk2 h2)
  have hco:=hco (hk2 h2)
  have hll:=hll (hk2 h2)
  have hPd:=hPd _ rfl
  rw [qr d1] at d2 hco hlv
  rw [hlv] at hco hll hPd ⊢
  have hAt:=ZQ s hok c hnd ha
  simp only [tZ,↓un_u,simprocAttr,qe d1]
  refine ⟨by omega,?_⟩
  generalize s.lists[x.list.toNat] = l at d2 hco hll hPd ⊢
  have hlvl:=qw7 (l:=l)
  have hw2:IntKind.i64.wrap (zj l - 1) = zj l - 1:=IntWalk.i64_in _ (by omega)
  refine C1.im (QO l) (by rfl) (by rfl) ?_
  simp only [tZ,↓un_u,simprocAttr,hw2]
  refine C1.im (qa4 l (zj l - 1)) (by rfl) (by rfl) ?_
  refine sW ?_
  repeat (first | refine ⟨by omega,?_⟩ | refine ⟨by kernel_rfl,?_⟩)
  generalize atL l (zj l - 1) = L at hco hll hPd ⊢
  refine qw mixm (α:=Nat×List (Int×Int)) [41] (fun y=>y.1≤L.length∧ql7 y.1 (decP s c lev) = true∧(∀ a,a < y.1→TL.look TL.eqI (upC l (L.getD a 0) lev) y.2 = some (kg s c (L.getD a 0)))∧∀ k v,TL.look TL.eqI k y.2 = some v→∃ a,a < y.1∧upC l (L.getD a 0) lev = k∧kg s c (L.getD a 0) = v) (fun y=>[(41,vI y.1)]) (fun y=>[(4096,.arr 2 [schT s] false),(4100,.arr 6 [cnT c] false),(16408,.arr 2 [cdlT l] false),(20480,.mp (.ii y.2))]) (fun y=>L.length - y.1) (0,[]) ⟨by simp,rfl,by simp,by simp [TL.look]⟩ ?_ fun y hy=>?_
  ·exact .oA [(4096,some 4096),(4100,some 4100),(16408,some 16408),(20480,some 20480)] []
  obtain ⟨j,M⟩:=y
  obtain ⟨y1,y2,y3,y4⟩:=hy
  dsimp only at y1 y2 y3 y4
  refine sD ?_
  refine ⟨fun h3=>?_,fun h3=>?_⟩
  ·have hj2:j < L.length:=by omega
   have hwj:=qo (i:=j) (by omega)
   have hgj:L.getD j 0 = L[j]:=qr hj2
   have hP:∀ a,a < j→decP s c lev j a = !((upC l L[j] lev == upC l (L.getD a 0) lev) && !(kg s c L[j] == kg s c (L.getD a 0))):=fun a ha=>by
    rw [hPd,hgj,hco L[j] (List.getElem_mem hj2),hco (L.getD a 0) (by rw [qr (show a < L.length by omega)];exact List.getElem_mem _)]
   have hlk:=Ys
   simp only [tZ,↓un_u,simprocAttr,Int.toNat_natCast,qe hj2]
   refine ⟨by omega,?_⟩
   refine C1.im (Kc l L[j] lev) (by rfl) (by rfl) ?_
   refine sW ?_
   refine C1.im (hAt L[j]) (by rfl) (by rfl) ?_
   refine sW ?_
   repeat (first | refine ⟨by omega,?_⟩ | refine ⟨by kernel_rfl,?_⟩)
   have hfin:∀ v,(∀ w,TL.look TL.eqI (upC l L[j] lev) M = some w→w = kg s c L[j])→v = kg s c L[j]→(j + 1≤L.length∧ql7 (j + 1) (decP s c lev) = true∧(∀ a,a < j + 1→TL.look TL.eqI (upC l (L.getD a 0) lev) (TL.asg TL.eqI (upC l L[j] lev) v M) = some (kg s c (L.getD a 0)))∧∀ k w,TL.look TL.eqI k (TL.asg TL.eqI (upC l L[j] lev) v M) = some w→∃ a,a < j + 1∧upC l (L.getD a 0) lev = k∧kg s c (L.getD a 0) = w):=fun v hv e=>by
    subst e
    have hsame:∀ a,a < j→upC l (L.getD a 0) lev = upC l L[j] lev→kg s c (L.getD a 0) = kg s c L[j]:=fun a ha he=>by
     have:=y3 a ha
     rw [he] at this
     exact hv _ this
    refine ⟨by omega,?_,fun a h5=>?_,fun k w h5=>?_⟩
    ·rw [za7,y2,Bool.true_and,List.all_eq_true]
     intro a ha
     rw [List.mem_range] at ha
     rw [hP a ha]
     by_cases q:upC l (L.getD a 0) lev = upC l L[j] lev
     ·rw [hsame a ha q];simp
     ·rw [beq_eq_false_iff_ne.2 (fun e=>q e.symm)];rfl
    ·rw [Ys]
     by_cases q:a = j
     ·subst q;rw [hgj,if_pos rfl]
     ·split
      ·rename_i q2;rw [hsame a (by omega) q2]
      ·exact y3 a (by omega)
    ·rw [Ys] at h5
     split at h5
     ·rename_i q
      exact ⟨j,by omega,by rw [hgj,q],by rw [hgj];simpa using h5⟩
     ·obtain ⟨a,a1,a2,a3⟩:=y4 k w h5
      exact ⟨a,by omega,a2,a3⟩
   cases hf:TL.look TL.eqI (upC l L[j] lev) M with
   | none=>
     simp only [tZ,↓un_u,simprocAttr,hf,Option.isSome_none,hwj]
     refine ⟨fun h=>by simp at h,fun _=>⟨(j + 1,_),hfin _ (fun w h=>by rw [hf] at h;cases h) rfl,by dsimp only;omega,?_⟩⟩
     exact .oA [(4096,some 4096),(4100,some 4100),(16408,some 16408),(20480,some 20480)] []
   | some w=>
     simp only [tZ,↓un_u,simprocAttr,hf,Option.isSome_some,Option.getD_some,bne_iff_ne,bne_eq_false_iff_eq,hwj]
     refine ⟨fun h5=>?_,fun h5=>?_⟩
     ·obtain ⟨a,a1,a2,a3⟩:=y4 _ _ hf
      rw [zA2 hj2 a1 (by rw [hP a a1,a2,a3,beq_self_eq_true,beq_eq_false_iff_ne.2 (fun e=>h5 e.symm)];rfl)]
      exact .oA [] []
     ·refine ⟨(j + 1,_),hfin _ (fun w' h=>by rw [hf] at h;cases h;exact h5) rfl,by dsimp only;omega,?_⟩
      exact .oA [(4096,some 4096),(4100,some 4100),(16408,some 16408),(20480,some 20480)] []
  ·have hjl:j = L.length:=by omega
   subst hjl
   rw [y2]
   exact .oA [] []
 rw [if_neg h2]
 by_cases h4:c.op = 4
 ·rw [if_pos h4]
  have ho:=hm4 h4
  by_cases hz:lev = 0
  ·subst hz
   simp only [tZ,↓un_u,simprocAttr,ho]
   exact .oA [] []
  ·have e0:((lev:Int) == 0) = false:=beq_eq_false_iff_ne.2 (by omega)
   simp only [tZ,↓un_u,simprocAttr,e0,beq_iff_eq,beq_eq_false_iff_ne]
   rw [decide_eq_true (show 0 < lev by omega)]
   refine ⟨fun h=>by simp at h,fun _=>⟨fun _=>?_,fun h=>absurd h4 h⟩⟩
   exact .oA [] []
 rw [if_neg h4]
 have h3:c.op = 3:=by
  unfold isAt at ha
  simp only [Bool.or_eq_true,beq_iff_eq] at ha
  omega
 have hk3:=hk3 h3
 have hb:=hnd.between h3
 rw [if_neg (by omega)] at hfin
 have q4:(c.op == 4) = false:=beq_eq_false_iff_ne.2 h4
 have hxw:=hmw hk3
 obtain ⟨_,_,_,x4,x5,x6,x7,_⟩:=hwd (by omega) 1 (by omega)
 by_cases hz:lev = 0
 ·subst hz
  simp only [tZ,↓un_u,simprocAttr,qW9,zH8,tD]
  refine ⟨fun h=>?_,fun h=>⟨fun k=>absurd k h4,fun _=>?_⟩⟩
  ·rw [h]
   exact .oA [] []
  ·rw [h]
   repeat (first | refine ⟨by omega,?_⟩ | refine ⟨by kernel_rfl,?_⟩)
   refine ⟨fun h5=>?_,fun h5=>?_⟩
   ·rw [show (!false && !(decide (x.low < c.lo) && decide (c.lo≤x.high)) && !(decide (x.low≤c.hi) && decide (c.hi < x.high))) = true by grind]
    exact .oA [] []
   ·rw [show (!false && !(decide (x.low < c.lo) && decide (c.lo≤x.high)) && !(decide (x.low≤c.hi) && decide (c.hi < x.high))) = ((max c.lo x.low == x.low) && (min c.hi x.high == x.high)) by grind]
    exact .oA [] []
 have e0:((lev:Int) == 0) = false:=beq_eq_false_iff_ne.2 (by omega)
 rw [if_neg hz]
 obtain ⟨w1,w2,_⟩:=hwd (by omega) lev (by omega)
 simp only [tZ,↓un_u,simprocAttr,e0,qW9,zH8,tD]
 refine fun _=>⟨fun k=>absurd k h4,fun _=>?_⟩
 repeat (first | refine ⟨by omega,?_⟩ | refine ⟨by kernel_rfl,?_⟩)
 refine ⟨fun h5=>?_,fun h5=>?_⟩
 ·rw [show ((!(decide (x.low < c.lo) && decide (c.lo≤x.high)) || (c.lo.tmod (zd x lev) == 0)) && (!(decide (x.low≤c.hi) && decide (c.hi < x.high)) || ((c.hi + 1).tmod (zd x lev) == 0))) = true by grind]
  exact .oA [] []
 refine ⟨fun h=>by omega,fun _=>?_⟩
 refine C1.im (qa6 x lev (by omega) (by omega)) (by rfl) (by rfl) ?_
 generalize zd x lev = w at w1 w2 ⊢
 have hF:((!(decide (x.low < c.lo) && decide (c.lo≤x.high)) || (c.lo.tmod w == 0)) && (!(decide (x.low≤c.hi) && decide (c.hi < x.high)) || ((c.hi + 1).tmod w == 0))) = (((max c.lo x.low == x.low) || (qy (max c.lo x.low) w * w == max c.lo x.low)) && ((min c.hi x.high == x.high) || (qy (min c.hi x.high + 1) w * w == min c.hi x.high + 1))):=by
  rw [qI6 (by omega),qI6 (by omega)]
  congr 1
  ·by_cases k:x.low < c.lo
   ·rw [show max c.lo x.low = c.lo by omega,decide_eq_true k,decide_eq_true (show c.lo≤x.high by omega),beq_eq_false_iff_ne.2 (show c.lo≠x.low by omega)]
    rfl
   ·rw [show max c.lo x.low = x.low by omega,decide_eq_false k,beq_self_eq_true]
    simp
  ·by_cases k:c.hi < x.high
   ·rw [show min c.hi x.high = c.hi by omega,decide_eq_true k,decide_eq_true (show x.low≤c.hi by omega),beq_eq_false_iff_ne.2 (show c.hi≠x.high by omega)]
    rfl
   ·rw [show min c.hi x.high = x.high by omega,decide_eq_false k,beq_self_eq_true]
    simp
 rw [hF]
 have hwm:IntKind.i64.wrap (min c.hi x.high + 1) = min c.hi x.high + 1:=IntWalk.i64_in _ (by omega)
 refine sW ?_
 refine C2.im (fun _=>ZR (max c.lo x.low) w (by omega) (by omega)) (fun _=>rfl) (by rfl) ?_
 simp only [tZ,↓un_u,simprocAttr,hwm]
 refine C2.im (fun _=>ZR (min c.hi x.high + 1) w (by omega) (by omega)) (fun _=>rfl) (by rfl) ?_
 simp only [tZ,↓un_u,simprocAttr,hwm]
 repeat (first | refine ⟨by omega,?_⟩ | refine ⟨by kernel_rfl,?_⟩)
 exact .oA [] []
end Go.Proofs
namespace Go.Proofs
open Go Go.TL
set_option maxRecDepth 4000
set_option maxHeartbeats 8000000
def canF (f:Nat→Int):Nat→List Pk
 | 0=>[]
 | n + 1=>canF f n ++ (if 0 < f n then [⟨n,f n⟩] else [])
theorem Zc {f g:Nat→Int}:∀ {n:Nat},(∀ k,k < n→f k = g k)→canF f n = canF g n
 | 0,_=>rfl
 | n + 1,h=>by rw [canF,canF,Zc fun k hk=>h k (by omega),h n (by omega)]
theorem qx9 (f:Nat→Int):∀ n,(canF f n).length≤n
 | 0=>Nat.le_refl _
 | n + 1=>by
   have:=qx9 f n
   rw [canF,List.length_append]
   split <;> simp <;> omega
theorem qn0 {f:Nat→Int}:∀ {n:Nat},(∀ k,k < n→f k≤0)→canF f n = []
 | 0,_=>rfl
 | n + 1,h=>by
   have:=h n (by omega)
   rw [canF,qn0 fun k hk=>h k (by omega),if_neg (by omega)];rfl
theorem qI7 {f:Nat→Int} {n:Nat}:∀ d,(∀ k,n≤k→k < n + d→f k≤0)→canF f (n + d) = canF f n
 | 0,_=>rfl
 | d + 1,h=>by
   have:=h (n + d) (by omega) (by omega)
   rw [show n + (d + 1) = n + d + 1 from rfl,canF,if_neg (by omega),List.append_nil,qI7 d fun k h1 h2=>h k h1 (by omega)]
theorem yO {f:Nat→Int} {p:Pk}:∀ {n:Nat},p∈canF f n↔∃ k,k < n∧0 < f k∧p = ⟨k,f k⟩
 | 0=>by simp [canF]
 | n + 1=>by
   rw [canF,List.mem_append,yO]
   constructor
   ·rintro (⟨k,h1,h2,h3⟩ | h)
    ·exact ⟨k,by omega,h2,h3⟩
    ·split at h
     ·rename_i h2;exact ⟨n,by omega,h2,by simpa using h⟩
     ·simp at h
   ·rintro ⟨k,h1,h2,h3⟩
    by_cases e:k = n
    ·subst e;right;rw [if_pos h2];simpa using h3
    ·exact .inl ⟨k,by omega,h2,h3⟩
def upd (f:Nat→Int) (c:Nat) (v:Int):Nat→Int:=fun k=>if k = c then max (f k) v else f k
theorem qt8 {f:Nat→Int} (hf:∀ k,0≤f k) (c:Nat) (v:Int):∀ m,∀ x,(canF f m).foldl (qp5 c v) ([],decide (v≤0)) = x→
 (m≤c→x.2 = decide (v≤0))∧(x.2 = true→x.1 = canF (upd f c v) m)∧(x.2 = false→0 < v∧x.1 ++ (if c < m then [⟨c,v⟩] else []) = canF (upd f c v) m)
 | 0,x,h=>by
   subst h
   refine ⟨fun _=>rfl,fun _=>rfl,fun h=>⟨?_,by rw [if_neg (by omega)];rfl⟩⟩
   have:=of_decide_eq_false h
   omega
 | m + 1,x,h=>by
   rw [canF,List.foldl_append] at h
   obtain ⟨i1,i2,i3⟩:=qt8 hf c v m _ rfl
   generalize (canF f m).foldl (qp5 c v) ([],decide (v≤0)) = y at h i1 i2 i3
   obtain ⟨l,b⟩:=y
   dsimp only at i1 i2 i3
   have hm:=hf m
   by_cases h0:0 < f m
   ·rw [if_pos h0,List.foldl_cons,List.foldl_nil] at h
    unfold qp5 at h
    dsimp only at h
    rcases Nat.lt_trichotomy m c with q | q | q
    ·rw [if_neg (by omega),if_neg (by omega)] at h
     subst h
     have hu:upd f c v m = f m:=by rw [upd,if_neg (by omega)]
     refine ⟨fun _=>i1 (by omega),fun e=>?_,fun e=>⟨(i3 e).1,?_⟩⟩
     ·dsimp only at e ⊢
      rw [i2 e,canF,hu,if_pos h0]
     ·dsimp only at e ⊢
      have:=(i3 e).2
      rw [if_neg (by omega),List.append_nil] at this
      rw [if_neg (by omega),List.append_nil,this,canF,hu,if_pos h0]
    ·subst q
     rw [if_pos rfl,if_neg (show ¬ ((m:Int) > m∧b = false) from fun h=>by omega)] at h
     subst h
     have hu:upd f m v m = max (f m) v:=by rw [upd,if_pos rfl]
     refine ⟨fun e=>by omega,fun _=>?_,fun e=>by simp at e⟩
     dsimp only
     have:l = canF (upd f m v) m:=by
      cases b with
      | true=>exact i2 rfl
      | false=>
        have:=(i3 rfl).2
        rw [if_neg (by omega),List.append_nil] at this
        exact this
     rw [this,canF,hu,if_pos (by omega)]
    ·have hu:upd f c v m = f m:=by rw [upd,if_neg (by omega)]
     have hc:((m:Int) > (c:Int)):=by omega
     cases b with
     | true=>
       rw [if_neg (show ¬ ((m:Int) = c) by omega),if_neg (show ¬ ((m:Int) > c∧true = false) from fun h=>by simp at h)] at h
       subst h
       refine ⟨fun e=>by omega,fun _=>?_,fun e=>by simp at e⟩
       dsimp only
       rw [i2 rfl,canF,hu,if_pos h0]
     | false=>
       rw [if_neg (show ¬ ((m:Int) = c) by omega),if_pos ⟨hc,rfl⟩] at h
       subst h
       refine ⟨fun e=>by omega,fun _=>?_,fun e=>by simp at e⟩
       dsimp only
       have:=(i3 rfl).2
       rw [if_pos q] at this
       rw [this,canF,hu,if_pos h0]
   ·rw [if_neg h0,List.foldl_nil] at h
    subst h
    dsimp only
    have f0:f m = 0:=by omega
    by_cases q:m = c
    ·subst q
     have hu:upd f m v m = max 0 v:=by rw [upd,if_pos rfl,f0]
     refine ⟨fun e=>by omega,fun e=>?_,fun e=>⟨(i3 e).1,?_⟩⟩
     ·have hv:v≤0:=by
       have:=i1 (Nat.le_refl _)
       rw [e] at this
       exact of_decide_eq_true this.symm
      rw [i2 e,canF,hu,if_neg (by omega),List.append_nil]
     ·have:=(i3 e).2
      rw [if_neg (by omega),List.append_nil] at this
      have hv:=(i3 e).1
      rw [this,canF,hu,if_pos (by omega),if_pos (by omega),show max 0 v = v by omega]
    ·have hu:upd f c v m = f m:=by rw [upd,if_neg q]
     refine ⟨fun e=>i1 (by omega),fun e=>?_,fun e=>⟨(i3 e).1,?_⟩⟩
     ·rw [i2 e,canF,hu,if_neg h0,List.append_nil]
     ·have:=(i3 e).2
      rw [canF,hu,if_neg h0,List.append_nil,← this]
      by_cases q2:c < m
      ·rw [if_pos q2,if_pos (by omega)]
      ·rw [if_neg q2,if_neg (by omega)]
theorem qt9 {f:Nat→Int} (hf:∀ k,0≤f k) {c n:Nat} (hc:c < n) (v:Int):Kw (canF f n) c v = canF (upd f c v) n:=by
 obtain ⟨_,i2,i3⟩:=qt8 hf c v n _ rfl
 unfold Kw
 dsimp only
 split
 ·rename_i h;exact i2 h
 ·rename_i h
  have:=(i3 (by simpa using h)).2
  rw [if_pos hc] at this
  exact this
abbrev lvF (lv:List Int):Nat→Int:=fun k=>lv.getD k 0
theorem zN1 {lv:List Int} {c:Nat} (hc:c < lv.length) (v:Int):lvF (lv.set c (max lv[c] v)) = upd (lvF lv) c v:=by
 funext k
 unfold lvF upd
 simp only [List.getD_eq_getElem?_getD,List.getElem?_set]
 by_cases e:c = k
 ·subst e
  simp [hc]
 ·rw [if_neg e,if_neg (fun h=>e h.symm)]
theorem zN2 {lv:List Int} (h:∀ x∈lv,0≤x) (k:Nat):0≤lvF lv k:=by
 unfold lvF
 by_cases hk:k < lv.length
 ·rw [qr hk];exact h _ (List.getElem_mem hk)
 ·simp [List.getD,List.getElem?_eq_none (show lv.length≤k by omega)]
theorem zB6 (n:Nat):canF (lvF (List.replicate n 0)) n = []:=qn0 fun k hk=>by
 unfold lvF
 rw [qr (by simpa using hk),List.getElem_replicate];omega
theorem qa7 (s:Sch) (hs:Jc s) (c:Cnd):Spc Tryz.prog wD [schT s,cnT c] [] (vPs (jq s c)) []:=by
 refine qd WW mixm (by simp) fun e _ hst=>qk ?_
 unfold wi
 refine sW ?_
 refine C1.im (jS s hs c) (by rfl) (by rfl) ?_
 simp only [tZ,↓un_u,simprocAttr,bne_iff_ne,bne_eq_false_iff_eq]
 refine ⟨fun h=>?_,fun h=>?_⟩
 ·rw [jq,if_pos h]
  exact .oA [] []
 obtain ⟨hE,k2,k3,k4⟩:=qa3 h
 have hok:=zq hE
 have hnc:=hok.nc
 have hal:=qx1 c 41 (by omega) k2
 have hao:=qW5 c k4
 have hN:jq s c = (atsC c).foldl (qH7 s) []:=by rw [jq,if_neg (by rw [h];simp)];rfl
 rw [hN]
 refine ⟨by omega,?_⟩
 refine C1.im (Zb c 41 (by omega) (by omega) k2) (by rfl) (by rfl) ?_
 generalize atsC c = L at hal hao ⊢
 refine sW ?_
 refine qw mixm (α:=Nat×List Int) [23] (fun y=>y.1≤L.length∧y.2.length = s.cols.length∧(∀ x∈y.2,0≤x)∧canF (lvF y.2) s.cols.length = (L.take y.1).foldl (qH7 s) []) (fun y=>[(23,vI y.1)]) (fun y=>[(4096,.arr 2 [schT s] false),(16396,.arr 1 (y.2.map vI) false)]) (fun y=>L.length - y.1) (0,List.replicate s.cols.length 0) ⟨by simp,by simp,fun x hx=>by rw [(List.mem_replicate.1 hx).2];omega,zB6 _⟩ ?_ fun y hy=>?_
 ·rw [List.map_replicate]
  refine .of [(4096,some 4096),(16396,some 16396)] [] rfl (by first | rfl | (rw [hst];rfl)) ?_ ?_
  all_goals (try simp only [tL,simprocAttr,List.map_append,List.map_cons,List.map_nil,List.cons_append,List.nil_append,Int.toNat_natCast,zH7])
  all_goals (try (repeat' (first | exact zh | (apply zB;intro _;exact ⟨rfl,rfl⟩) | (apply qz;intro _;exact ⟨rfl,rfl⟩) | with_reducible apply qQ | with_reducible refine qD ⟨rfl,rfl⟩ ?_ | exact qR | with_reducible apply qJ | with_reducible refine qW ⟨rfl,rfl,?_⟩ ?_ | with_reducible apply And.intro | exact qK rfl | exact qK (by assumption) | (refine ⟨⟨?_,rfl,?_,rfl,?_⟩,trivial⟩ <;> first | (simp;done) | (apply qz;intro _;exact ⟨rfl,rfl⟩)) | trivial | rfl | (rw [qo (by omega)]) | omega)))
 obtain ⟨i,lv⟩:=y
 obtain ⟨y1,y2,y3,y4⟩:=hy
 dsimp only at y1 y2 y3 y4
 refine sD ?_
 refine ⟨fun h3=>?_,fun h3=>?_⟩
 ·have hi2:i < L.length:=by omega
  have hwi:=qo (i:=i) (by omega)
  obtain ⟨hnd,ha⟩:=hao _ (List.getElem_mem hi2)
  obtain ⟨n1,n2,n3⟩:=qm3 hE hnd ha
  have h59:=Wi (c:=L[i].col) hE
  obtain ⟨_,c1,c2,_⟩:=ZF (s:=s) (c:=L[i].col) (by omega)
  have hstep:(L.take (i + 1)).foldl (qH7 s) [] = Kw ((L.take i).foldl (qH7 s) []) L[i].col (decN s L[i]):=by
   rw [qS hi2,List.foldl_append];rfl
  simp only [tZ,↓un_u,simprocAttr,Int.toNat_natCast,qe hi2,wU]
  refine ⟨by omega,?_⟩
  generalize L[i] = a at hnd ha n1 n2 n3 h59 c1 c2 hstep ⊢
  refine qw mixm (α:=Nat) [8] (fun n=>n≤decN s a) (fun n=>[(8,vI n)]) (fun n=>[(4096,.arr 2 [schT s] false),(16396,.arr 1 (lv.map vI) false),(28680,.arr 6 [cnT a] false)]) (fun n=>decN s a - n) 0 (by omega) ?_ fun n hn=>?_
  ·exact .oA [(4096,some 4096),(16396,some 16396),(28680,some 28680)] []
  have hwn:=qo (i:=n) (by omega)
  refine sW ?_
  refine C1.im (KA s hE a hnd ha n (by omega)) (by rfl) (by rfl) ?_
  simp only [tZ,↓un_u,simprocAttr,Bool.not_eq_true',Bool.not_eq_false',hwn]
  refine ⟨fun h4=>?_,fun h4=>?_⟩
  ·have:n≠decN s a:=fun e=>by rw [e,n2] at h4;cases h4
   refine ⟨n + 1,by omega,by omega,?_⟩
   exact .oA [(4096,some 4096),(16396,some 16396),(28680,some 28680)] []
  ·have:n = decN s a:=by
    refine Nat.le_antisymm hn (Nat.le_of_not_lt fun e=>?_)
    rw [n3 n e] at h4;cases h4
   subst this
   obtain ⟨q,hq⟩:=Int.eq_ofNat_of_zero_le (show 0≤a.col by omega)
   have hq2:q < lv.length:=by omega
   simp only [tZ,↓un_u,simprocAttr,hq,Int.toNat_natCast,qe hq2,qW9,hwi,show ∀ a b:Int,repl (vI a) 0 (vI b) = vI b from fun _ _=>rfl]
   repeat (first | refine ⟨by omega,?_⟩ | refine ⟨by kernel_rfl,?_⟩)
   refine ⟨(i + 1,lv.set q (max lv[q] (decN s a))),⟨by dsimp only;omega,by rw [List.length_set];exact y2,fun x hx=>?_,?_⟩,by dsimp only;omega,?_⟩
   ·rcases List.mem_or_eq_of_mem_set hx with h5 | h5
    ·exact y3 x h5
    ·rw [h5];omega
   ·dsimp only
    rw [hstep,← y4,hq,qt9 (zN2 y3) (by omega),zN1 hq2]
   ·rw [← List.map_set]
    exact .oA [(4096,some 4096),(16396,some 16396)] []
 ·have hil:i = L.length:=by omega
  subst hil
  rw [List.take_length] at y4
  rw [← y4]
  simp only [Int.toNat_natCast]
  refine ⟨y2,?_⟩
  rw [← y2]
  refine qw mixm (α:=Nat) [48,9] (fun i=>i≤lv.length) (fun i=>[(9,.asl 1 (canF (lvF lv) i).length),(48,vI i)]) (fun i=>[(16396,.arr 1 (lv.map vI) false),(1,.arr 2 ((canF (lvF lv) i).map pkT) false)]) (fun i=>lv.length - i) 0 (by omega) ?_ fun j hj=>?_
  ·exact .oA [(16396,some 16396),(1,none)] []
  have hcl:=qx9 (lvF lv) j
  refine sD ?_
  refine ⟨fun h5=>?_,fun h5=>?_⟩
  ·have hj2:j < lv.length:=by omega
   have hwj:=qo (i:=j) (by omega)
   have hg:lvF lv j = lv[j]:=qr hj2
   have hc:canF (lvF lv) (j + 1) = canF (lvF lv) j ++ (if 0 < lv[j] then [⟨(j:Nat),lv[j]⟩] else []):=by rw [canF,hg]
   simp only [tZ,↓un_u,simprocAttr,Int.toNat_natCast,qe hj2,hwj,gt_iff_lt,tD]
   refine ⟨by omega,by omega,fun h6=>?_,fun h6=>?_⟩
   ·rw [if_pos h6] at hc
    refine ⟨by omega,j + 1,by omega,by omega,?_⟩
    rw [hc,List.map_append,List.length_append]
    exact .oA [(16396,some 16396),(1,some 1)] []
   ·rw [if_neg h6,List.append_nil] at hc
    refine ⟨j + 1,by omega,by omega,?_⟩
    rw [hc]
    exact .oA [(16396,some 16396),(1,some 1)] []
  ·rw [show lv.length = j by omega]
   exact .oA [] [1]
theorem Jf (p n:Pk):Spc Tryz.prog zC [pkT p,.ip (pkT n).cells] [] (vB ((p.col == n.col) && decide (p.lev≥n.lev))) []:=by
 refine qd Zy mixm (by simp) fun e _ hst=>qk ?_
 unfold jn
 refine sW ?_
 exact .oA [] []
theorem wv (p:Pk→Bool) (f:FuncId) (caps:List T) (hcap:imL caps = true) (l:List Pk) (hf:∀ y∈l,Spc Tryz.prog f (pkT y :: caps) [] (vB (p y)) []) (hl:l.length < 4611686018427387904) :
 Spc Tryz.prog zm [.sl 2 (l.map pkT),.clo f caps] [] (vI (idxI p l)) []:=by
 refine qd QU mixm (by simp) fun e _ hst=>qk ?_
 unfold jb
 refine sW ?_
 refine qw mixm (α:=Nat) [8] (fun i=>i≤l.length∧((l.take i).any p = false)) (fun i=>[(8,vI i)]) (fun i=>[]) (fun i=>l.length - i) 0 ⟨by omega,?_⟩ ?_ fun i hi=>?_
 ·simp
 ·exact .oA [] []
 simp only [tZ,↓un_u,simprocAttr,decide_eq_true_eq,decide_eq_false_iff_not]
 refine ⟨fun h=>?_,fun h=>?_⟩
 ·have hi2:i < l.length:=by omega
  have hwi:=qo (i:=i) (by omega)
  simp only [tZ,↓un_u,simprocAttr,Int.toNat_natCast,qe hi2,hwi,KS]
  refine ⟨by omega,?_⟩
  refine C1.im (hf l[i] (List.getElem_mem hi2)) (Ju rfl hcap) rfl ?_
  refine sW ?_
  refine ⟨fun h3=>?_,fun h3=>⟨i + 1,⟨by omega,wY hi2 hi.2 h3⟩,by omega,?_⟩⟩
  ·rw [idxI,if_pos (WF hi2 h3),wA hi2 hi.2 h3]
   exact .imR rfl rfl
  ·exact .oA [] []
 ·have h2:i = l.length:=by omega
  have h3:=hi.2
  rw [h2,List.take_length] at h3
  rw [idxI,if_neg (by rw [h3];simp)]
  exact .imR rfl rfl
theorem zI (p:Pk→Bool) (f:FuncId) (caps:List T) (hcap:imL caps = true) (l:List Pk) (hf:∀ y∈l,Spc Tryz.prog f (pkT y :: caps) [] (vB (p y)) []) (hl:l.length < 4611686018427387904) :
 Spc Tryz.prog qT [.sl 2 (l.map pkT),.clo f caps] [] (vB (l.any p)) []:=by
 refine qd Qd mixm (by simp) fun e _ hst=>qk ?_
 unfold zy
 refine sW ?_
 refine C1.im (wv p f caps hcap l hf hl) (WG rfl hcap) rfl ?_
 refine sW ?_
 rw [show decide (idxI p l≥0) = l.any p from KT p l]
 exact .imR rfl rfl
theorem KB (n:Pk) (a:List Pk) (ha:a.length < 4611686018427387904):Spc Tryz.prog zS [pkT n,.ip [vPs a]] [] (vB (!(a.any fun y=>(y.col == n.col) && decide (y.lev≥n.lev)))) []:=by
 refine qd Jz mixm (by simp) fun e _ hst=>qk ?_
 unfold jG
 refine sW ?_
 have hCF:=zI (fun y=>(y.col == n.col) && decide (y.lev≥n.lev)) zC [.ip (pkT n).cells] rfl a (fun y _=>Jf y n) ha
 refine C1.lend [4096] hCF ?_ (by rfl) (by rfl) ?_
 ·all_goals (try simp only [tL,simprocAttr,List.map_append,List.map_cons,List.map_nil,List.cons_append,List.nil_append])
  all_goals (try (repeat' (first | exact zh | (apply zB;intro _;exact ⟨rfl,rfl⟩) | (apply qz;intro _;exact ⟨rfl,rfl⟩) | with_reducible apply qQ | with_reducible refine qD ⟨rfl,rfl⟩ ?_ | exact qR | with_reducible apply qJ | with_reducible refine qW ⟨rfl,rfl,?_⟩ ?_ | with_reducible apply And.intro | exact qK rfl | exact qK (by assumption) | (refine ⟨⟨?_,rfl,?_,rfl,?_⟩,trivial⟩ <;> first | (simp;done) | (apply qz;intro _;exact ⟨rfl,rfl⟩)) | trivial | rfl | (rw [qo (by omega)]) | omega)))
  simp only [ltP]
  exact ⟨rfl,by decide,rfl,qD ⟨rfl,rfl⟩ qR⟩
 refine sW ?_
 exact .oA [] []
theorem Yt (a b:List Pk) (ha:a.length < 4611686018427387904) (hb:b.length < 4611686018427387904):Spc Tryz.prog kP [vPs a,vPs b] [] (vB (covB b a)) []:=by
 refine qd KZ mixm (by simp) fun e _ hst=>qk ?_
 unfold kC
 refine sW ?_
 have hCF:=zI (fun n=>!(a.any fun y=>(y.col == n.col) && decide (y.lev≥n.lev))) zS [.ip [vPs a]] rfl b (fun n _=>KB n a ha) hb
 refine C1.lend [4096] hCF ?_ (by rfl) (by rfl) ?_
 ·all_goals (try simp only [tL,simprocAttr,List.map_append,List.map_cons,List.map_nil,List.cons_append,List.nil_append])
  all_goals (try (repeat' (first | exact zh | (apply zB;intro _;exact ⟨rfl,rfl⟩) | (apply qz;intro _;exact ⟨rfl,rfl⟩) | with_reducible apply qQ | with_reducible refine qD ⟨rfl,rfl⟩ ?_ | exact qR | with_reducible apply qJ | with_reducible refine qW ⟨rfl,rfl,?_⟩ ?_ | with_reducible apply And.intro | exact qK rfl | exact qK (by assumption) | (refine ⟨⟨?_,rfl,?_,rfl,?_⟩,trivial⟩ <;> first | (simp;done) | (apply qz;intro _;exact ⟨rfl,rfl⟩)) | trivial | rfl | (rw [qo (by omega)]) | omega)))
  simp only [ltP]
  exact ⟨rfl,by decide,rfl,qD ⟨rfl,rfl⟩ qR⟩
 refine sW ?_
 rw [show (!(b.any fun n=>!(a.any fun y=>(y.col == n.col) && decide (y.lev≥n.lev)))) = covB b a by rw [covB,List.not_any_eq_all_not];simp]
 exact .oA [] []
end Go.Proofs
namespace Go.Proofs
open Go Go.TL
def ordB (l:List (List Int)):Bool:=(List.range l.length).all fun i=>decide (0 < (l.getD i []).length) && (decide (i = 0) || decide (hd (l.getD (i - 1) []) < hd (l.getD i [])))
def hasK (l:List (List Int)) (k:Int):Bool:=l.any fun r=>hd r == k
def appR (a:List (List Int)) (g:List Int) (rs:List (List Int)):List (List Int):=rs.foldl putR (a.filter fun r=>!g.contains (hd r))
def ascI (l:List Int):Bool:=(List.range l.length).all fun i=>asc2 l i
def appE (a:Ext) (c:Chg):Int:=
 if ordB a.rows = false∨ordB c.rows = false∨ascI c.gone = false∨(c.rows.any fun r=>decide (r.length≠a.picks.length + 1)) = true then 11
 else if (c.gone.any fun k=>!hasK a.rows k) = true then 21 else if (c.gone.any fun k=>hasK c.rows k) = true then 10 else 0
structure ExtOk (x:Ext):Prop where
 ord:ordB x.rows = true
 len:∀ r∈x.rows,r.length = x.picks.length + 1
end Go.Proofs
namespace Go.Proofs
open Go Go.TL
set_option maxRecDepth 4000
set_option maxHeartbeats 8000000
open So
def RwSm (l:List (List Int)):Prop:=l.length≤1000000∧∀ r∈l,r.length * 8≤140737488355328
structure ExtSm (x:Ext):Prop where
 rows:RwSm x.rows
 picks:x.picks.length * 16≤140737488355328
structure ChgSm (c:Chg):Prop where
 rows:RwSm c.rows
 gone:c.gone.length≤1000000
end Go.Proofs
namespace Go.Proofs
open Go Go.TL
set_option maxHeartbeats 8000000
open So
def idxN (n:Int):List Int→Nat
 | []=>0
 | x :: r=>if x = n then 0 else idxN n r + 1
theorem zs3 {n:Int}:∀ {l:List Int} {i:Nat} (h:i < l.length),n∉l.take i→l[i] = n→idxN n l = i
 | [],i,h,_,_=>by simp at h
 | x :: r,0,h,_,hp=>by simp at hp;simp [idxN,hp]
 | x :: r,i + 1,h,h1,hp=>by
   simp only [List.take_succ_cons,List.mem_cons,not_or] at h1
   simp only [idxN]
   rw [if_neg (fun e=>h1.1 e.symm),zs3 (l:=r) (i:=i) (by simpa using h) h1.2 (by simpa using hp)]
def qX1 (l:List Int) (n:Int):Int:=if n∈l then idxN n l else -1
theorem Yu (l:List Int) (n:Int) (hl:l.length < 4611686018427387904):Spc Tryz.prog kT [vIs l,vI n] [] (vI (qX1 l n)) []:=by
 refine qd Wd mixm (by simp) fun e _ hst=>qk ?_
 unfold kD
 refine sW ?_
 refine qw mixm (α:=Nat) [8] (fun i=>i≤l.length∧(n∉l.take i)) (fun i=>[(8,vI i)]) (fun i=>[]) (fun i=>l.length - i) 0 ⟨by omega,?_⟩ ?_ fun i hi=>?_
 ·simp
 ·exact .oA [] []
 simp only [tZ,↓un_u,simprocAttr,decide_eq_true_eq,decide_eq_false_iff_not]
 refine ⟨fun h=>?_,fun h=>?_⟩
 ·have hi2:i < l.length:=by omega
  have hwi:=qo (i:=i) (by omega)
  simp only [tZ,↓un_u,simprocAttr,Int.toNat_natCast,qe hi2,hwi,beq_iff_eq,beq_eq_false_iff_ne]
  refine ⟨by omega,fun h3=>?_,fun h3=>⟨i + 1,⟨by omega,?_⟩,by omega,?_⟩⟩
  ·have hm:n∈l:=by rw [h3];exact List.getElem_mem hi2
   rw [qX1,if_pos hm,zs3 hi2 hi.2 h3.symm]
   exact .imR rfl rfl
  ·rw [qS hi2,List.mem_append]
   rintro (h4 | h4)
   ·exact hi.2 h4
   ·simp at h4;exact h3 h4
  ·exact .oA [] []
 ·have h2:i = l.length:=by omega
  have h3:=hi.2
  rw [h2,List.take_length] at h3
  rw [qX1,if_neg h3]
  exact .imR rfl rfl
theorem yh (l:List Int) (n:Int) (hl:l.length < 4611686018427387904):Spc Tryz.prog zM [vIs l,vI n] [] (vB (l.contains n)) []:=by
 refine qd ZX mixm (by simp) fun e _ hst=>qk ?_
 unfold jx
 refine sW ?_
 refine C1.im (Yu l n hl) rfl (by rfl) ?_
 refine sW ?_
 refine .imR ?_ rfl
 unfold qX1
 by_cases h:n∈l
 ·rw [if_pos h,List.contains_iff_mem.2 h];simp
 ·rw [if_neg h]
  cases hc:l.contains n
  ·simp
  ·exact absurd (List.contains_iff_mem.1 hc) h
end Go.Proofs
