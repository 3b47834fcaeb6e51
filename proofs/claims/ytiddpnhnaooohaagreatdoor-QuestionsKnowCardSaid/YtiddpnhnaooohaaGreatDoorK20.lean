/- A part of the proof: trees of Go values, short forms, contracts. -/
import Derived.WalkKit
import Derived.Still
import Derived.MapKept
import GoSem.Builtin.Cap
import Derived.Laws.Externs
import GoSem.Extern.SlicesOverlaps
import Derived.Carry
import Derived.ProofKit
import Derived.OpenShut
import Derived.HandedShaped
import Derived.Lay
import Derived.LaidLaws
import Derived.MakeChecks
import Derived.SevenTiedAt
import Derived.Test.YtiddpnhnaooohaaGreatDoorChecked
import Derived.Test.YtiddpnhnaooohaaGreatDoorK19
set_option linter.unusedSimpArgs false
set_option linter.unusedVariables false
namespace Go.Proofs
open Go Go.TL
set_option maxRecDepth 4000
set_option maxHeartbeats 8000000
theorem zp3 {n w:Int} (hw:0 < w):qA n w * w = n - (if n.tmod w < 0 then n.tmod w + w else n.tmod w):=by
 have h1:=Int.mul_tdiv_add_tmod n w
 rw [Int.mul_comm] at h1
 rw [zz2 hw]
 split
 ·rw [Int.sub_mul];omega
 ·omega
theorem Zf (n w:Int) (hw:0 < w∧w≤1000000) (hn : -4611686018427387904 < n∧n < 4611686018427387904):Spc Tryz.prog kF [vI n,vI w] [] (vI (qA n w * w)) []:=by
 rw [zp3 hw.1]
 have h2:=Int.tmod_lt_of_pos n hw.1
 have h3:=Int.lt_tmod_of_pos n hw.1
 have w1:IntKind.i64.wrap (n.tmod w) = n.tmod w:=IntWalk.i64_in _ (by omega)
 have w2:IntKind.i64.wrap (n.tmod w + w) = n.tmod w + w:=IntWalk.i64_in _ (by omega)
 have w3:IntKind.i64.wrap (n - n.tmod w) = n - n.tmod w:=IntWalk.i64_in _ (by omega)
 have w4:IntKind.i64.wrap (n - (n.tmod w + w)) = n - (n.tmod w + w):=IntWalk.i64_in _ (by omega)
 refine qd qL8 mixm (by simp) fun e _ hst=>qj ?_
 unfold JI
 simp only [tZ,↓un_u,simprocAttr,w1,w2,w3,w4,tD]
 refine ⟨by omega,fun h=>?_,fun h=>?_⟩
 ·rw [if_pos h]
  exact .oA [] []
 ·rw [if_neg h]
  exact .oA [] []
theorem JS (c:Col) (lev:Int) (h1:1≤lev∧lev≤c.widths.length) (h2:c.widths.length < 4611686018427387904):Spc Tryz.prog kZ [colT c,vI lev] [] (vI (qE c lev)) []:=by
 have hw:IntKind.i64.wrap ((c.widths.length:Int) - lev) = (c.widths.length:Int) - lev:=IntWalk.i64_in _ (by omega)
 have hk:((c.widths.length:Int) - lev).toNat < c.widths.length:=by omega
 refine qd qD7 mixm (by simp) fun e _ hst=>qj ?_
 unfold ZH
 simp only [tZ,↓un_u,simprocAttr,hw,qe hk]
 rw [qE,qh hk]
 refine ⟨by omega,?_⟩
 exact .oA [] []
theorem Ys (s:Sch) (hE:schE s = 0) (c:Int):Spc Tryz.prog wY [schT s,vI c] [] (vI (finI s c)) []:=by
 have hok:=qJ hE
 have hnc:=hok.nc
 refine qd qv1 mixm (by simp) fun e _ hst=>qj ?_
 unfold QF
 refine sD ?_
 refine ⟨fun h=>?_,fun h=>?_⟩
 ·rw [finI,if_pos (by omega)]
  exact .oA [] []
 obtain ⟨i,rfl⟩:=Int.eq_ofNat_of_zero_le (show 0≤c by omega)
 have hi:i < s.cols.length:=by omega
 have hat:qg s i = s.cols[i]:=by rw [qg,qh hi]
 have hk:=qU (hok.cs i hi)
 have hcd:=fun e=>hok.cdl hi e
 have hcl:qG s i = s.lists.getD s.cols[i].list.toNat default:=by rw [qG,hat]
 rw [hat] at hk hcd
 rw [hcl] at hcd
 rw [finI,if_neg (by omega),Int.toNat_natCast,hcl,hat]
 simp only [tZ,↓un_u,simprocAttr,Int.toNat_natCast,qe hi]
 generalize s.cols[i] = x at hk hcd ⊢
 simp only [tZ,↓un_u,simprocAttr,beq_iff_eq,beq_eq_false_iff_ne]
 refine ⟨by omega,fun h2=>?_,fun h2=>?_⟩
 ·obtain ⟨d1,d2⟩:=hcd h2
  obtain ⟨d3,d4⟩:=hk.2.2.2.1 h2
  have hgl:s.lists.getD x.list.toNat default = s.lists[x.list.toNat]:=qh d1
  rw [if_pos h2]
  rw [hgl] at d2 ⊢
  simp only [tZ,↓un_u,simprocAttr,qe d1]
  generalize s.lists[x.list.toNat] = l at d2 ⊢
  have hlv:=qe0 (l:=l)
  have hw2:IntKind.i64.wrap (zk l - 1) = zk l - 1:=IntWalk.i64_in _ (by omega)
  refine ⟨by omega,?_⟩
  refine C1.im (JR l) (by rfl) (by rfl) ?_
  simp only [tZ,↓un_u,simprocAttr,hw2]
  exact .oA [] []
 ·rw [if_neg h2]
  exact .oA [] []
theorem yx (s:Sch) (hs:Qp s) (c:Int):Spc Tryz.prog jp [schT s,vI c] [] (vI (finI s c)) []:=by
 refine qd qu3 mixm (by simp) fun e _ hst=>qj ?_
 unfold QB
 refine sW ?_
 refine C1.im (wi s hs.2.1 hs.1) (by rfl) (by rfl) ?_
 simp only [tZ,↓un_u,simprocAttr,bne_iff_ne,bne_eq_false_iff_eq]
 refine ⟨fun h=>?_,fun h=>?_⟩
 ·rw [finI,if_pos (.inl h)]
  exact .oA [] []
 refine C1.im (Ys s h c) (by rfl) (by rfl) ?_
 refine sW ?_
 exact .oA [] []
theorem qF4 (s:Sch) (hs:Qp s) (c lev v:Int):Spc Tryz.prog wV [schT s,vI c,vI lev,vI v] [] (vI (qr s c lev v)) []:=by
 refine qd qu7 mixm (by simp) fun e _ hst=>qj ?_
 unfold QD
 refine sW ?_
 refine C1.im (yx s hs c) (by rfl) (by rfl) ?_
 refine sD ?_
 refine ⟨fun h=>?_,fun h=>?_⟩
 ·rw [qr,if_pos (qk9.2 (by omega))]
  exact .oA [] []
 obtain ⟨hE,c1,c2,hfin⟩:=kV (s:=s) (c:=c) (by omega)
 have hok:=qJ hE
 obtain ⟨i,rfl⟩:=Int.eq_ofNat_of_zero_le (show 0≤c by omega)
 rw [Int.toNat_natCast] at hfin
 have hi:i < s.cols.length:=by omega
 have hat:qg s i = s.cols[i]:=by rw [qg,qh hi]
 have hk:=qU (hok.cs i hi)
 have hcd:=fun e=>hok.cdl hi e
 have hwd:=fun e l=>hok.wid hi (by omega) e (lev:=l)
 have hcl:qG s i = s.lists.getD s.cols[i].list.toNat default:=by rw [qG,hat]
 have hE2:qr s i lev v = if s.cols[i].kind = 2 then (if zd s i v = false then -1 else upC (qG s i) v lev)
  else if v≠qY∧inB v (-1000000) 1000000 = false then -1
  else if lev = 0 then 0 else if v = qY then v else qA v (qE s.cols[i] lev) * qE s.cols[i] lev:=by
  rw [qr,if_neg (by rw [Bool.not_eq_false,jA];omega),Int.toNat_natCast,hat]
 rw [hE2]
 rw [hat] at hk hcd hwd hfin
 rw [hcl] at hcd ⊢
 simp only [tZ,↓un_u,simprocAttr,Int.toNat_natCast,qe hi]
 have hho:=qX1 s hok i hi v
 generalize s.cols[i] = x at hk hcd hwd hfin hho ⊢
 refine ⟨by omega,?_⟩
 refine C2.im (fun _=>hho) (fun _=>rfl) (by rfl) ?_
 simp only [tZ,↓un_u,simprocAttr,tD,bne_iff_ne,bne_eq_false_iff_eq,Bool.not_eq_true',Bool.not_eq_false',beq_iff_eq,beq_eq_false_iff_ne]
 rw [show (-1099511627776:Int) = qY from rfl]
 refine ⟨fun h3=>?_,fun h3=>⟨fun h2=>?_,fun h2=>?_⟩⟩
 ·rw [if_pos h3.1,if_pos h3.2]
  exact .oA [] []
 ·rw [if_pos h2]
  obtain ⟨d1,d2⟩:=hcd h2
  obtain ⟨d3,d4⟩:=hk.2.2.2.1 h2
  have hgl:s.lists.getD x.list.toNat default = s.lists[x.list.toNat]:=qh d1
  rw [hgl] at d2 ⊢
  rw [if_neg (by grind)]
  simp only [tZ,↓un_u,simprocAttr,qe d1]
  generalize s.lists[x.list.toNat] = l at d2 ⊢
  refine ⟨by omega,?_⟩
  refine C1.im (YK l v lev) (by rfl) (by rfl) ?_
  refine sW ?_
  exact .oA [] []
 rw [if_neg h2]
 rw [if_neg h2] at hfin
 refine ⟨fun h3=>?_,fun h3=>?_⟩
 ·rw [if_pos ⟨by omega,qk9.2 (by omega)⟩]
  exact .oA [] []
 rw [if_neg (by rw [qk9];omega)]
 refine ⟨fun h4=>?_,fun h4=>?_⟩
 ·rw [if_pos h4]
  exact .oA [] []
 rw [if_neg h4]
 refine ⟨fun h5=>?_,fun h5=>?_⟩
 ·rw [if_pos h5,h5]
  exact .oA [] []
 rw [if_neg h5]
 obtain ⟨w1,w2,w3,w4,_⟩:=hwd h2 lev (by omega)
 refine C1.im (JS x lev (by omega) (by omega)) (by rfl) (by rfl) ?_
 refine sW ?_
 refine C1.im (Zf v (qE x lev) (by omega) (by omega)) (by rfl) (by rfl) ?_
 refine sW ?_
 exact .oA [] []
theorem ql8 (s:Sch) (hE:schE s = 0) (p:Pk):Spc Tryz.prog QU [schT s,pkT p] [] (vI (wJ s p)) []:=by
 have hP:wJ s p = if finI s p.col < 0 then 7 else if inB p.lev 0 (finI s p.col) = false then 8 else 0:=by
  rw [wJ,if_neg (by rw [hE];simp)]
  by_cases h:p.col < 1∨p.col≥s.cols.length
  ·rw [if_pos h,if_pos (by rw [finI,if_pos (by omega)];omega)]
  ·rw [if_neg h]
   have:0≤finI s p.col:=by
    rw [finI,if_neg (by omega)]
    split
    ·rename_i h2
     have hok:=qJ hE
     obtain ⟨_,d2⟩:=hok.cdl (i:=p.col.toNat) (by omega) h2
     rw [zk,if_neg (by rw [d2];simp)]
     omega
    ·omega
   rw [if_neg (show ¬ finI s p.col < 0 by omega)]
 rw [hP]
 refine qd qJ8 mixm (by simp) fun e _ hst=>qj ?_
 unfold Jy
 refine sW ?_
 refine C1.im (Ys s hE p.col) (by rfl) (by rfl) ?_
 refine sD ?_
 refine ⟨fun h=>?_,fun h=>⟨fun h2=>?_,fun h2=>?_⟩⟩
 ·rw [if_pos h]
  exact .oA [] []
 ·rw [if_neg h,if_pos (qk9.2 (by omega))]
  exact .oA [] []
 ·rw [if_neg h,if_neg (by rw [qk9];omega)]
  exact .oA [] []
theorem qX4 (s:Sch) (hs:Qp s) (p:Pk):Spc Tryz.prog KC [schT s,pkT p] [] (vI (wJ s p)) []:=by
 refine qd qL2 mixm (by simp) fun e _ hst=>qj ?_
 unfold JF
 refine sW ?_
 refine C1.im (wi s hs.2.1 hs.1) (by rfl) (by rfl) ?_
 simp only [tZ,↓un_u,simprocAttr,bne_iff_ne,bne_eq_false_iff_eq]
 refine ⟨fun h=>?_,fun h=>?_⟩
 ·rw [wJ,if_pos h]
  exact .oA [] []
 refine C1.im (ql8 s h p) (by rfl) (by rfl) ?_
 refine sW ?_
 exact .oA [] []
theorem qM5 (s:Sch) (hs:Qp s) (l:List Pk) (hl:l.length < 4611686018427387904):Spc Tryz.prog Jj [schT s,vPs l] [] (vI (Qq s l)) []:=by
 refine qd qC5 mixm (by simp) fun e _ hst=>qj ?_
 unfold Zz
 refine sW ?_
 refine C1.im (wi s hs.2.1 hs.1) (by rfl) (by rfl) ?_
 simp only [tZ,↓un_u,simprocAttr,bne_iff_ne,bne_eq_false_iff_eq]
 refine ⟨fun h=>?_,fun hE=>?_⟩
 ·rw [Qq,if_pos h]
  exact .oA [] []
 rw [Qq,if_neg (by rw [hE];simp)]
 refine qw mixm (α:=Nat) [16] (fun i=>i≤l.length∧(jz (qk7 s l) i = 0)) (fun i=>[(16,vI i)]) (fun i=>[(4096,.arr 2 [schT s] false)]) (fun i=>l.length - i) 0 ⟨by omega,?_⟩ ?_ fun i hi=>?_
 ·rfl
 ·exact .oA [(4096,some 4096)] []
 simp only [tZ,↓un_u,simprocAttr,decide_eq_true_eq,decide_eq_false_iff_not]
 refine ⟨fun h=>?_,fun h=>?_⟩
 ·have hi2:i < l.length:=by omega
  have hpi:pkAt l i = l[i]:=by rw [pkAt,qh hi2]
  have hstep:=YH hi.2 hi2
  have hnext:=yW hi.2
  have hA:qk7 s l i = if wJ s l[i]≠0 then wJ s l[i] else if 0 < i∧l[i].col≤(pkAt l (i - 1)).col then 10 else 0:=by rw [qk7,hpi]
  have hi2:i < l.length:=by omega
  have hwi:=qk (i:=i) (by omega)
  simp only [tZ,↓un_u,simprocAttr,Int.toNat_natCast,qe hi2,hwi]
  refine ⟨by omega,?_⟩
  refine C1.im (ql8 s hE l[i]) (by rfl) (by rfl) ?_
  simp only [tZ,↓un_u,simprocAttr,bne_iff_ne,bne_eq_false_iff_eq]
  refine ⟨fun h3=>?_,fun h3=>?_⟩
  ·rw [if_pos h3] at hA
   rw [hstep (by rw [hA];exact h3),hA]
   exact .oA [] []
  rw [if_neg (by rw [h3];simp)] at hA
  rcases Nat.eq_zero_or_pos i with h0 | h0
  ·subst h0
   rw [if_neg (by omega)] at hA
   have hz:((0:Nat):Int) = 0:=rfl
   have hz2:(IntKind.i64.wrap (-1)).toNat = 0:=by decide
   have hz3:=qk (i:=0) (by omega)
   rw [hz] at hz3
   simp only [tZ,↓un_u,simprocAttr,Int.toNat_natCast,hz,beq_self_eq_true,gt_iff_lt,Int.lt_irrefl,Bool.true_and,hz2,qe hi2,hz3]
   refine ⟨by kernel_rfl,1,⟨by omega,by rw [hnext,hA]⟩,by omega,?_⟩
   exact .oA [(4096,some 4096)] []
  ·obtain ⟨k,rfl⟩:∃ k,i = k + 1:=⟨i - 1,by omega⟩
   have hk3:k < l.length:=by omega
   have e2:decide (((k + 1:Nat):Int) > 0) = true:=decide_eq_true (by omega)
   have e3:=ZZ (i:=k + 1) (by omega) (by omega)
   rw [Nat.add_sub_cancel] at e3 hA
   rw [pkAt,qh hk3] at hA
   simp only [tZ,↓un_u,simprocAttr,Int.toNat_natCast,qe hi2,qe hk3,e2,e3,hwi,tD]
   refine ⟨by omega,by kernel_rfl,fun h4=>?_,fun h4=>?_⟩
   ·rw [if_pos ⟨by omega,h4⟩] at hA
    rw [hstep (by rw [hA];simp),hA]
    exact .oA [] []
   ·rw [if_neg (by omega)] at hA
    refine ⟨k + 2,⟨by omega,by rw [hnext,hA]⟩,by omega,?_⟩
    exact .oA [(4096,some 4096)] []
 ·have hi2:i = l.length:=by omega
  subst hi2
  rw [hi.2]
  exact .oA [] []
def qr0 (c:Col) (lev v:Int):Int×Int×Bool:=
 if lev = 0 then (c.low,c.high,v == 0) else if v < -2000000∨v > 1000000 then (0,0,false)
 else (max v c.low,min (v + qE c lev - 1) c.high,(qA v (qE c lev) * qE c lev == v) && decide (max v c.low≤min (v + qE c lev - 1) c.high))
theorem qQ9 (a b:Int):maxI a b = max a b:=by unfold maxI;split <;> omega
theorem zA5 (a b:Int):minI a b = min a b:=by unfold minI;split <;> omega
theorem qX5 (c:Col) (lev v:Int) (hl:lev = 0∨(1≤lev∧lev≤c.widths.length∧c.widths.length≤4∧1≤qE c lev∧qE c lev≤1000000)):Spc Tryz.prog KD [colT c,vI lev,vI v] [] (.tup [vI (qr0 c lev v).1,vI (qr0 c lev v).2.1,vB (qr0 c lev v).2.2]) []:=by
 refine qd qL4 mixm (by simp) fun e _ hst=>qj ?_
 unfold JG
 simp only [tZ,↓un_u,simprocAttr,tD,beq_iff_eq,beq_eq_false_iff_ne]
 refine ⟨fun h=>?_,fun h=>⟨fun h2=>?_,fun h2=>?_⟩⟩
 ·rw [qr0,if_pos h]
  dsimp only
  repeat (first | refine ⟨by omega,?_⟩ | refine ⟨by kernel_rfl,?_⟩)
  exact .oA [] []
 ·rw [qr0,if_neg h,if_pos h2]
  dsimp only
  exact .oA [] []
 obtain ⟨l1,l2,l3,l4,l5⟩:1≤lev∧lev≤c.widths.length∧c.widths.length≤4∧1≤qE c lev∧qE c lev≤1000000:=by rcases hl with e | e;exact absurd e h;exact e
 rw [qr0,if_neg h,if_neg (by omega)]
 refine C1.im (JS c lev ⟨l1,l2⟩ (by omega)) (by rfl) (by rfl) ?_
 have w1:IntKind.i64.wrap (v + qE c lev) = v + qE c lev:=IntWalk.i64_in _ (by omega)
 have w2:IntKind.i64.wrap (v + qE c lev - 1) = v + qE c lev - 1:=IntWalk.i64_in _ (by omega)
 simp only [tZ,↓un_u,simprocAttr,w1,w2,qQ9,zA5]
 repeat (first | refine ⟨by omega,?_⟩ | refine ⟨by kernel_rfl,?_⟩)
 refine C1.im (Zf v (qE c lev) (by omega) (by omega)) (by rfl) (by rfl) ?_
 refine sW ?_
 exact .oA [] []
def qX6 (s:Sch) (i:Nat) (lev v:Int):Int×Bool:=
 if (qg s i).kind = 3 then (if 0 < lev∧v = qY then (v,(qg s i).opt) else ((qr0 (qg s i) lev v).1,(qr0 (qg s i) lev v).2.2))
 else ((qD s i).find? fun l=>upC (qG s i) l lev == v).elim (0,false) fun l=>(l,true)
theorem qX7 (s:Sch) (hE:schE s = 0) (i:Nat) (hi:i < s.cols.length) (h0:0 < i) (lev v:Int) (hl:0≤lev∧lev≤finI s i):Spc Tryz.prog KA [schT s,vI i,vI lev,vI v] [] (.tup [vI (qX6 s i lev v).1,vB (qX6 s i lev v).2]) []:=by
 have hok:=qJ hE
 obtain ⟨_,c1,c2,hfin⟩:=kV (s:=s) (c:=i) (by omega)
 rw [Int.toNat_natCast] at hfin
 have hat:qg s i = s.cols[i]:=by rw [qg,qh hi]
 have hk:=qU (hok.cs i hi)
 have hcd:=fun e=>hok.cdl hi e
 have hwd:=fun e l=>hok.wid hi (by omega) e (lev:=l)
 have hll:=Zj hok hi
 have hcl:qG s i = s.lists.getD s.cols[i].list.toNat default:=by rw [qG,hat]
 have hE2:qX6 s i lev v = if s.cols[i].kind = 3 then (if 0 < lev∧v = qY then (v,s.cols[i].opt) else ((qr0 s.cols[i] lev v).1,(qr0 s.cols[i] lev v).2.2))
  else ((qD s i).find? fun l=>upC (qG s i) l lev == v).elim (0,false) fun l=>(l,true):=by rw [qX6,hat]
 have hlv:qD s i = atL (qG s i) (zk (qG s i) - 1):=rfl
 rw [hE2]
 rw [hat] at hk hcd hwd hfin hll
 rw [hlv] at hll ⊢
 rw [hcl] at hcd hll ⊢
 refine qd qJ0 mixm (by simp) fun e _ hst=>qj ?_
 unfold Ju
 simp only [tZ,↓un_u,simprocAttr,Int.toNat_natCast,qe hi]
 generalize s.cols[i] = x at hk hcd hwd hfin hll ⊢
 have h1:=hk.2.2.1 h0
 simp only [tZ,↓un_u,simprocAttr,tD,beq_iff_eq,beq_eq_false_iff_ne]
 rw [show (-1099511627776:Int) = qY from rfl]
 refine ⟨by omega,fun h3=>⟨fun h4=>?_,fun h4=>?_⟩,fun h3=>?_⟩
 ·rw [if_pos h3,if_pos h4]
  dsimp only
  repeat (first | refine ⟨by omega,?_⟩ | refine ⟨by kernel_rfl,?_⟩)
  exact .oA [] []
 ·rw [if_pos h3,if_neg (by grind)]
  rw [if_neg (by omega)] at hfin
  refine C1.im (qX5 x lev v (by
   by_cases e:lev = 0
   ·exact .inl e
   ·have:=hwd (by omega) lev (by omega)
    exact .inr (by omega))) (by rfl) (by rfl) ?_
  refine sW ?_
  exact .oA [] []
 have h2:x.kind = 2:=by omega
 obtain ⟨d1,d2⟩:=hcd h2
 obtain ⟨d3,d4⟩:=hk.2.2.2.1 h2
 have hll:=hll h2
 have hgl:s.lists.getD x.list.toNat default = s.lists[x.list.toNat]:=qh d1
 rw [hgl] at d2 hll ⊢
 rw [if_neg h3]
 simp only [tZ,↓un_u,simprocAttr,qe d1]
 generalize s.lists[x.list.toNat] = l at d2 hll ⊢
 have hlv:=qe0 (l:=l)
 have hw2:IntKind.i64.wrap (zk l - 1) = zk l - 1:=IntWalk.i64_in _ (by omega)
 refine ⟨by omega,?_⟩
 refine C1.im (JR l) (by rfl) (by rfl) ?_
 simp only [tZ,↓un_u,simprocAttr,hw2]
 refine C1.im (qq9 l (zk l - 1)) (by rfl) (by rfl) ?_
 refine sW ?_
 repeat (first | refine ⟨by omega,?_⟩ | refine ⟨by kernel_rfl,?_⟩)
 generalize atL l (zk l - 1) = L at hll ⊢
 refine qw mixm (α:=Nat) [56] (fun j=>j≤L.length∧((L.take j).find? (fun y=>upC l y lev == v) = none)) (fun j=>[(56,vI j)]) (fun j=>[(32792,.arr 2 [cdlT l] false)]) (fun j=>L.length - j) 0 ⟨by omega,?_⟩ ?_ fun j hj=>?_
 ·rfl
 ·exact .oA [(32792,some 32792)] []
 simp only [tZ,↓un_u,simprocAttr,decide_eq_true_eq,decide_eq_false_iff_not]
 refine ⟨fun h=>?_,fun h=>?_⟩
 ·have hi2:j < L.length:=by omega
  have hf:L.find? (fun y=>upC l y lev == v) = if upC l L[j] lev == v then some L[j] else (L.drop (j + 1)).find? (fun y=>upC l y lev == v):=by
   conv=>lhs;rw [← List.take_append_drop j L,List.find?_append,hj.2,List.drop_eq_getElem_cons hi2,List.find?_cons]
   cases upC l L[j] lev == v <;> simp
  have hj2:j < L.length:=by omega
  have hwj:=qk (i:=j) (by omega)
  simp only [tZ,↓un_u,simprocAttr,Int.toNat_natCast,qe hj2,hwj]
  refine ⟨by omega,?_⟩
  refine C1.im (YK l L[j] lev) (by rfl) (by rfl) ?_
  simp only [tZ,↓un_u,simprocAttr,tD,beq_iff_eq,beq_eq_false_iff_ne]
  refine ⟨fun h4=>?_,fun h4=>?_⟩
  ·rw [hf,if_pos (beq_iff_eq.2 h4)]
   exact .oA [] []
  ·refine ⟨j + 1,⟨by omega,?_⟩,by omega,?_⟩
   ·rw [qM hi2,List.find?_append,hj.2]
    simp [h4]
   ·exact .oA [(32792,some 32792)] []
 ·have hj2:j = L.length:=by omega
  subst hj2
  rw [show L.find? (fun y=>upC l y lev == v) = none by rw [← hj.2,List.take_of_length_le (by omega)]]
  exact .oA [] []
end Go.Proofs
namespace Go.Proofs
open Go Go.TL
set_option maxHeartbeats 4000000
abbrev upN (cs:List Cod) (v x:Nat):Nat:=upF cs v (x + 1) x
theorem qX8 {cs:List Cod} {v x:Nat} (h:dep cs x≤v):upN cs v x = x:=zz1 h _
theorem zA6 {cs:List Cod} (hp:qv8 cs) {v:Nat}:∀ x,x < cs.length→v≤dep cs x→dep cs (upN cs v x) = v∧upN cs v x≤x:=by
 intro x
 induction x using Nat.strongRecOn with
 | _ x ih=>
   intro hx hv
   by_cases h:dep cs x≤v
   ·rw [qX8 h];exact ⟨by omega,Nat.le_refl _⟩
   ·obtain ⟨u1,u2,u3,u4⟩:=up_step hp (lev:=v) hx (by omega)
    have:=ih (parC cs x).toNat (by omega) (by omega) (by omega)
    rw [show upN cs v x = upN cs v (parC cs x).toNat from u4]
    exact ⟨this.1,by omega⟩
theorem qF5 {cs:List Cod} (hp:qv8 cs) {o v:Nat} (ho:o≤v):∀ x,x < cs.length→v≤dep cs x→upN cs o (upN cs v x) = upN cs o x:=by
 intro x
 induction x using Nat.strongRecOn with
 | _ x ih=>
   intro hx hv
   by_cases h:dep cs x≤v
   ·rw [qX8 h]
   ·obtain ⟨u1,u2,u3,u4⟩:=up_step hp (lev:=v) hx (by omega)
    obtain ⟨_,_,_,u5⟩:=up_step hp (lev:=o) hx (by omega)
    rw [show upN cs v x = upN cs v (parC cs x).toNat from u4,show upN cs o x = upN cs o (parC cs x).toNat from u5]
    exact ih (parC cs x).toNat (by omega) (by omega) (by omega)
theorem je6 {l:CodL} (h:lstE l = 0):∀ (k c:Nat),l.codes.length - c = k→c < l.codes.length→∀ v,dep l.codes c≤v→(v:Int)≤zk l - 1→∃ d,d < l.codes.length∧dep l.codes d = v∧upN l.codes (dep l.codes c) d = c:=by
 intro k
 induction k using Nat.strongRecOn with
 | _ k ih=>
   intro c hk hc v hv ht
   by_cases e:dep l.codes c = v
   ·exact ⟨c,hc,e,qX8 (Nat.le_refl _)⟩
   obtain ⟨hp,h1,h2⟩:=zc h
   obtain ⟨t1,t2,t3⟩:=zp2 h hc
   cases hl:qd9 l.codes c with
   | true=>have:=t2 hl;omega
   | false=>
     have hn:¬ ∀ i,i < l.codes.length→parC l.codes i≠c:=fun k=>by rw [qX0.2 k] at hl;cases hl
     simp only [Classical.not_forall] at hn
     obtain ⟨i,hi,hn⟩:=hn
     have hpc:parC l.codes i = c:=Classical.byContradiction hn
     have h3:=hp i hi
     have h4:=qd8 hp hi (by omega)
     rw [hpc,Int.toNat_natCast] at h4
     obtain ⟨d,d1,d2,d3⟩:=ih (l.codes.length - i) (by omega) i rfl hi v (by omega) ht
     refine ⟨d,d1,d2,?_⟩
     have h5:=qF5 hp (o:=dep l.codes c) (v:=dep l.codes i) (by omega) d d1 (by omega)
     rw [← h5,d3]
     obtain ⟨_,_,_,u5⟩:=up_step hp (lev:=dep l.codes c) hi (by omega)
     rw [show upN l.codes (dep l.codes c) i = upN l.codes (dep l.codes c) (parC l.codes i).toNat from u5,hpc,Int.toNat_natCast]
     exact qX8 (Nat.le_refl _)
theorem je7 {α:Type} [DecidableEq α]:∀ {a b:List α},a.Nodup→(∀ x∈a,x∈b)→a.length≤b.length
 | [],_,_,_=>Nat.zero_le _
 | x :: r,b,hn,hs=>by
   rw [List.nodup_cons] at hn
   have hx:=hs x (List.mem_cons_self ..)
   have:=je7 (a:=r) (b:=b.erase x) hn.2 fun y hy=>(List.mem_erase_of_ne (fun e=>hn.1 (by rw [← e];exact hy))).2 (hs y (List.mem_cons_of_mem _ hy))
   rw [List.length_erase_of_mem hx] at this
   have:=List.length_pos_of_mem hx
   simp only [List.length_cons]
   omega
abbrev lvN (cs:List Cod) (v:Nat):List Nat:=(List.range cs.length).filter fun i=>(dep cs i:Int) == v
theorem Wd {cs:List Cod} {v x:Nat}:x∈lvN cs v↔x < cs.length∧dep cs x = v:=by
 rw [List.mem_filter,List.mem_range,beq_iff_eq];omega
theorem zW4 (cs:List Cod) (v:Nat):(lvN cs v).Nodup:=List.Nodup.sublist List.filter_sublist List.nodup_range
theorem jq8 {l:CodL} (h:lstE l = 0) (v:Nat):(atL l v).length = (lvN l.codes v).length:=by
 rw [atL,if_neg (by rw [h];simp),List.length_map]
theorem jl8 {l:CodL} (h:lstE l = 0) {o v:Nat} (ho:o≤v) (hv:(v:Int)≤zk l - 1):(lvN l.codes o).length≤(lvN l.codes v).length:=by
 obtain ⟨hp,h1,h2⟩:=zc h
 rw [show (lvN l.codes v).length = ((lvN l.codes v).map (upN l.codes o)).length by rw [List.length_map]]
 refine je7 (zW4 _ _) fun c hc=>?_
 rw [Wd] at hc
 obtain ⟨d,d1,d2,d3⟩:=je6 h _ c rfl hc.1 v (by omega) hv
 rw [hc.2] at d3
 exact List.mem_map.2 ⟨d,Wd.2 ⟨d1,d2⟩,d3⟩
theorem jx1 {l:CodL} (h:lstE l = 0) {o v:Nat} (ho:o≤v) (hv:(v:Int)≤zk l - 1):(lvN l.codes o).length = (lvN l.codes v).length↔∀ a b,a < l.codes.length→b < l.codes.length→dep l.codes a = v→dep l.codes b = v→upN l.codes o a = upN l.codes o b→a = b:=by
 obtain ⟨hp,h1,h2⟩:=zc h
 constructor
 ·intro e a b ha hb da db hab
  refine Classical.byContradiction fun hne=>?_
  have ma:a∈lvN l.codes v:=Wd.2 ⟨ha,da⟩
  have mb:b∈(lvN l.codes v).erase a:=(List.mem_erase_of_ne (fun e=>hne e.symm)).2 (Wd.2 ⟨hb,db⟩)
  have:=je7 (a:=lvN l.codes o) (b:=((lvN l.codes v).erase a).map (upN l.codes o)) (zW4 _ _) fun c hc=>by
   rw [Wd] at hc
   obtain ⟨d,d1,d2,d3⟩:=je6 h _ c rfl hc.1 v (by omega) hv
   rw [hc.2] at d3
   by_cases k:d = a
   ·exact List.mem_map.2 ⟨b,mb,by rw [← hab,← k,d3]⟩
   ·exact List.mem_map.2 ⟨d,(List.mem_erase_of_ne k).2 (Wd.2 ⟨d1,d2⟩),d3⟩
  rw [List.length_map,List.length_erase_of_mem ma] at this
  have:=List.length_pos_of_mem ma
  omega
 ·intro hi
  refine Nat.le_antisymm (jl8 h ho hv) ?_
  rw [show (lvN l.codes v).length = ((lvN l.codes v).map (upN l.codes o)).length by rw [List.length_map]]
  refine je7 ?_ fun c hc=>?_
  ·rw [List.Nodup,List.pairwise_map]
   refine List.Pairwise.imp_of_mem ?_ (zW4 l.codes v)
   intro a b ha hb hne e
   rw [Wd] at ha hb
   exact hne (hi a b ha.1 hb.1 ha.2 hb.2 e)
  ·obtain ⟨d,hd,rfl⟩:=List.mem_map.1 hc
   rw [Wd] at hd
   have:=zA6 hp (v:=o) d hd.1 (by omega)
   exact Wd.2 ⟨by omega,this.1⟩
theorem qF6 {a k m:Int} (hk:1≤k) (hm:0≤m):qA a k≤qA (a + m) k∧qA (a + m) k≤qA a k + m:=by
 unfold qA
 rw [Int.fdiv_eq_ediv_of_nonneg _ (by omega),Int.fdiv_eq_ediv_of_nonneg _ (by omega)]
 have h1:=Int.mul_ediv_add_emod a k
 have h2:=Int.emod_nonneg a (b:=k) (by omega)
 have h3:=Int.emod_lt_of_pos a (b:=k) (by omega)
 have h4:=Int.mul_ediv_add_emod (a + m) k
 have h5:=Int.emod_nonneg (a + m) (b:=k) (by omega)
 have h6:=Int.emod_lt_of_pos (a + m) (b:=k) (by omega)
 constructor
 ·refine Classical.byContradiction fun c=>?_
  have:k * ((a + m) / k + 1)≤k * (a / k):=Int.mul_le_mul_of_nonneg_left (by omega) (by omega)
  rw [Int.mul_add] at this
  omega
 ·refine Classical.byContradiction fun c=>?_
  have:k * (a / k + m + 1)≤k * ((a + m) / k):=Int.mul_le_mul_of_nonneg_left (by omega) (by omega)
  rw [Int.mul_add,Int.mul_add] at this
  have h7:1 * m≤k * m:=Int.mul_le_mul_of_nonneg_right hk hm
  omega
theorem je8 {a w k:Int} (hw:1≤w) (hk:1≤k):qA a (k * w) = qA (qA a w) k:=by
 have hkw:0≤k * w:=Int.mul_nonneg (by omega) (by omega)
 unfold qA
 rw [Int.fdiv_eq_ediv_of_nonneg _ (show 0≤w by omega),Int.fdiv_eq_ediv_of_nonneg _ (show 0≤k by omega),Int.fdiv_eq_ediv_of_nonneg _ hkw,Int.mul_comm,Int.ediv_ediv_of_nonneg (by omega)]
theorem zW5 {a k:Int} (hk:1≤k):(k ∣ a + 1→qA (a + 1) k = qA a k + 1)∧(¬ k ∣ a + 1→qA (a + 1) k = qA a k):=by
 unfold qA
 rw [Int.fdiv_eq_ediv_of_nonneg _ (by omega),Int.fdiv_eq_ediv_of_nonneg _ (by omega)]
 have h1:=Int.mul_ediv_add_emod a k
 have h2:=Int.emod_nonneg a (b:=k) (by omega)
 have h3:=Int.emod_lt_of_pos a (b:=k) (by omega)
 constructor
 ·rintro ⟨q,hq⟩
  rw [hq,Int.mul_ediv_cancel_left _ (by omega)]
  have:q = a / k + 1:=by
   have e:k * (q - (a / k + 1)) = a % k + 1 - k:=by rw [Int.mul_sub,Int.mul_add];omega
   have h4:q - (a / k + 1) = 0:=by
    refine Classical.byContradiction fun c=>?_
    rcases Int.lt_or_gt_of_ne c with c | c
    ·have:k * (q - (a / k + 1))≤k * (-1):=Int.mul_le_mul_of_nonneg_left (by omega) (by omega)
     omega
    ·have:k * 1≤k * (q - (a / k + 1)):=Int.mul_le_mul_of_nonneg_left (by omega) (by omega)
     omega
   omega
  exact this
 ·intro hn
  refine ((Int.ediv_emod_unique (r:=a % k + 1) (q:=a / k) (show 0 < k by omega)).2 ⟨by omega,by omega,?_⟩).1
  refine Classical.byContradiction fun c=>hn ⟨a / k + 1,?_⟩
  rw [Int.mul_add]
  omega
end Go.Proofs
namespace Go.Proofs
open Go Go.TL
set_option maxRecDepth 4000
set_option maxHeartbeats 8000000
theorem jl9 {ws:List Int} (hw:∀ j,j < ws.length→wdOk ws j = true) {i:Nat}:∀ d,i + d < ws.length→∃ k:Int,1≤k∧ws.getD (i + d) 0 = k * ws.getD i 0∧(0 < d→2≤k)
 | 0,h=>⟨1,by omega,by simp,by omega⟩
 | d + 1,h=>by
   obtain ⟨k,k1,k2,_⟩:=jl9 hw d (i:=i) (by omega)
   have h1:=hw (i + d + 1) (by omega)
   rw [wdOk,if_neg (by omega)] at h1
   simp only [Bool.and_eq_true,decide_eq_true_eq,beq_iff_eq,Nat.add_sub_cancel] at h1
   have hp:=zi0 (ws:=ws) hw (i + d) (by omega)
   obtain ⟨⟨a1,a2⟩,a3⟩:=h1
   have h2:=Int.mul_tdiv_add_tmod (ws.getD (i + d + 1) 0) (ws.getD (i + d) 0)
   rw [a3,Int.add_zero] at h2
   generalize (ws.getD (i + d + 1) 0).tdiv (ws.getD (i + d) 0) = q at h2
   have hq:2≤q:=Classical.byContradiction fun c=>by
    have:ws.getD (i + d) 0 * q≤ws.getD (i + d) 0 * 1:=Int.mul_le_mul_of_nonneg_left (by omega) (by omega)
    omega
   have hkq:2 * 1≤q * k:=Int.mul_le_mul hq k1 (by omega) (by omega)
   refine ⟨q * k,by omega,?_,fun _=>by omega⟩
   rw [show i + (d + 1) = i + d + 1 from rfl,← h2,k2,Int.mul_assoc,Int.mul_comm q k,Int.mul_assoc,Int.mul_comm q]
theorem SchOk.wdv {s:Sch} (h:SchOk s) {i:Nat} (hi:i < s.cols.length) (h0:0 < i) (hk:(qg s i).kind≠2) {o lev:Nat} (ho:1≤o∧o < lev) (hl:lev≤(qg s i).widths.length):∃ k:Int,2≤k∧qE (qg s i) o = k * qE (qg s i) lev:=by
 have hk2:=qU (h.cs i hi)
 have hk3:(qg s i).kind = 3:=by have:=hk2.2.2.1 h0;omega
 have hm:=hk2.2.2.2.2 hk3
 generalize qg s i = c at hl hm hk3 ⊢
 unfold measE at hm
 split at hm
 ·cases hm
 rename_i h1
 split at hm
 ·cases hm
 rename_i h2
 split at hm
 ·cases hm
 rename_i h3
 rw [Bool.not_eq_false] at h3
 have hw:∀ j,j < c.widths.length→wdOk c.widths j = true:=fun j hj=>List.all_eq_true.1 h3 j (List.mem_range.2 hj)
 obtain ⟨k,_,k2,k3⟩:=jl9 hw (i:=c.widths.length - lev) (lev - o) (by omega)
 refine ⟨k,k3 (by omega),?_⟩
 rw [qE,qE,show ((c.widths.length:Int) - o).toNat = c.widths.length - lev + (lev - o) by omega,show ((c.widths.length:Int) - lev).toNat = c.widths.length - lev by omega]
 exact k2
def blkI (s:Sch) (i lev:Nat):Int:=
 if (qg s i).kind = 2 then ((lvN (qG s i).codes lev).length:Int)
 else if lev = 0 then 1 else qA (qg s i).high (qE (qg s i) lev) - qA (qg s i).low (qE (qg s i) lev) + 1 + (if (qg s i).opt = true then 1 else 0)
theorem qF7 {n:Nat} {p:Nat→Nat→Bool}:qk5 n p = true↔∀ a,a < n→∀ b,b < a→p a b = true:=by
 unfold qk5
 simp only [List.all_eq_true,List.mem_range]
theorem yY {s:Sch} (h:SchOk s) {i:Nat} (hi:i < s.cols.length) (h2:(qg s i).kind = 2) {x:Int}:x∈qD s i↔∃ c:Nat,x = c∧c < (qG s i).codes.length∧(dep (qG s i).codes c:Int) = zk (qG s i) - 1:=by
 obtain ⟨_,d2⟩:=h.cdl hi h2
 unfold qD atL
 rw [if_neg (by rw [d2];simp),List.mem_map]
 constructor
 ·rintro ⟨c,hc,rfl⟩
  rw [List.mem_filter,List.mem_range,beq_iff_eq] at hc
  exact ⟨c,rfl,hc.1,hc.2⟩
 ·rintro ⟨c,rfl,h1,h3⟩
  exact ⟨c,List.mem_filter.2 ⟨List.mem_range.2 h1,beq_iff_eq.2 h3⟩,rfl⟩
theorem kA {s:Sch} (h:SchOk s) {i:Nat} (hi:i < s.cols.length) (h2:(qg s i).kind = 2) {c v:Nat} (hc:c < (qG s i).codes.length) (hd:(dep (qG s i).codes c:Int) = zk (qG s i) - 1) (hv:(v:Int)≤finI s i) (hf:finI s i = zk (qG s i) - 1):qr s i v c = upN (qG s i).codes v c:=by
 obtain ⟨_,d2⟩:=h.cdl hi h2
 have hh:zd s i c = true:=by
  rw [zd,if_neg (by omega),if_pos h2,Bool.and_eq_true,jA,beq_iff_eq,lvlC,if_neg (not_or.2 ⟨fun h=>h d2,by omega⟩),Int.toNat_natCast]
  exact ⟨by omega,hd⟩
 rw [qr,if_neg (by rw [Bool.not_eq_false,jA];omega),Int.toNat_natCast,if_pos h2,if_neg (by rw [hh];simp),upC,if_neg (not_or.2 ⟨fun h=>h d2,by rw [Int.toNat_natCast];omega⟩),Int.toNat_natCast,Int.toNat_natCast]
theorem qX9 {s:Sch} (hE:schE s = 0) {i:Nat} (hi:i < s.cols.length) (h0:0 < i) {o lev:Nat} (ho:o≤lev) (hl:(lev:Int)≤finI s i):blkI s i o≤blkI s i lev∧(divB s i o lev = true↔blkI s i o = blkI s i lev):=by
 have hok:=qJ hE
 by_cases e:o = lev
 ·subst e
  exact ⟨by omega,by rw [zz7];simp⟩
 obtain ⟨_,c1,c2,hfin⟩:=kV (s:=s) (c:=i) (by omega)
 rw [Int.toNat_natCast] at hfin
 by_cases h2:(qg s i).kind = 2
 ·obtain ⟨_,d2⟩:=hok.cdl hi h2
  rw [if_pos h2] at hfin
  unfold blkI
  rw [if_pos h2,if_pos h2]
  have hle:=jl8 d2 (o:=o) (v:=lev) (by omega) (by omega)
  refine ⟨by omega,?_⟩
  rw [show ((lvN (qG s i).codes o).length:Int) = ((lvN (qG s i).codes lev).length:Int)↔(lvN (qG s i).codes o).length = (lvN (qG s i).codes lev).length by omega,jx1 d2 (by omega) (by omega)]
  unfold divB
  rw [if_neg (by omega),if_pos h2,qF7]
  have hP:∀ j k,(qD s i).getD j 0∈qD s i→(qD s i).getD k 0∈qD s i→(divP s i (qD s i) o lev j k = true↔(qr s i o ((qD s i).getD j 0) = qr s i o ((qD s i).getD k 0)→qr s i lev ((qD s i).getD j 0) = qr s i lev ((qD s i).getD k 0))):=fun j k _ _=>by
   unfold divP
   simp only [Bool.not_eq_true',Bool.and_eq_false_iff,Bool.not_eq_false',beq_iff_eq,beq_eq_false_iff_ne]
   constructor
   ·rintro (h | h) k
    ·exact h
    ·exact absurd k h
   ·intro h
    by_cases k:qr s i o ((qD s i).getD j 0) = qr s i o ((qD s i).getD k 0)
    ·exact .inl (h k)
    ·exact .inr k
  have hmem:∀ j,j < (qD s i).length→(qD s i).getD j 0∈qD s i:=fun j hj=>by rw [qh hj];exact List.getElem_mem hj
  obtain ⟨hp,p1,p2⟩:=zc d2
  constructor
  ·intro H a b ha hb da db hab
   obtain ⟨x,x1,x2,x3⟩:=je6 d2 _ a rfl ha (zk (qG s i) - 1).toNat (by omega) (by omega)
   obtain ⟨y,y1,y2,y3⟩:=je6 d2 _ b rfl hb (zk (qG s i) - 1).toNat (by omega) (by omega)
   rw [da] at x3
   rw [db] at y3
   have hx:(x:Int)∈qD s i:=(yY hok hi h2).2 ⟨x,rfl,x1,by omega⟩
   have hy:(y:Int)∈qD s i:=(yY hok hi h2).2 ⟨y,rfl,y1,by omega⟩
   have ux:upN (qG s i).codes o x = upN (qG s i).codes o y:=by
    rw [← qF5 hp (o:=o) (v:=lev) (by omega) x x1 (by omega),← qF5 hp (o:=o) (v:=lev) (by omega) y y1 (by omega),x3,y3,hab]
   obtain ⟨j,hj,ej⟩:=List.getElem_of_mem hx
   obtain ⟨k,hk,ek⟩:=List.getElem_of_mem hy
   rw [← qh (d:=0) hj] at ej
   rw [← qh (d:=0) hk] at ek
   have cl:=fun c (hc:c < (qG s i).codes.length) (hd:(dep (qG s i).codes c:Int) = zk (qG s i) - 1) (v:Nat) (hv:(v:Int)≤finI s i)=>kA hok hi h2 (v:=v) hc hd hv hfin
   have fin:qr s i lev x = qr s i lev y→a = b:=fun e=>by
    rw [cl x x1 (by omega) lev hl,cl y y1 (by omega) lev hl,x3,y3] at e
    omega
   have eo:qr s i o x = qr s i o y:=by rw [cl x x1 (by omega) o (by omega),cl y y1 (by omega) o (by omega),ux]
   rcases Nat.lt_trichotomy j k with q | q | q
   ·have:=(hP k j (hmem k hk) (hmem j hj)).1 (H k hk j q)
    rw [ej,ek] at this
    exact fin (this eo.symm).symm
   ·subst q
    rw [ej] at ek
    exact fin (by rw [ek])
   ·have:=(hP j k (hmem j hj) (hmem k hk)).1 (H j hj k q)
    rw [ej,ek] at this
    exact fin (this eo)
  ·intro H j hj k hk
   rw [hP j k (hmem j hj) (hmem k (by omega))]
   obtain ⟨x,x0,x1,x2⟩:=(yY hok hi h2).1 (hmem j hj)
   obtain ⟨y,y0,y1,y2⟩:=(yY hok hi h2).1 (hmem k (by omega))
   rw [x0,y0,kA hok hi h2 x1 x2 (by omega) hfin,kA hok hi h2 y1 y2 (by omega) hfin,kA hok hi h2 x1 x2 hl hfin,kA hok hi h2 y1 y2 hl hfin]
   intro e
   have ux:=zA6 hp (v:=lev) x x1 (by omega)
   have uy:=zA6 hp (v:=lev) y y1 (by omega)
   have:=H (upN (qG s i).codes lev x) (upN (qG s i).codes lev y) (by omega) (by omega) ux.1 uy.1 (by
    rw [qF5 hp (by omega) x x1 (by omega),qF5 hp (by omega) y y1 (by omega)];omega)
   rw [this]
 rw [if_neg h2] at hfin
 obtain ⟨w1,w2,w3,w4,w5,w6,w7,_⟩:=hok.wid hi h0 h2 (lev:=lev) (by omega)
 unfold blkI divB
 simp only [if_neg h2,if_neg (show ¬ lev = 0 by omega),if_neg (show ¬ (lev = 0∨lev≤o) by omega)]
 obtain ⟨m,hm⟩:=Int.eq_ofNat_of_zero_le (show 0≤(qg s i).high - (qg s i).low by omega)
 generalize hW:qE (qg s i) lev = w at w1 w2 ⊢
 have hab:=qF6 (a:=(qg s i).low) (k:=w) (m:=m) w1 (by omega)
 rw [show (qg s i).low + (m:Int) = (qg s i).high by omega] at hab
 have f0:∀ c,c * w > (qg s i).high↔qA (qg s i).high w < c:=fun c=>by
  have h3:=ZN (v:=(qg s i).high) (w:=w) (by omega)
  constructor
  ·intro h
   refine Classical.byContradiction fun z=>?_
   have:c * w≤qA (qg s i).high w * w:=Int.mul_le_mul_of_nonneg_right (by omega) (by omega)
   omega
  ·intro h
   have:(qA (qg s i).high w + 1) * w≤c * w:=Int.mul_le_mul_of_nonneg_right (by omega) (by omega)
   rw [Int.add_mul] at this
   omega
 by_cases o0:o = 0
 ·simp only [if_pos o0]
  cases (qg s i).opt
  ·simp only [Bool.not_false,Bool.true_and,decide_eq_true_eq,f0,Bool.false_eq_true,if_false]
   omega
  ·simp only [Bool.not_true,Bool.false_and,if_true,Bool.false_eq_true,false_iff]
   omega
 simp only [if_neg o0]
 obtain ⟨k,k1,k2⟩:=hok.wdv hi h0 h2 (o:=o) (lev:=lev) (by omega) (by omega)
 rw [hW] at k2
 rw [k2,je8 w1 (by omega),je8 w1 (by omega)]
 have f3:∀ x:Int,(x * w).tmod (k * w) = 0↔k ∣ x:=fun x=>by
  constructor
  ·intro h
   obtain ⟨q,hq⟩:=Int.dvd_of_tmod_eq_zero h
   exact ⟨q,Int.eq_of_mul_eq_mul_right (show w≠0 by omega) (by rw [hq,Int.mul_assoc,Int.mul_assoc,Int.mul_comm w])⟩
  ·rintro ⟨q,rfl⟩
   rw [Int.mul_assoc,Int.mul_comm q,← Int.mul_assoc,Int.mul_tmod_right]
 have f2:(qA (qg s i).low w + 1) * w + w = (qA (qg s i).low w + 1 + 1) * w:=by rw [Int.add_mul (_ + 1) 1,Int.one_mul]
 have hD:divM (qg s i).high w (k * w) 2 ((qA (qg s i).low w + 1) * w) = true↔qA (qg s i).high w < qA (qg s i).low w + 1∨(k ∣ qA (qg s i).low w + 1∧(qA (qg s i).high w < qA (qg s i).low w + 1 + 1∨k ∣ qA (qg s i).low w + 1 + 1)):=by
  rw [divM,divM,divM,f2]
  simp only [f0,ne_eq,f3]
  split
  ·rename_i h;simp only [h,true_or,iff_true]
  ·rename_i h
   split
   ·rename_i h4;simp only [h,h4,false_and,or_self,Bool.false_eq_true]
   ·rename_i h4
    rw [Classical.not_not] at h4
    split
    ·rename_i h5;simp only [h4,h5,true_or,and_true,or_true]
    ·rename_i h5
     split
     ·rename_i h6;simp only [h,h5,h6,or_self,and_false,Bool.false_eq_true]
     ·rename_i h6
      rw [Classical.not_not] at h6
      simp only [h4,h6,or_true,and_true]
 rw [hD]
 generalize qA (qg s i).high w = b at hab ⊢
 generalize qA (qg s i).low w = a at hab ⊢
 obtain ⟨n,hn⟩:=Int.eq_ofNat_of_zero_le (show 0≤b - a by omega)
 have e0:=qF6 (a:=a) (k:=k) (m:=n) (by omega) (by omega)
 rw [show a + (n:Int) = b by omega] at e0
 refine ⟨by omega,?_⟩
 by_cases q0:n = 0
 ·have:b = a:=by omega
  subst this
  exact ⟨fun _=>by omega,fun _=>.inl (by omega)⟩
 obtain ⟨s1,s2⟩:=zW5 (a:=a) (k:=k) (by omega)
 have e1:=qF6 (a:=a + 1) (k:=k) (m:=b - a - 1) (by omega) (by omega)
 rw [show a + 1 + (b - a - 1) = b by omega] at e1
 by_cases d1:k ∣ a + 1
 ·have s1:=s1 d1
  by_cases q1:n = 1
  ·have:b = a + 1:=by omega
   subst this
   exact ⟨fun _=>by omega,fun _=>.inr ⟨d1,.inl (by omega)⟩⟩
  ·have d2:¬ k ∣ a + 1 + 1:=by
    rintro ⟨p,hp⟩
    obtain ⟨r,hr⟩:=d1
    have:k * (p - r) = 1:=by rw [Int.mul_sub];omega
    have:=Int.le_of_dvd (by omega) ⟨_,this.symm⟩
    omega
   obtain ⟨_,s4⟩:=zW5 (a:=a + 1) (k:=k) (by omega)
   have s4:=s4 d2
   have e2:=qF6 (a:=a + 1 + 1) (k:=k) (m:=b - a - 2) (by omega) (by omega)
   rw [show a + 1 + 1 + (b - a - 2) = b by omega] at e2
   refine ⟨fun h=>?_,fun h=>by omega⟩
   rcases h with h | ⟨_,h | h⟩
   ·omega
   ·omega
   ·exact absurd h d2
 ·have s2:=s2 d1
  refine ⟨fun h=>?_,fun h=>by omega⟩
  rcases h with h | ⟨h,_⟩
  ·omega
  ·exact absurd h d1
theorem Yt (s:Sch) (hE:schE s = 0) (i:Nat) (hi:i < s.cols.length) (h0:0 < i) (lev:Nat) (hl:(lev:Int)≤finI s i):Spc Tryz.prog wX [schT s,vI i,vI lev] [] (vI (blkI s i lev)) []:=by
 have hok:=qJ hE
 obtain ⟨_,c1,c2,hfin⟩:=kV (s:=s) (c:=i) (by omega)
 rw [Int.toNat_natCast] at hfin
 have hat:qg s i = s.cols[i]:=by rw [qg,qh hi]
 have hk:=qU (hok.cs i hi)
 have hcd:=fun e=>hok.cdl hi e
 have hwd:=fun e l=>hok.wid hi (by omega) e (lev:=l)
 have hcl:qG s i = s.lists.getD s.cols[i].list.toNat default:=by rw [qG,hat]
 have hE2:blkI s i lev = if s.cols[i].kind = 2 then ((lvN (qG s i).codes lev).length:Int)
  else if lev = 0 then 1 else qA s.cols[i].high (qE s.cols[i] lev) - qA s.cols[i].low (qE s.cols[i] lev) + 1 + (if s.cols[i].opt = true then 1 else 0):=by rw [blkI,hat]
 rw [hE2]
 rw [hat] at hk hcd hwd hfin
 rw [hcl] at hcd ⊢
 refine qd qu9 mixm (by simp) fun e _ hst=>qj ?_
 unfold QE
 simp only [tZ,↓un_u,simprocAttr,Int.toNat_natCast,qe hi]
 generalize s.cols[i] = x at hk hcd hwd hfin ⊢
 simp only [tZ,↓un_u,simprocAttr,tD,beq_iff_eq,beq_eq_false_iff_ne]
 refine ⟨by omega,fun h2=>?_,fun h2=>⟨fun h3=>?_,fun h3=>?_⟩⟩
 ·rw [if_pos h2]
  obtain ⟨d1,d2⟩:=hcd h2
  obtain ⟨d3,d4⟩:=hk.2.2.2.1 h2
  have hgl:s.lists.getD x.list.toNat default = s.lists[x.list.toNat]:=qh d1
  rw [hgl] at d2 ⊢
  simp only [tZ,↓un_u,simprocAttr,qe d1]
  generalize s.lists[x.list.toNat] = l at d2 ⊢
  refine ⟨by omega,?_⟩
  refine C1.im (qq9 l lev) (by rfl) (by rfl) ?_
  rw [← jq8 d2]
  refine sW ?_
  exact .oA [] []
 ·rw [if_neg h2,if_pos (by omega)]
  exact .oA [] []
 rw [if_neg h2,if_neg (by omega)]
 rw [if_neg h2] at hfin
 obtain ⟨w1,w2,w3,w4,w5,w6,w7,_⟩:=hwd h2 lev (by omega)
 refine C1.im (JS x lev (by omega) (by omega)) (by rfl) (by rfl) ?_
 generalize qE x lev = w at w1 w2 ⊢
 have h4:=ZN (v:=x.high) (w:=w) (by omega)
 have h5:=ZN (v:=x.low) (w:=w) (by omega)
 obtain ⟨m,hm⟩:=Int.eq_ofNat_of_zero_le (show 0≤x.high - x.low by omega)
 have hab:=qF6 (a:=x.low) (k:=w) (m:=m) w1 (by omega)
 rw [show x.low + (m:Int) = x.high by omega] at hab
 have wa:IntKind.i64.wrap (qA x.high w * w - qA x.low w * w) = qA x.high w * w - qA x.low w * w:=IntWalk.i64_in _ (by omega)
 have wb:(qA x.high w * w - qA x.low w * w).tdiv w = qA x.high w - qA x.low w:=by rw [← Int.sub_mul,Int.mul_tdiv_cancel _ (by omega)]
 have wc:IntKind.i64.wrap (qA x.high w - qA x.low w) = qA x.high w - qA x.low w:=IntWalk.i64_in _ (by omega)
 have wd:IntKind.i64.wrap (qA x.high w - qA x.low w + 1) = qA x.high w - qA x.low w + 1:=IntWalk.i64_in _ (by omega)
 have we:IntKind.i64.wrap (qA x.high w - qA x.low w + 1 + 1) = qA x.high w - qA x.low w + 1 + 1:=IntWalk.i64_in _ (by omega)
 refine sW ?_
 refine C1.im (Zf x.high w (by omega) (by omega)) (by rfl) (by rfl) ?_
 refine sW ?_
 refine C1.im (Zf x.low w (by omega) (by omega)) (by rfl) (by rfl) ?_
 simp only [tZ,↓un_u,simprocAttr,wa,wb,wc,wd,we]
 repeat (first | refine ⟨by omega,?_⟩ | refine ⟨by kernel_rfl,?_⟩)
 refine ⟨fun h6=>?_,fun h6=>?_⟩
 ·rw [if_pos h6]
  exact .oA [] []
 ·rw [if_neg (by rw [h6];simp),Int.add_zero]
  exact .oA [] []
theorem zA7 {p:Nat→Bool} {N:Nat}:∀ (f n:Nat),n≤N→N - n < f→p N = true→(∀ m,n≤m→m < N→p m = false)→Wi p f n = N
 | 0,n,h1,h2,_,_=>by omega
 | f + 1,n,h1,h2,h3,h4=>by
   rw [Wi]
   by_cases e:n = N
   ·subst e;rw [if_pos h3]
   ·rw [if_neg (by rw [h4 n (Nat.le_refl _) (by omega)];simp)]
    exact zA7 f (n + 1) (by omega) (by omega) h3 fun m h5 h6=>h4 m (by omega) h6
theorem qa7 (s:Sch) (hs:Qp s) (c lev:Int):Spc Tryz.prog Qe [schT s,vI c,vI lev] [] (vI (yv s c lev)) []:=by
 refine qd qC3 mixm (by simp) fun e _ hst=>qj ?_
 unfold Zy
 refine sW ?_
 refine C1.im (yx s hs c) (by rfl) (by rfl) ?_
 refine sD ?_
 refine ⟨fun h=>?_,fun h=>?_⟩
 ·rw [yv,if_pos (qk9.2 (by omega))]
  exact .oA [] []
 rw [yv,if_neg (by rw [qk9];omega)]
 obtain ⟨hE,c1,c2,hfin⟩:=kV (s:=s) (c:=c) (by omega)
 have hfl:=qe4 (c:=c) hE
 have hok:=qJ hE
 obtain ⟨i,rfl⟩:=Int.eq_ofNat_of_zero_le (show 0≤c by omega)
 obtain ⟨v,rfl⟩:=Int.eq_ofNat_of_zero_le (show 0≤lev by omega)
 simp only [Int.toNat_natCast]
 have hi:i < s.cols.length:=by omega
 have key:∀ n,n≤v→blkI s i n = blkI s i v→(n = 0∨blkI s i (n - 1)≠blkI s i n)→Wi (fun n=>divB s i n v) 64 0 = n:=fun n h1 h2 h3=>by
  refine zA7 64 0 (by omega) (by omega) ((qX9 hE hi (by omega) h1 (by omega)).2.2 h2) fun m _ hm=>?_
  cases e:divB s i m v with
  | false=>rfl
  | true=>
    have e1:=(qX9 hE hi (by omega) (show m≤v by omega) (by omega)).2.1 e
    have e2:=(qX9 hE hi (by omega) (show m≤n - 1 by omega) (by omega)).1
    have e3:=(qX9 hE hi (by omega) (show n - 1≤n by omega) (by omega)).1
    omega
 refine qw mixm (α:=Nat) [2,17] (fun n=>n≤v∧blkI s i n = blkI s i v) (fun n=>[(2,vI n)]) (fun n=>[(4096,.arr 2 [schT s] false)]) (fun n=>n) v ⟨by omega,rfl⟩ ?_ fun n hn=>?_
 ·exact .oA [(4096,some 4096)] []
 obtain ⟨n1,n2⟩:=hn
 rcases Nat.eq_zero_or_pos n with hz | hz
 ·subst hz
  have e0:decide (((0:Nat):Int) > 0) = false:=by decide
  simp only [tZ,↓un_u,simprocAttr,e0]
  refine C2.no (fun h=>h) ?_
  refine sW ?_
  refine C2.no (fun h=>h) ?_
  refine sW ?_
  repeat (first | refine ⟨by omega,?_⟩ | refine ⟨by kernel_rfl,?_⟩)
  rw [key 0 (by omega) n2 (.inl rfl)]
  exact .oA [] []
 ·obtain ⟨k,rfl⟩:∃ k,n = k + 1:=⟨n - 1,by omega⟩
  have e0:decide (((k + 1:Nat):Int) > 0) = true:=decide_eq_true (by omega)
  have e3:=ZZ (i:=k + 1) (by omega) (by omega)
  rw [Nat.add_sub_cancel] at e3
  simp only [tZ,↓un_u,simprocAttr,e0,e3]
  refine C2.im (fun _=>Yt s hE i hi (by omega) k (by omega)) (fun _=>rfl) (by rfl) ?_
  refine sW ?_
  refine C2.im (fun _=>Yt s hE i hi (by omega) (k + 1) (by omega)) (fun _=>rfl) (by rfl) ?_
  simp only [tZ,↓un_u,simprocAttr,beq_iff_eq,beq_eq_false_iff_ne,e3]
  repeat (first | refine ⟨by omega,?_⟩ | refine ⟨by kernel_rfl,?_⟩)
  refine ⟨fun h5=>?_,fun h5=>?_⟩
  ·refine ⟨k,⟨by omega,by omega⟩,by omega,?_⟩
   exact .oA [(4096,some 4096)] []
  ·rw [key (k + 1) (by omega) n2 (.inr h5)]
   exact .oA [] []
end Go.Proofs
namespace Go.Proofs
open Go Go.TL
set_option maxRecDepth 4000
set_option maxHeartbeats 8000000
theorem qr1:∀ (c:Cnd) (m:Int),0≤m→m≤1000→Spc Tryz.prog kE [cnT c,vI m] [] (vI (cntC c (m + 1))) []:=by
 refine Cnd.ind' fun c ih m hm hm2=>?_
 rw [JN]
 refine qd qj5 mixm (by simp) fun e _ hst=>qj ?_
 unfold yn
 refine sW ?_
 refine qw mixm (α:=Nat×Int) [5,11] (fun y=>y.1≤c.kids.length∧kz c.kids (m + 1) 1 = kz (c.kids.drop y.1) (m + 1) y.2∧y.2≤m + 1∧y.1 + 1≤y.2) (fun y=>[(5,vI y.2),(11,vI y.1)]) (fun y=>[]) (fun y=>c.kids.length - y.1) (0,1) ⟨by simp,rfl,by dsimp only;omega,by simp⟩ ?_ fun y hy=>?_
 ·exact .oA [] []
 obtain ⟨i,n⟩:=y
 obtain ⟨y1,y2,y3,y4⟩:=hy
 dsimp only at y1 y2 y3 y4
 rw [y2]
 refine sD ?_
 refine ⟨fun h=>?_,fun h=>?_⟩
 ·have hi:i < c.kids.length:=by omega
  have hwi:=qk (i:=i) (by omega)
  rw [zo9 hi,kz]
  simp only [tZ,↓un_u,simprocAttr,Int.toNat_natCast,qe hi,zx,tD]
  refine ⟨by omega,fun h2=>?_,fun h2=>?_⟩
  ·rw [if_neg (by omega)]
   exact .oA [] []
  have hw:IntKind.i64.wrap (m - n) = m - n:=IntWalk.i64_in _ (by omega)
  have hc:=qt3 c.kids[i] (m - n + 1) (by omega)
  have e1:m + 1 - n = m - n + 1:=by omega
  have hw2:IntKind.i64.wrap (n + cntC c.kids[i] (m - n + 1)) = n + cntC c.kids[i] (m - n + 1):=IntWalk.i64_in _ (by omega)
  rw [if_pos (by omega),e1]
  simp only [tZ,↓un_u,simprocAttr,hw]
  refine C1.im (ih _ (List.getElem_mem hi) (m - n) (by omega) (by omega)) (by rfl) (by rfl) ?_
  simp only [tZ,↓un_u,simprocAttr,hw2,hwi]
  refine ⟨(i + 1,n + cntC c.kids[i] (m - n + 1)),⟨by dsimp only;omega,rfl,by dsimp only;omega,by dsimp only;omega⟩,by dsimp only;omega,?_⟩
  exact .oA [] []
 ·rw [List.drop_of_length_le (by omega),kz]
  exact .oA [] []
theorem qw2:∀ (c:Cnd) (m:Int),1≤m→m≤1000→cntC c m < m→Spc Tryz.prog wq [cnT c] [] (vI (depC c)) []:=by
 refine Cnd.ind' fun c ih m hm hm2 hc=>?_
 have hd:=zV1 c m hm hc
 rw [JN] at hc hd
 obtain ⟨hk1,hk2⟩:=ql0 (by omega) hc
 rw [qp9] at hd ⊢
 refine qd qp2 mixm (by simp) fun e _ hst=>qj ?_
 unfold yR
 refine sW ?_
 refine qw mixm (α:=Nat) [3,9] (fun i=>i≤c.kids.length) (fun i=>[(3,vI (jO (c.kids.take i))),(9,vI i)]) (fun i=>[]) (fun i=>c.kids.length - i) 0 (by omega) ?_ fun i hi=>?_
 ·refine .of [] [] rfl (by first | rfl | (rw [hst];rfl)) ?_ ?_
  all_goals (try simp only [tL,simprocAttr,List.map_append,List.map_cons,List.map_nil,List.cons_append,List.nil_append,List.take_zero,jO])
  all_goals (try (repeat' (first | exact zh | (apply zU;intro _;exact ⟨rfl,rfl⟩) | (apply qK;intro _;exact ⟨rfl,rfl⟩) | with_reducible apply qX | with_reducible refine qZ ⟨rfl,rfl⟩ ?_ | exact zn | with_reducible apply qR | with_reducible refine qQ ⟨rfl,rfl,?_⟩ ?_ | with_reducible apply And.intro | exact qS rfl | exact qS (by assumption) | (refine ⟨⟨?_,rfl,?_,rfl,?_⟩,trivial⟩ <;> first | (simp;done) | (apply qK;intro _;exact ⟨rfl,rfl⟩)) | trivial | rfl | (rw [qk (by omega)]) | omega)))
 have hdt:=qq3 c.kids i
 refine sD ?_
 refine ⟨fun h=>?_,fun h=>?_⟩
 ·have hi2:i < c.kids.length:=by omega
  have hwi:=qk (i:=i) (by omega)
  have hs:jO (c.kids.take (i + 1)) = max (jO (c.kids.take i)) (depC c.kids[i]):=by rw [qM hi2,qq2]
  obtain ⟨m',a1,a2,a3⟩:=hk2 _ (List.getElem_mem hi2)
  simp only [tZ,↓un_u,simprocAttr,Int.toNat_natCast,qe hi2,zx]
  refine ⟨by omega,?_⟩
  refine C1.im (ih _ (List.getElem_mem hi2) m' a1 (by omega) a3) (by rfl) (by rfl) ?_
  have hmx:maxI (jO (c.kids.take i):Int) (depC c.kids[i]) = (jO (c.kids.take (i + 1)):Int):=by rw [hs];unfold maxI;omega
  simp only [tZ,↓un_u,simprocAttr,hwi,hmx]
  refine ⟨i + 1,by omega,by omega,?_⟩
  exact .oA [] []
 ·have hil:i = c.kids.length:=by omega
  subst hil
  rw [List.take_length] at hdt ⊢
  have hw:=qk (i:=jO c.kids) (by omega)
  simp only [tZ,↓un_u,simprocAttr,hw]
  exact .oA [] []
theorem qw3 (op:Int):Spc Tryz.prog Qz [vI op] [] (vI (arC op)) []:=by
 refine qd qp8 mixm (by simp) fun e _ hst=>qj ?_
 unfold yU
 simp only [tZ,↓un_u,simprocAttr,Cnd.op,Cnd.col,Cnd.code,Cnd.lo,Cnd.hi,Cnd.kids]
 by_cases h5:op = 5
 ·subst h5
  refine sW ?_
  exact .oA [] []
 by_cases h6:op = 6
 ·subst h6
  refine sW ?_
  exact .oA [] []
 by_cases h7:op = 7
 ·subst h7
  refine sW ?_
  exact .oA [] []
 have e:arC op = 0:=by rw [arC,if_neg (by omega),if_neg h7]
 rw [e]
 simp only [tZ,↓un_u,simprocAttr,beq_eq_false_iff_ne.2 h5,beq_eq_false_iff_ne.2 h6,beq_eq_false_iff_ne.2 h7]
 exact .oA [] []
def unuC (c:Cnd):Bool:=if ((!isAt c && (c.col != 0)) || ((c.op != 2) && (c.code != 0))) = true then false else (c.op == 3) || ((c.lo == 0) && (c.hi == 0))
theorem jq9 {c:Cnd}:unuC c = false↔(c.op≠2∧c.op≠3∧c.op≠4∧c.col≠0)∨(c.op≠2∧c.code≠0)∨(c.op≠3∧(c.lo≠0∨c.hi≠0)):=by
 unfold unuC isAt
 grind
theorem ql9 (c:Cnd):Spc Tryz.prog yb [cnT c] [] (vB (unuC c)) []:=by
 refine qd qd7 mixm (by simp) fun e _ hst=>qj ?_
 unfold wD
 refine sW ?_
 have hi:isAt c = ((c.op == 2) || (c.op == 3) || (c.op == 4)):=rfl
 rw [← hi]
 unfold unuC
 cases h:(!isAt c && (c.col != 0))
 ·simp only [tZ,↓un_u,simprocAttr,h]
  cases h2:((c.op != 2) && (c.code != 0))
  ·simp only [tZ,↓un_u,simprocAttr,h2]
   exact .oA [] []
  ·simp only [tZ,↓un_u,simprocAttr,h2]
   exact .oA [] []
 ·simp only [tZ,↓un_u,simprocAttr,h]
  exact .oA [] []
theorem YZ (s:Sch) (hok:SchOk s) (c:Cnd):Spc Tryz.prog kO [schT s,cnT c] [] (vI (ndE s c)) []:=by
 have hn0:=hok.nl
 have hn1:=hok.nc
 have hn:ndE s c = if c.op < 1∨7 < c.op then 4
 else if c.kids.length≠arC c.op∨(c.op≠2∧c.op≠3∧c.op≠4∧c.col≠0)∨(c.op≠2∧c.code≠0)∨(c.op≠3∧(c.lo≠0∨c.hi≠0)) then 11
 else if (c.op = 2∧isB s c.col 2 = false)∨(c.op = 3∧isB s c.col 3 = false)∨(c.op = 4∧(isB s c.col 3 = false∨(qg s c.col.toNat).opt = false)) then 7
 else if c.op = 2∧(c.code < 0∨c.code≥(qG s c.col.toNat).codes.length) then 6
 else if c.op = 3∧(c.lo < -1000000∨c.hi > 1000000∨c.lo > c.hi) then 2 else 0:=rfl
 have hu:=@jq9 c
 generalize ndE s c = E at hn ⊢
 refine qd Yk mixm (by simp) fun e _ hst=>qj ?_
 unfold kv
 refine sD ?_
 refine ⟨fun h=>?_,fun h=>?_⟩
 ·rw [if_pos (by omega)] at hn
  rw [hn]
  exact .oA [] []
 rw [if_neg (by omega)] at hn
 refine C1.im (qw3 c.op) (by rfl) (by rfl) ?_
 refine sW ?_
 refine C2.im (fun _=>ql9 c) (fun _=>rfl) (by rfl) ?_
 simp only [tZ,↓un_u,simprocAttr,bne_iff_ne,bne_eq_false_iff_eq,Bool.not_eq_true',Bool.not_eq_false']
 repeat (first | refine ⟨by omega,?_⟩ | refine ⟨by kernel_rfl,?_⟩)
 refine ⟨fun h2=>?_,fun h2=>?_⟩
 ·rw [if_pos (by grind)] at hn
  rw [hn]
  exact .oA [] []
 rw [if_neg (by grind)] at hn
 by_cases hat:c.op≠2∧c.op≠3∧c.op≠4
 ·rw [if_neg (by omega),if_neg (by omega),if_neg (by omega)] at hn
  rw [hn]
  simp only [tZ,↓un_u,simprocAttr,bne_iff_ne.2 hat.1,bne_iff_ne.2 hat.2.1,bne_iff_ne.2 hat.2.2]
  exact .oA [] []
 have e1:((c.op != 2) && (c.op != 3) && (c.op != 4)) = false:=by
  cases e:((c.op != 2) && (c.op != 3) && (c.op != 4)) with
  | false=>rfl
  | true=>exact absurd (by simpa [and_assoc] using e) hat
 simp only [tZ,↓un_u,simprocAttr,e1,tD]
 refine ⟨fun h3=>?_,fun h3=>?_⟩
 ·have b2:isB s c.col 2 = false:=by
   cases e:isB s c.col 2 with
   | false=>rfl
   | true=>have:=zt.1 e;omega
  have b3:isB s c.col 3 = false:=by
   cases e:isB s c.col 3 with
   | false=>rfl
   | true=>have:=zt.1 e;omega
  rw [b2,b3,if_pos (by grind)] at hn
  rw [hn]
  exact .oA [] []
 obtain ⟨i,hci⟩:=Int.eq_ofNat_of_zero_le (show 0≤c.col by omega)
 have hil:i < s.cols.length:=by omega
 have hat2:qg s i = s.cols[i]:=by rw [qg,qh hil]
 have hcd:=fun e=>hok.cdl hil e
 have hcd2:=(qU (hok.cs i hil)).2.2.2.1
 have hcl:qG s i = s.lists.getD s.cols[i].list.toNat default:=by rw [qG,hat2]
 have hB:∀ k,isB s c.col k = (s.cols[i].kind == k):=fun k=>by
  rw [isB,hci,Int.toNat_natCast,hat2,decide_eq_true (by omega),decide_eq_true (by omega)];rfl
 rw [hB,hB,hci,Int.toNat_natCast,hcl,hat2] at hn
 rw [hat2,hcl] at hcd
 rw [hat2] at hcd2
 simp only [tZ,↓un_u,simprocAttr,hci,Int.toNat_natCast,qe hil]
 generalize s.cols[i] = x at hn hcd hcd2 ⊢
 simp only [tZ,↓un_u,simprocAttr,beq_iff_eq,beq_eq_false_iff_ne,bne_iff_ne,bne_eq_false_iff_eq]
 refine ⟨by omega,fun h4=>⟨fun h5=>?_,fun h5=>?_⟩,fun h4=>⟨fun h5=>⟨fun h6=>?_,fun h6=>?_⟩,fun h5=>?_⟩⟩
 ·rw [if_pos (by grind)] at hn
  rw [hn]
  exact .oA [] []
 ·rw [if_neg (by grind)] at hn
  obtain ⟨d1,d2⟩:=hcd h5
  obtain ⟨d3,d4⟩:=hcd2 h5
  rw [qh d1] at hn
  simp only [tZ,↓un_u,simprocAttr,qe d1,tD]
  generalize s.lists[x.list.toNat] = l at hn
  repeat (first | refine ⟨by omega,?_⟩ | refine ⟨by kernel_rfl,?_⟩)
  refine ⟨fun h6=>?_,fun h6=>?_⟩
  ·rw [if_pos (by grind)] at hn
   rw [hn]
   exact .oA [] []
  ·rw [if_neg (by grind),if_neg (by grind)] at hn
   rw [hn]
   exact .oA [] []
 ·rw [if_pos (by grind)] at hn
  rw [hn]
  exact .oA [] []
 ·rw [if_neg (by grind),if_neg (by grind)] at hn
  refine sD ?_
  refine ⟨fun h7=>?_,fun h7=>?_⟩
  ·rw [if_pos (by grind)] at hn
   rw [hn]
   exact .oA [] []
  ·rw [if_neg (by grind)] at hn
   rw [hn]
   exact .oA [] []
 ·refine ⟨fun h6=>?_,fun h6=>by omega⟩
  refine ⟨fun h7=>?_,fun h7=>?_⟩
  ·rw [if_pos (by grind)] at hn
   rw [hn]
   exact .oA [] []
  ·rw [if_neg (by grind),if_neg (by grind),if_neg (by grind)] at hn
   rw [hn]
   exact .oA [] []
theorem jx2 (op:Int):arC op≤2:=by
 unfold arC
 split
 ·omega
 ·split <;> omega
theorem qa0 (s:Sch) (hok:SchOk s):∀ (c:Cnd),Spc Tryz.prog jm [schT s,cnT c] [] (vI (nodE s c)) []:=by
 refine Cnd.ind' fun c ih=>?_
 have hN:=qW0 s c
 generalize nodE s c = N at hN ⊢
 refine qd Yg mixm (by simp) fun e _ hst=>qj ?_
 unfold kr
 refine sW ?_
 refine C1.im (YZ s hok c) (by rfl) (by rfl) ?_
 simp only [tZ,↓un_u,simprocAttr,bne_iff_ne,bne_eq_false_iff_eq]
 refine ⟨fun h=>?_,fun h=>?_⟩
 ·rw [hN,if_pos h]
  exact .oA [] []
 rw [if_neg (by rw [h];simp)] at hN
 have hnk:=(zz3 h).nk
 have har:=jx2 c.op
 rw [hN]
 refine qw mixm (α:=Nat) [18] (fun i=>i≤c.kids.length∧(yA s (c.kids.take i) = 0)) (fun i=>[(18,vI i)]) (fun i=>[(4096,.arr 2 [schT s] false)]) (fun i=>c.kids.length - i) 0 ⟨by omega,?_⟩ ?_ fun i hi=>?_
 ·rfl
 ·exact .oA [(4096,some 4096)] []
 simp only [tZ,↓un_u,simprocAttr,decide_eq_true_eq,decide_eq_false_iff_not]
 refine ⟨fun h=>?_,fun h=>?_⟩
 ·have hi2:i < c.kids.length:=by omega
  have hi2:i < c.kids.length:=by omega
  have hwi:=qk (i:=i) (by omega)
  simp only [tZ,↓un_u,simprocAttr,Int.toNat_natCast,qe hi2,hwi,zx]
  refine ⟨by omega,?_⟩
  refine C1.im (ih _ (List.getElem_mem hi2)) (by rfl) (by rfl) ?_
  simp only [tZ,↓un_u,simprocAttr,bne_iff_ne,bne_eq_false_iff_eq]
  refine ⟨fun h6=>?_,fun h6=>?_⟩
  ·rw [qe5 hi2 hi.2 h6]
   exact .oA [] []
  ·refine ⟨i + 1,⟨by omega,by rw [qM hi2];exact qq4 hi.2 h6⟩,by omega,?_⟩
   exact .oA [(4096,some 4096)] []
 ·have hi2:i = c.kids.length:=by omega
  subst hi2
  rw [List.take_of_length_le (by omega)] at hi
  rw [hi.2]
  exact .oA [] []
theorem yZ (s:Sch) (hs:Qp s) (c:Cnd):Spc Tryz.prog jq [schT s,cnT c] [] (vI (chkC s c)) []:=by
 refine qd qj1 mixm (by simp) fun e _ hst=>qj ?_
 unfold yl
 refine sW ?_
 refine C1.im (wi s hs.2.1 hs.1) (by rfl) (by rfl) ?_
 simp only [tZ,↓un_u,simprocAttr,bne_iff_ne,bne_eq_false_iff_eq]
 refine ⟨fun h=>?_,fun h=>?_⟩
 ·rw [chkC,if_pos h]
  exact .oA [] []
 have hok:=qJ h
 refine C1.im (qr1 c 40 (by omega) (by omega)) (by rfl) (by rfl) ?_
 rw [show (40:Int) + 1 = 41 from rfl]
 refine sD ?_
 refine ⟨fun h2=>?_,fun h2=>?_⟩
 ·rw [chkC,if_neg (by rw [h];simp),if_pos h2]
  exact .oA [] []
 refine C1.im (qw2 c 41 (by omega) (by omega) (by omega)) (by rfl) (by rfl) ?_
 refine sD ?_
 refine ⟨fun h3=>?_,fun h3=>?_⟩
 ·rw [chkC,if_neg (by rw [h];simp),if_neg h2,if_pos (by omega)]
  exact .oA [] []
 rw [chkC,if_neg (by rw [h];simp),if_neg h2,if_neg (by omega)]
 refine C1.im (qa0 s hok c) (by rfl) (by rfl) ?_
 refine sW ?_
 exact .oA [] []
theorem Qa (b:Bool):Spc Tryz.prog js [vB b] [] (vI (tf b)) []:=by
 refine qd qj7 mixm (by simp) fun e _ hst=>qj ?_
 unfold yo
 refine sW ?_
 cases b
 ·refine sW ?_
  exact .oA [] []
 ·refine sW ?_
  exact .oA [] []
theorem Wj (s:Sch) (hok:SchOk s) (c:Cnd) (hc:NdOk s c) (ha:isAt c = true) (v:Int):Spc Tryz.prog jN [schT s,cnT c,vI v] [] (vI (zH s c v)) []:=by
 have hn0:=hok.nl
 have hn1:=hok.nc
 have hA:zH s c v = if c.op = 2 then tf (Yn (qG s c.col.toNat) v c.code)
 else if c.op = 3 then (if v = qY then 0 else tf (decide (c.lo≤v) && decide (v≤c.hi)))
 else if c.op = 4 then tf (v == qY) else -1:=rfl
 rw [hA]
 by_cases h2:c.op = 2
 ·obtain ⟨b,b4,b5⟩:=hc.under h2
  obtain ⟨b1,b2,b3⟩:=zt.1 b
  obtain ⟨i,hci⟩:=Int.eq_ofNat_of_zero_le b1
  rw [hci] at b2 b5
  rw [hci,Int.toNat_natCast] at b3
  rw [Int.toNat_natCast] at b5
  have hil:i < s.cols.length:=by omega
  have hat:qg s i = s.cols[i]:=by rw [qg,qh hil]
  have hcd:=hok.cdl hil b3
  have hcd2:=(qU (hok.cs i hil)).2.2.2.1 b3
  have hcl:qG s i = s.lists.getD s.cols[i].list.toNat default:=by rw [qG,hat]
  rw [hat] at hcd hcd2
  rw [if_pos h2,hci,Int.toNat_natCast]
  rw [hcl,qh hcd.1] at hcd ⊢
  have q:(c.op == 2) = true:=beq_iff_eq.2 h2
  refine qd yN mixm (by simp) fun e _ hst=>qj ?_
  unfold jv
  simp only [tZ,↓un_u,simprocAttr,q,hci,Int.toNat_natCast,qe hil,qe hcd.1]
  refine ⟨by omega,by omega,?_⟩
  refine C1.im (qX3 _ v c.code) (by rfl) (by rfl) ?_
  refine sW ?_
  repeat (first | refine ⟨by omega,?_⟩ | refine ⟨by kernel_rfl,?_⟩)
  refine C1.im (Qa _) (by rfl) (by rfl) ?_
  refine sW ?_
  repeat (first | refine ⟨by omega,?_⟩ | refine ⟨by kernel_rfl,?_⟩)
  exact .oA [] []
 have q:(c.op == 2) = false:=beq_eq_false_iff_ne.2 h2
 rw [if_neg h2]
 by_cases h4:c.op = 4
 ·have q4:(c.op == 4) = true:=beq_iff_eq.2 h4
  rw [if_neg (by omega),if_pos h4]
  refine qd yN mixm (by simp) fun e _ hst=>qj ?_
  unfold jv
  simp only [tZ,↓un_u,simprocAttr,q,q4]
  rw [show (-1099511627776:Int) = qY from rfl]
  refine C1.im (Qa _) (by rfl) (by rfl) ?_
  refine sW ?_
  exact .oA [] []
 have q4:(c.op == 4) = false:=beq_eq_false_iff_ne.2 h4
 have h3:c.op = 3:=by
  unfold isAt at ha
  rw [q,q4] at ha
  simpa using ha
 rw [if_pos h3]
 refine qd yN mixm (by simp) fun e _ hst=>qj ?_
 unfold jv
 simp only [tZ,↓un_u,simprocAttr,q,q4,beq_iff_eq,beq_eq_false_iff_ne]
 rw [show (-1099511627776:Int) = qY from rfl]
 refine ⟨fun h=>?_,fun h=>?_⟩
 ·rw [if_pos h]
  exact .oA [] []
 ·rw [if_neg h]
  refine C1.im (Qa _) (by rfl) (by rfl) ?_
  refine sW ?_
  exact .oA [] []
theorem Kl:∀ (c:Cnd) (m:Int),1≤m→m≤1000→cntC c m < m→Spc Tryz.prog jr [cnT c] [] (vCs (atsC c)) []:=by
 refine Cnd.ind' fun c ih m hm hm2 hc=>?_
 have hal:=qq5 c m hm hc
 rw [JN] at hc hal
 obtain ⟨hk1,hk2⟩:=ql0 (by omega) hc
 have hi:isAt c = ((c.op == 2) || (c.op == 3) || (c.op == 4)):=rfl
 refine qd qj3 mixm (by simp) fun e _ hst=>qj ?_
 unfold ym
 refine sW ?_
 rw [← hi]
 refine ⟨fun h=>?_,fun h=>?_⟩
 ·rw [Yo,if_pos h]
  show Qk [] _ _ (.sl 6 [cndT c]) []
  rw [zx]
  exact .oA [] [12292]
 ·rw [Yo,if_neg (by rw [h];simp)] at hal ⊢
  refine qw mixm (α:=Nat) [3,24,18] (fun i=>i≤c.kids.length) (fun i=>[(3,.asl 1 (Zc (c.kids.take i)).length),(24,vI i)]) (fun i=>[(1,.arr 6 ((Zc (c.kids.take i)).map cndT) false)]) (fun i=>c.kids.length - i) 0 (by omega) ?_ fun i hi2=>?_
  ·exact .oA [(1,none)] []
  have htl:=yw c.kids i
  refine sD ?_
  refine ⟨fun h5=>?_,fun h5=>?_⟩
  ·have hi2:i < c.kids.length:=by omega
   have hwi:=qk (i:=i) (by omega)
   obtain ⟨m',a1,a2,a3⟩:=hk2 _ (List.getElem_mem hi2)
   have htl2:=yw c.kids (i + 1)
   rw [qM hi2,Kh,List.length_append] at htl2
   simp only [tZ,↓un_u,simprocAttr,Int.toNat_natCast,qe hi2,zx]
   refine ⟨by omega,?_⟩
   refine C1.im (ih _ (List.getElem_mem hi2) m' a1 (by omega) a3) (by rfl) (by rfl) ?_
   simp only [tZ,↓un_u,simprocAttr,hwi]
   refine ⟨by omega,i + 1,by omega,by omega,?_⟩
   rw [qM hi2,Kh,List.map_append]
   refine .of [(1,some 1)] [] rfl (by first | rfl | (rw [hst];rfl)) ?_ ?_
   all_goals (try simp only [tL,simprocAttr,List.map_append,List.map_cons,List.map_nil,List.cons_append,List.nil_append,List.append_assoc])
   all_goals (try (repeat' (first | exact zh | (apply zU;intro _;exact ⟨rfl,rfl⟩) | (apply qK;intro _;exact ⟨rfl,rfl⟩) | with_reducible apply qX | with_reducible refine qZ ⟨rfl,rfl⟩ ?_ | exact zn | with_reducible apply qR | with_reducible refine qQ ⟨rfl,rfl,?_⟩ ?_ | with_reducible apply And.intro | exact qS rfl | exact qS (by assumption) | (refine ⟨⟨?_,rfl,?_,rfl,?_⟩,trivial⟩ <;> first | (simp;done) | (apply qK;intro _;exact ⟨rfl,rfl⟩)) | trivial | rfl | (rw [qk (by omega)]) | omega)))
   all_goals first | exact qW5 _ | exact zi9 _
  ·have hil:i = c.kids.length:=by omega
   subst hil
   rw [List.take_length]
   refine .of [] [1] rfl (by first | rfl | (rw [hst];rfl)) ?_ ?_
   all_goals (try simp only [tL,simprocAttr,List.map_append,List.map_cons,List.map_nil,List.cons_append,List.nil_append,List.append_assoc])
   all_goals (try (repeat' (first | exact zh | (apply zU;intro _;exact ⟨rfl,rfl⟩) | (apply qK;intro _;exact ⟨rfl,rfl⟩) | with_reducible apply qX | with_reducible refine qZ ⟨rfl,rfl⟩ ?_ | exact zn | with_reducible apply qR | with_reducible refine qQ ⟨rfl,rfl,?_⟩ ?_ | with_reducible apply And.intro | exact qS rfl | exact qS (by assumption) | (refine ⟨⟨?_,rfl,?_,rfl,?_⟩,trivial⟩ <;> first | (simp;done) | (apply qK;intro _;exact ⟨rfl,rfl⟩)) | trivial | rfl | (rw [qk (by omega)]) | omega)))
   all_goals first | exact qW5 _ | exact zi9 _
end Go.Proofs
