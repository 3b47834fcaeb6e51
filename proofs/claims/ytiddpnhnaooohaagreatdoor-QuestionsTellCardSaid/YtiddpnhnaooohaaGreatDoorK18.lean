/- A part of the proof: trees of Go values, short forms, contracts. -/
import Derived.WalkKit
import Derived.Still
import Derived.MapKept
import GoSem.Builtin.Cap
import Derived.Laws.Externs
import GoSem.Extern.SlicesOverlaps
import Derived.Carry
import Derived.ProofKit
import Derived.OpenShut
import Derived.HandedShaped
import Derived.Lay
import Derived.LaidLaws
import Derived.MakeChecks
import Derived.SevenTiedAt
import Derived.Test.YtiddpnhnaooohaaGreatDoorChecked
import Derived.Test.YtiddpnhnaooohaaGreatDoorK17
set_option linter.unusedSimpArgs false
set_option linter.unusedVariables false
namespace Go.Proofs
open Go Go.TL
set_option maxRecDepth 4000
set_option maxHeartbeats 8000000
theorem zl6 {n w:Int} (hw:0 < w):qA n w * w = n - (if n.tmod w < 0 then n.tmod w + w else n.tmod w):=by
 have h1:=Int.mul_tdiv_add_tmod n w
 rw [Int.mul_comm] at h1
 rw [zv4 hw]
 split
 ·rw [Int.sub_mul];omega
 ·omega
theorem QT (n w:Int) (hw:0 < w∧w≤1000000) (hn : -4611686018427387904 < n∧n < 4611686018427387904):Spc Tryz.prog kD [vI n,vI w] [] (vI (qA n w * w)) []:=by
 rw [zl6 hw.1]
 have h2:=Int.tmod_lt_of_pos n hw.1
 have h3:=Int.lt_tmod_of_pos n hw.1
 have w1:IntKind.i64.wrap (n.tmod w) = n.tmod w:=IntWalk.i64_in _ (by omega)
 have w2:IntKind.i64.wrap (n.tmod w + w) = n.tmod w + w:=IntWalk.i64_in _ (by omega)
 have w3:IntKind.i64.wrap (n - n.tmod w) = n - n.tmod w:=IntWalk.i64_in _ (by omega)
 have w4:IntKind.i64.wrap (n - (n.tmod w + w)) = n - (n.tmod w + w):=IntWalk.i64_in _ (by omega)
 refine qd qI3 mixm (by simp) fun e _ hst=>qg ?_
 unfold Jr
 simp only [tZ,↓un_u,simprocAttr,w1,w2,w3,w4,tD]
 refine ⟨by omega,fun h=>?_,fun h=>?_⟩
 ·rw [if_pos h]
  exact .oA [] []
 ·rw [if_neg h]
  exact .oA [] []
theorem JC (c:Col) (lev:Int) (h1:1≤lev∧lev≤c.widths.length) (h2:c.widths.length < 4611686018427387904):Spc Tryz.prog kY [colT c,vI lev] [] (vI (qS c lev)) []:=by
 have hw:IntKind.i64.wrap ((c.widths.length:Int) - lev) = (c.widths.length:Int) - lev:=IntWalk.i64_in _ (by omega)
 have hk:((c.widths.length:Int) - lev).toNat < c.widths.length:=by omega
 refine qd qA5 mixm (by simp) fun e _ hst=>qg ?_
 unfold Zr
 simp only [tZ,↓un_u,simprocAttr,hw,qe hk]
 rw [qS,qk hk]
 refine ⟨by omega,?_⟩
 exact .oA [] []
theorem Ye (s:Sch) (hE:schE s = 0) (c:Int):Spc Tryz.prog wV [schT s,vI c] [] (vI (finI s c)) []:=by
 have hok:=qZ hE
 have hnc:=hok.nc
 refine qd qs7 mixm (by simp) fun e _ hst=>qg ?_
 unfold Qo
 refine sD ?_
 refine ⟨fun h=>?_,fun h=>?_⟩
 ·rw [finI,if_pos (by omega)]
  exact .oA [] []
 obtain ⟨i,rfl⟩:=Int.eq_ofNat_of_zero_le (show 0≤c by omega)
 have hi:i < s.cols.length:=by omega
 have hat:qh s i = s.cols[i]:=by rw [qh,qk hi]
 have hk:=za (hok.cs i hi)
 have hcd:=fun e=>hok.cdl hi e
 have hcl:qH s i = s.lists.getD s.cols[i].list.toNat default:=by rw [qH,hat]
 rw [hat] at hk hcd
 rw [hcl] at hcd
 rw [finI,if_neg (by omega),Int.toNat_natCast,hcl,hat]
 simp only [tZ,↓un_u,simprocAttr,Int.toNat_natCast,qe hi]
 generalize s.cols[i] = x at hk hcd ⊢
 simp only [tZ,↓un_u,simprocAttr,beq_iff_eq,beq_eq_false_iff_ne]
 refine ⟨by omega,fun h2=>?_,fun h2=>?_⟩
 ·obtain ⟨d1,d2⟩:=hcd h2
  obtain ⟨d3,d4⟩:=hk.2.2.2.1 h2
  have hgl:s.lists.getD x.list.toNat default = s.lists[x.list.toNat]:=qk d1
  rw [if_pos h2]
  rw [hgl] at d2 ⊢
  simp only [tZ,↓un_u,simprocAttr,qe d1]
  generalize s.lists[x.list.toNat] = l at d2 ⊢
  have hlv:=qc8 (l:=l)
  have hw2:IntKind.i64.wrap (zk l - 1) = zk l - 1:=IntWalk.i64_in _ (by omega)
  refine ⟨by omega,?_⟩
  refine C1.im (Jz l) (by rfl) (by rfl) ?_
  simp only [tZ,↓un_u,simprocAttr,hw2]
  exact .oA [] []
 ·rw [if_neg h2]
  exact .oA [] []
theorem yo (s:Sch) (hs:QO s) (c:Int):Spc Tryz.prog jk [schT s,vI c] [] (vI (finI s c)) []:=by
 refine qd qs1 mixm (by simp) fun e _ hst=>qg ?_
 unfold Ql
 refine sW ?_
 refine C1.im (wg s hs.2.1 hs.1) (by rfl) (by rfl) ?_
 simp only [tZ,↓un_u,simprocAttr,bne_iff_ne,bne_eq_false_iff_eq]
 refine ⟨fun h=>?_,fun h=>?_⟩
 ·rw [finI,if_pos (.inl h)]
  exact .oA [] []
 refine C1.im (Ye s h c) (by rfl) (by rfl) ?_
 refine sW ?_
 exact .oA [] []
theorem qC4 (s:Sch) (hs:QO s) (c lev v:Int):Spc Tryz.prog wS [schT s,vI c,vI lev,vI v] [] (vI (qO s c lev v)) []:=by
 refine qd qs3 mixm (by simp) fun e _ hst=>qg ?_
 unfold Qm
 refine sW ?_
 refine C1.im (yo s hs c) (by rfl) (by rfl) ?_
 refine sD ?_
 refine ⟨fun h=>?_,fun h=>?_⟩
 ·rw [qO,if_pos (qj3.2 (by omega))]
  exact .oA [] []
 obtain ⟨hE,c1,c2,hfin⟩:=JB (s:=s) (c:=c) (by omega)
 have hok:=qZ hE
 obtain ⟨i,rfl⟩:=Int.eq_ofNat_of_zero_le (show 0≤c by omega)
 rw [Int.toNat_natCast] at hfin
 have hi:i < s.cols.length:=by omega
 have hat:qh s i = s.cols[i]:=by rw [qh,qk hi]
 have hk:=za (hok.cs i hi)
 have hcd:=fun e=>hok.cdl hi e
 have hwd:=fun e l=>hok.wid hi (by omega) e (lev:=l)
 have hcl:qH s i = s.lists.getD s.cols[i].list.toNat default:=by rw [qH,hat]
 have hE2:qO s i lev v = if s.cols[i].kind = 2 then (if zN s i v = false then -1 else upC (qH s i) v lev)
  else if v≠kT∧inB v (-1000000) 1000000 = false then -1
  else if lev = 0 then 0 else if v = kT then v else qA v (qS s.cols[i] lev) * qS s.cols[i] lev:=by
  rw [qO,if_neg (by rw [Bool.not_eq_false,QA];omega),Int.toNat_natCast,hat]
 rw [hE2]
 rw [hat] at hk hcd hwd hfin
 rw [hcl] at hcd ⊢
 simp only [tZ,↓un_u,simprocAttr,Int.toNat_natCast,qe hi]
 have hho:=qS8 s hok i hi v
 generalize s.cols[i] = x at hk hcd hwd hfin hho ⊢
 refine ⟨by omega,?_⟩
 refine C2.im (fun _=>hho) (fun _=>rfl) (by rfl) ?_
 simp only [tZ,↓un_u,simprocAttr,tD,bne_iff_ne,bne_eq_false_iff_eq,Bool.not_eq_true',Bool.not_eq_false',beq_iff_eq,beq_eq_false_iff_ne]
 rw [show (-1099511627776:Int) = kT from rfl]
 refine ⟨fun h3=>?_,fun h3=>⟨fun h2=>?_,fun h2=>?_⟩⟩
 ·rw [if_pos h3.1,if_pos h3.2]
  exact .oA [] []
 ·rw [if_pos h2]
  obtain ⟨d1,d2⟩:=hcd h2
  obtain ⟨d3,d4⟩:=hk.2.2.2.1 h2
  have hgl:s.lists.getD x.list.toNat default = s.lists[x.list.toNat]:=qk d1
  rw [hgl] at d2 ⊢
  rw [if_neg (by grind)]
  simp only [tZ,↓un_u,simprocAttr,qe d1]
  generalize s.lists[x.list.toNat] = l at d2 ⊢
  refine ⟨by omega,?_⟩
  refine C1.im (Yv l v lev) (by rfl) (by rfl) ?_
  refine sW ?_
  exact .oA [] []
 rw [if_neg h2]
 rw [if_neg h2] at hfin
 refine ⟨fun h3=>?_,fun h3=>?_⟩
 ·rw [if_pos ⟨by omega,qj3.2 (by omega)⟩]
  exact .oA [] []
 rw [if_neg (by rw [qj3];omega)]
 refine ⟨fun h4=>?_,fun h4=>?_⟩
 ·rw [if_pos h4]
  exact .oA [] []
 rw [if_neg h4]
 refine ⟨fun h5=>?_,fun h5=>?_⟩
 ·rw [if_pos h5,h5]
  exact .oA [] []
 rw [if_neg h5]
 obtain ⟨w1,w2,w3,w4,_⟩:=hwd h2 lev (by omega)
 refine C1.im (JC x lev (by omega) (by omega)) (by rfl) (by rfl) ?_
 refine sW ?_
 refine C1.im (QT v (qS x lev) (by omega) (by omega)) (by rfl) (by rfl) ?_
 refine sW ?_
 exact .oA [] []
theorem qj5 (s:Sch) (hE:schE s = 0) (p:Pk):Spc Tryz.prog QG [schT s,pkT p] [] (vI (QR s p)) []:=by
 have hP:QR s p = if finI s p.col < 0 then 7 else if inB p.lev 0 (finI s p.col) = false then 8 else 0:=by
  rw [QR,if_neg (by rw [hE];simp)]
  by_cases h:p.col < 1∨p.col≥s.cols.length
  ·rw [if_pos h,if_pos (by rw [finI,if_pos (by omega)];omega)]
  ·rw [if_neg h]
   have:0≤finI s p.col:=by
    rw [finI,if_neg (by omega)]
    split
    ·rename_i h2
     have hok:=qZ hE
     obtain ⟨_,d2⟩:=hok.cdl (i:=p.col.toNat) (by omega) h2
     rw [zk,if_neg (by rw [d2];simp)]
     omega
    ·omega
   rw [if_neg (show ¬ finI s p.col < 0 by omega)]
 rw [hP]
 refine qd qG5 mixm (by simp) fun e _ hst=>qg ?_
 unfold Ji
 refine sW ?_
 refine C1.im (Ye s hE p.col) (by rfl) (by rfl) ?_
 refine sD ?_
 refine ⟨fun h=>?_,fun h=>⟨fun h2=>?_,fun h2=>?_⟩⟩
 ·rw [if_pos h]
  exact .oA [] []
 ·rw [if_neg h,if_pos (qj3.2 (by omega))]
  exact .oA [] []
 ·rw [if_neg h,if_neg (by rw [qj3];omega)]
  exact .oA [] []
theorem qT5 (s:Sch) (hs:QO s) (p:Pk):Spc Tryz.prog Kr [schT s,pkT p] [] (vI (QR s p)) []:=by
 refine qd qH7 mixm (by simp) fun e _ hst=>qg ?_
 unfold Jo
 refine sW ?_
 refine C1.im (wg s hs.2.1 hs.1) (by rfl) (by rfl) ?_
 simp only [tZ,↓un_u,simprocAttr,bne_iff_ne,bne_eq_false_iff_eq]
 refine ⟨fun h=>?_,fun h=>?_⟩
 ·rw [QR,if_pos h]
  exact .oA [] []
 refine C1.im (qj5 s h p) (by rfl) (by rfl) ?_
 refine sW ?_
 exact .oA [] []
theorem qJ3 (s:Sch) (hs:QO s) (l:List Pk) (hl:l.length < 4611686018427387904):Spc Tryz.prog ZU [schT s,vPs l] [] (vI (qC1 s l)) []:=by
 refine qd qz5 mixm (by simp) fun e _ hst=>qg ?_
 unfold Zk
 refine sW ?_
 refine C1.im (wg s hs.2.1 hs.1) (by rfl) (by rfl) ?_
 simp only [tZ,↓un_u,simprocAttr,bne_iff_ne,bne_eq_false_iff_eq]
 refine ⟨fun h=>?_,fun hE=>?_⟩
 ·rw [qC1,if_pos h]
  exact .oA [] []
 rw [qC1,if_neg (by rw [hE];simp)]
 refine qw mixm (α:=Nat) [16] (fun i=>i≤l.length∧(jt (zv5 s l) i = 0)) (fun i=>[(16,vI i)]) (fun i=>[(4096,.arr 2 [schT s] false)]) (fun i=>l.length - i) 0 ⟨by omega,?_⟩ ?_ fun i hi=>?_
 ·rfl
 ·exact .oA [(4096,some 4096)] []
 simp only [tZ,↓un_u,simprocAttr,decide_eq_true_eq,decide_eq_false_iff_not]
 refine ⟨fun h=>?_,fun h=>?_⟩
 ·have hi2:i < l.length:=by omega
  have hpi:pkAt l i = l[i]:=by rw [pkAt,qk hi2]
  have hstep:=JU hi.2 hi2
  have hnext:=wC hi.2
  have hA:zv5 s l i = if QR s l[i]≠0 then QR s l[i] else if 0 < i∧l[i].col≤(pkAt l (i - 1)).col then 10 else 0:=by rw [zv5,hpi]
  have hi2:i < l.length:=by omega
  have hwi:=qj (i:=i) (by omega)
  simp only [tZ,↓un_u,simprocAttr,Int.toNat_natCast,qe hi2,hwi]
  refine ⟨by omega,?_⟩
  refine C1.im (qj5 s hE l[i]) (by rfl) (by rfl) ?_
  simp only [tZ,↓un_u,simprocAttr,bne_iff_ne,bne_eq_false_iff_eq]
  refine ⟨fun h3=>?_,fun h3=>?_⟩
  ·rw [if_pos h3] at hA
   rw [hstep (by rw [hA];exact h3),hA]
   exact .oA [] []
  rw [if_neg (by rw [h3];simp)] at hA
  rcases Nat.eq_zero_or_pos i with h0 | h0
  ·subst h0
   rw [if_neg (by omega)] at hA
   have hz:((0:Nat):Int) = 0:=rfl
   have hz2:(IntKind.i64.wrap (-1)).toNat = 0:=by decide
   have hz3:=qj (i:=0) (by omega)
   rw [hz] at hz3
   simp only [tZ,↓un_u,simprocAttr,Int.toNat_natCast,hz,beq_self_eq_true,gt_iff_lt,Int.lt_irrefl,Bool.true_and,hz2,qe hi2,hz3]
   refine ⟨by kernel_rfl,1,⟨by omega,by rw [hnext,hA]⟩,by omega,?_⟩
   exact .oA [(4096,some 4096)] []
  ·obtain ⟨k,rfl⟩:∃ k,i = k + 1:=⟨i - 1,by omega⟩
   have hk3:k < l.length:=by omega
   have e2:decide (((k + 1:Nat):Int) > 0) = true:=decide_eq_true (by omega)
   have e3:=Ki (i:=k + 1) (by omega) (by omega)
   rw [Nat.add_sub_cancel] at e3 hA
   rw [pkAt,qk hk3] at hA
   simp only [tZ,↓un_u,simprocAttr,Int.toNat_natCast,qe hi2,qe hk3,e2,e3,hwi,tD]
   refine ⟨by omega,by kernel_rfl,fun h4=>?_,fun h4=>?_⟩
   ·rw [if_pos ⟨by omega,h4⟩] at hA
    rw [hstep (by rw [hA];simp),hA]
    exact .oA [] []
   ·rw [if_neg (by omega)] at hA
    refine ⟨k + 2,⟨by omega,by rw [hnext,hA]⟩,by omega,?_⟩
    exact .oA [(4096,some 4096)] []
 ·have hi2:i = l.length:=by omega
  subst hi2
  rw [hi.2]
  exact .oA [] []
def qo7 (c:Col) (lev v:Int):Int×Int×Bool:=
 if lev = 0 then (c.low,c.high,v == 0) else if v < -2000000∨v > 1000000 then (0,0,false)
 else (max v c.low,min (v + qS c lev - 1) c.high,(qA v (qS c lev) * qS c lev == v) && decide (max v c.low≤min (v + qS c lev - 1) c.high))
theorem ze9 (a b:Int):maxI a b = max a b:=by unfold maxI;split <;> omega
theorem zQ6 (a b:Int):minI a b = min a b:=by unfold minI;split <;> omega
theorem qT6 (c:Col) (lev v:Int) (hl:lev = 0∨(1≤lev∧lev≤c.widths.length∧c.widths.length≤4∧1≤qS c lev∧qS c lev≤1000000)):Spc Tryz.prog Ks [colT c,vI lev,vI v] [] (.tup [vI (qo7 c lev v).1,vI (qo7 c lev v).2.1,vB (qo7 c lev v).2.2]) []:=by
 refine qd qH9 mixm (by simp) fun e _ hst=>qg ?_
 unfold Jp
 simp only [tZ,↓un_u,simprocAttr,tD,beq_iff_eq,beq_eq_false_iff_ne]
 refine ⟨fun h=>?_,fun h=>⟨fun h2=>?_,fun h2=>?_⟩⟩
 ·rw [qo7,if_pos h]
  dsimp only
  repeat (first | refine ⟨by omega,?_⟩ | refine ⟨by kernel_rfl,?_⟩)
  exact .oA [] []
 ·rw [qo7,if_neg h,if_pos h2]
  dsimp only
  exact .oA [] []
 obtain ⟨l1,l2,l3,l4,l5⟩:1≤lev∧lev≤c.widths.length∧c.widths.length≤4∧1≤qS c lev∧qS c lev≤1000000:=by rcases hl with e | e;exact absurd e h;exact e
 rw [qo7,if_neg h,if_neg (by omega)]
 refine C1.im (JC c lev ⟨l1,l2⟩ (by omega)) (by rfl) (by rfl) ?_
 have w1:IntKind.i64.wrap (v + qS c lev) = v + qS c lev:=IntWalk.i64_in _ (by omega)
 have w2:IntKind.i64.wrap (v + qS c lev - 1) = v + qS c lev - 1:=IntWalk.i64_in _ (by omega)
 simp only [tZ,↓un_u,simprocAttr,w1,w2,ze9,zQ6]
 repeat (first | refine ⟨by omega,?_⟩ | refine ⟨by kernel_rfl,?_⟩)
 refine C1.im (QT v (qS c lev) (by omega) (by omega)) (by rfl) (by rfl) ?_
 refine sW ?_
 exact .oA [] []
def qT7 (s:Sch) (i:Nat) (lev v:Int):Int×Bool:=
 if (qh s i).kind = 3 then (if 0 < lev∧v = kT then (v,(qh s i).opt) else ((qo7 (qh s i) lev v).1,(qo7 (qh s i) lev v).2.2))
 else ((qQ s i).find? fun l=>upC (qH s i) l lev == v).elim (0,false) fun l=>(l,true)
theorem qT8 (s:Sch) (hE:schE s = 0) (i:Nat) (hi:i < s.cols.length) (h0:0 < i) (lev v:Int) (hl:0≤lev∧lev≤finI s i):Spc Tryz.prog Kn [schT s,vI i,vI lev,vI v] [] (.tup [vI (qT7 s i lev v).1,vB (qT7 s i lev v).2]) []:=by
 have hok:=qZ hE
 obtain ⟨_,c1,c2,hfin⟩:=JB (s:=s) (c:=i) (by omega)
 rw [Int.toNat_natCast] at hfin
 have hat:qh s i = s.cols[i]:=by rw [qh,qk hi]
 have hk:=za (hok.cs i hi)
 have hcd:=fun e=>hok.cdl hi e
 have hwd:=fun e l=>hok.wid hi (by omega) e (lev:=l)
 have hll:=qo6 hok hi
 have hcl:qH s i = s.lists.getD s.cols[i].list.toNat default:=by rw [qH,hat]
 have hE2:qT7 s i lev v = if s.cols[i].kind = 3 then (if 0 < lev∧v = kT then (v,s.cols[i].opt) else ((qo7 s.cols[i] lev v).1,(qo7 s.cols[i] lev v).2.2))
  else ((qQ s i).find? fun l=>upC (qH s i) l lev == v).elim (0,false) fun l=>(l,true):=by rw [qT7,hat]
 have hlv:qQ s i = atL (qH s i) (zk (qH s i) - 1):=rfl
 rw [hE2]
 rw [hat] at hk hcd hwd hfin hll
 rw [hlv] at hll ⊢
 rw [hcl] at hcd hll ⊢
 refine qd qF5 mixm (by simp) fun e _ hst=>qg ?_
 unfold Jd
 simp only [tZ,↓un_u,simprocAttr,Int.toNat_natCast,qe hi]
 generalize s.cols[i] = x at hk hcd hwd hfin hll ⊢
 have h1:=hk.2.2.1 h0
 simp only [tZ,↓un_u,simprocAttr,tD,beq_iff_eq,beq_eq_false_iff_ne]
 rw [show (-1099511627776:Int) = kT from rfl]
 refine ⟨by omega,fun h3=>⟨fun h4=>?_,fun h4=>?_⟩,fun h3=>?_⟩
 ·rw [if_pos h3,if_pos h4]
  dsimp only
  repeat (first | refine ⟨by omega,?_⟩ | refine ⟨by kernel_rfl,?_⟩)
  exact .oA [] []
 ·rw [if_pos h3,if_neg (by grind)]
  rw [if_neg (by omega)] at hfin
  refine C1.im (qT6 x lev v (by
   by_cases e:lev = 0
   ·exact .inl e
   ·have:=hwd (by omega) lev (by omega)
    exact .inr (by omega))) (by rfl) (by rfl) ?_
  refine sW ?_
  exact .oA [] []
 have h2:x.kind = 2:=by omega
 obtain ⟨d1,d2⟩:=hcd h2
 obtain ⟨d3,d4⟩:=hk.2.2.2.1 h2
 have hll:=hll h2
 have hgl:s.lists.getD x.list.toNat default = s.lists[x.list.toNat]:=qk d1
 rw [hgl] at d2 hll ⊢
 rw [if_neg h3]
 simp only [tZ,↓un_u,simprocAttr,qe d1]
 generalize s.lists[x.list.toNat] = l at d2 hll ⊢
 have hlv:=qc8 (l:=l)
 have hw2:IntKind.i64.wrap (zk l - 1) = zk l - 1:=IntWalk.i64_in _ (by omega)
 refine ⟨by omega,?_⟩
 refine C1.im (Jz l) (by rfl) (by rfl) ?_
 simp only [tZ,↓un_u,simprocAttr,hw2]
 refine C1.im (qo3 l (zk l - 1)) (by rfl) (by rfl) ?_
 refine sW ?_
 repeat (first | refine ⟨by omega,?_⟩ | refine ⟨by kernel_rfl,?_⟩)
 generalize atL l (zk l - 1) = L at hll ⊢
 refine qw mixm (α:=Nat) [56] (fun j=>j≤L.length∧((L.take j).find? (fun y=>upC l y lev == v) = none)) (fun j=>[(56,vI j)]) (fun j=>[(32792,.arr 2 [cdlT l] false)]) (fun j=>L.length - j) 0 ⟨by omega,?_⟩ ?_ fun j hj=>?_
 ·rfl
 ·exact .oA [(32792,some 32792)] []
 simp only [tZ,↓un_u,simprocAttr,decide_eq_true_eq,decide_eq_false_iff_not]
 refine ⟨fun h=>?_,fun h=>?_⟩
 ·have hi2:j < L.length:=by omega
  have hf:L.find? (fun y=>upC l y lev == v) = if upC l L[j] lev == v then some L[j] else (L.drop (j + 1)).find? (fun y=>upC l y lev == v):=by
   conv=>lhs;rw [← List.take_append_drop j L,List.find?_append,hj.2,List.drop_eq_getElem_cons hi2,List.find?_cons]
   cases upC l L[j] lev == v <;> simp
  have hj2:j < L.length:=by omega
  have hwj:=qj (i:=j) (by omega)
  simp only [tZ,↓un_u,simprocAttr,Int.toNat_natCast,qe hj2,hwj]
  refine ⟨by omega,?_⟩
  refine C1.im (Yv l L[j] lev) (by rfl) (by rfl) ?_
  simp only [tZ,↓un_u,simprocAttr,tD,beq_iff_eq,beq_eq_false_iff_ne]
  refine ⟨fun h4=>?_,fun h4=>?_⟩
  ·rw [hf,if_pos (beq_iff_eq.2 h4)]
   exact .oA [] []
  ·refine ⟨j + 1,⟨by omega,?_⟩,by omega,?_⟩
   ·rw [qR hi2,List.find?_append,hj.2]
    simp [h4]
   ·exact .oA [(32792,some 32792)] []
 ·have hj2:j = L.length:=by omega
  subst hj2
  rw [show L.find? (fun y=>upC l y lev == v) = none by rw [← hj.2,List.take_of_length_le (by omega)]]
  exact .oA [] []
end Go.Proofs
namespace Go.Proofs
open Go Go.TL
set_option maxHeartbeats 4000000
abbrev upN (cs:List Cod) (v x:Nat):Nat:=upF cs v (x + 1) x
theorem qT9 {cs:List Cod} {v x:Nat} (h:dep cs x≤v):upN cs v x = x:=zv0 h _
theorem zQ7 {cs:List Cod} (hp:qt4 cs) {v:Nat}:∀ x,x < cs.length→v≤dep cs x→dep cs (upN cs v x) = v∧upN cs v x≤x:=by
 intro x
 induction x using Nat.strongRecOn with
 | _ x ih=>
   intro hx hv
   by_cases h:dep cs x≤v
   ·rw [qT9 h];exact ⟨by omega,Nat.le_refl _⟩
   ·obtain ⟨u1,u2,u3,u4⟩:=up_step hp (lev:=v) hx (by omega)
    have:=ih (parC cs x).toNat (by omega) (by omega) (by omega)
    rw [show upN cs v x = upN cs v (parC cs x).toNat from u4]
    exact ⟨this.1,by omega⟩
theorem zf0 {cs:List Cod} (hp:qt4 cs) {o v:Nat} (ho:o≤v):∀ x,x < cs.length→v≤dep cs x→upN cs o (upN cs v x) = upN cs o x:=by
 intro x
 induction x using Nat.strongRecOn with
 | _ x ih=>
   intro hx hv
   by_cases h:dep cs x≤v
   ·rw [qT9 h]
   ·obtain ⟨u1,u2,u3,u4⟩:=up_step hp (lev:=v) hx (by omega)
    obtain ⟨_,_,_,u5⟩:=up_step hp (lev:=o) hx (by omega)
    rw [show upN cs v x = upN cs v (parC cs x).toNat from u4,show upN cs o x = upN cs o (parC cs x).toNat from u5]
    exact ih (parC cs x).toNat (by omega) (by omega) (by omega)
theorem zZ4 {l:CodL} (h:lstE l = 0):∀ (k c:Nat),l.codes.length - c = k→c < l.codes.length→∀ v,dep l.codes c≤v→(v:Int)≤zk l - 1→∃ d,d < l.codes.length∧dep l.codes d = v∧upN l.codes (dep l.codes c) d = c:=by
 intro k
 induction k using Nat.strongRecOn with
 | _ k ih=>
   intro c hk hc v hv ht
   by_cases e:dep l.codes c = v
   ·exact ⟨c,hc,e,qT9 (Nat.le_refl _)⟩
   obtain ⟨hp,h1,h2⟩:=zc h
   obtain ⟨t1,t2,t3⟩:=zl5 h hc
   cases hl:qc7 l.codes c with
   | true=>have:=t2 hl;omega
   | false=>
     have hn:¬ ∀ i,i < l.codes.length→parC l.codes i≠c:=fun k=>by rw [qS7.2 k] at hl;cases hl
     simp only [Classical.not_forall] at hn
     obtain ⟨i,hi,hn⟩:=hn
     have hpc:parC l.codes i = c:=Classical.byContradiction hn
     have h3:=hp i hi
     have h4:=qo2 hp hi (by omega)
     rw [hpc,Int.toNat_natCast] at h4
     obtain ⟨d,d1,d2,d3⟩:=ih (l.codes.length - i) (by omega) i rfl hi v (by omega) ht
     refine ⟨d,d1,d2,?_⟩
     have h5:=zf0 hp (o:=dep l.codes c) (v:=dep l.codes i) (by omega) d d1 (by omega)
     rw [← h5,d3]
     obtain ⟨_,_,_,u5⟩:=up_step hp (lev:=dep l.codes c) hi (by omega)
     rw [show upN l.codes (dep l.codes c) i = upN l.codes (dep l.codes c) (parC l.codes i).toNat from u5,hpc,Int.toNat_natCast]
     exact qT9 (Nat.le_refl _)
theorem zZ5 {α:Type} [DecidableEq α]:∀ {a b:List α},a.Nodup→(∀ x∈a,x∈b)→a.length≤b.length
 | [],_,_,_=>Nat.zero_le _
 | x :: r,b,hn,hs=>by
   rw [List.nodup_cons] at hn
   have hx:=hs x (List.mem_cons_self ..)
   have:=zZ5 (a:=r) (b:=b.erase x) hn.2 fun y hy=>(List.mem_erase_of_ne (fun e=>hn.1 (by rw [← e];exact hy))).2 (hs y (List.mem_cons_of_mem _ hy))
   rw [List.length_erase_of_mem hx] at this
   have:=List.length_pos_of_mem hx
   simp only [List.length_cons]
   omega
abbrev lvN (cs:List Cod) (v:Nat):List Nat:=(List.range cs.length).filter fun i=>(dep cs i:Int) == v
theorem KQ {cs:List Cod} {v x:Nat}:x∈lvN cs v↔x < cs.length∧dep cs x = v:=by
 rw [List.mem_filter,List.mem_range,beq_iff_eq];omega
theorem zQ8 (cs:List Cod) (v:Nat):(lvN cs v).Nodup:=List.Nodup.sublist List.filter_sublist List.nodup_range
theorem jk7 {l:CodL} (h:lstE l = 0) (v:Nat):(atL l v).length = (lvN l.codes v).length:=by
 rw [atL,if_neg (by rw [h];simp),List.length_map]
theorem jg5 {l:CodL} (h:lstE l = 0) {o v:Nat} (ho:o≤v) (hv:(v:Int)≤zk l - 1):(lvN l.codes o).length≤(lvN l.codes v).length:=by
 obtain ⟨hp,h1,h2⟩:=zc h
 rw [show (lvN l.codes v).length = ((lvN l.codes v).map (upN l.codes o)).length by rw [List.length_map]]
 refine zZ5 (zQ8 _ _) fun c hc=>?_
 rw [KQ] at hc
 obtain ⟨d,d1,d2,d3⟩:=zZ4 h _ c rfl hc.1 v (by omega) hv
 rw [hc.2] at d3
 exact List.mem_map.2 ⟨d,KQ.2 ⟨d1,d2⟩,d3⟩
theorem jq5 {l:CodL} (h:lstE l = 0) {o v:Nat} (ho:o≤v) (hv:(v:Int)≤zk l - 1):(lvN l.codes o).length = (lvN l.codes v).length↔∀ a b,a < l.codes.length→b < l.codes.length→dep l.codes a = v→dep l.codes b = v→upN l.codes o a = upN l.codes o b→a = b:=by
 obtain ⟨hp,h1,h2⟩:=zc h
 constructor
 ·intro e a b ha hb da db hab
  refine Classical.byContradiction fun hne=>?_
  have ma:a∈lvN l.codes v:=KQ.2 ⟨ha,da⟩
  have mb:b∈(lvN l.codes v).erase a:=(List.mem_erase_of_ne (fun e=>hne e.symm)).2 (KQ.2 ⟨hb,db⟩)
  have:=zZ5 (a:=lvN l.codes o) (b:=((lvN l.codes v).erase a).map (upN l.codes o)) (zQ8 _ _) fun c hc=>by
   rw [KQ] at hc
   obtain ⟨d,d1,d2,d3⟩:=zZ4 h _ c rfl hc.1 v (by omega) hv
   rw [hc.2] at d3
   by_cases k:d = a
   ·exact List.mem_map.2 ⟨b,mb,by rw [← hab,← k,d3]⟩
   ·exact List.mem_map.2 ⟨d,(List.mem_erase_of_ne k).2 (KQ.2 ⟨d1,d2⟩),d3⟩
  rw [List.length_map,List.length_erase_of_mem ma] at this
  have:=List.length_pos_of_mem ma
  omega
 ·intro hi
  refine Nat.le_antisymm (jg5 h ho hv) ?_
  rw [show (lvN l.codes v).length = ((lvN l.codes v).map (upN l.codes o)).length by rw [List.length_map]]
  refine zZ5 ?_ fun c hc=>?_
  ·rw [List.Nodup,List.pairwise_map]
   refine List.Pairwise.imp_of_mem ?_ (zQ8 l.codes v)
   intro a b ha hb hne e
   rw [KQ] at ha hb
   exact hne (hi a b ha.1 hb.1 ha.2 hb.2 e)
  ·obtain ⟨d,hd,rfl⟩:=List.mem_map.1 hc
   rw [KQ] at hd
   have:=zQ7 hp (v:=o) d hd.1 (by omega)
   exact KQ.2 ⟨by omega,this.1⟩
theorem qC5 {a k m:Int} (hk:1≤k) (hm:0≤m):qA a k≤qA (a + m) k∧qA (a + m) k≤qA a k + m:=by
 unfold qA
 rw [Int.fdiv_eq_ediv_of_nonneg _ (by omega),Int.fdiv_eq_ediv_of_nonneg _ (by omega)]
 have h1:=Int.mul_ediv_add_emod a k
 have h2:=Int.emod_nonneg a (b:=k) (by omega)
 have h3:=Int.emod_lt_of_pos a (b:=k) (by omega)
 have h4:=Int.mul_ediv_add_emod (a + m) k
 have h5:=Int.emod_nonneg (a + m) (b:=k) (by omega)
 have h6:=Int.emod_lt_of_pos (a + m) (b:=k) (by omega)
 constructor
 ·refine Classical.byContradiction fun c=>?_
  have:k * ((a + m) / k + 1)≤k * (a / k):=Int.mul_le_mul_of_nonneg_left (by omega) (by omega)
  rw [Int.mul_add] at this
  omega
 ·refine Classical.byContradiction fun c=>?_
  have:k * (a / k + m + 1)≤k * ((a + m) / k):=Int.mul_le_mul_of_nonneg_left (by omega) (by omega)
  rw [Int.mul_add,Int.mul_add] at this
  have h7:1 * m≤k * m:=Int.mul_le_mul_of_nonneg_right hk hm
  omega
theorem jq6 {a w k:Int} (hw:1≤w) (hk:1≤k):qA a (k * w) = qA (qA a w) k:=by
 have hkw:0≤k * w:=Int.mul_nonneg (by omega) (by omega)
 unfold qA
 rw [Int.fdiv_eq_ediv_of_nonneg _ (show 0≤w by omega),Int.fdiv_eq_ediv_of_nonneg _ (show 0≤k by omega),Int.fdiv_eq_ediv_of_nonneg _ hkw,Int.mul_comm,Int.ediv_ediv_of_nonneg (by omega)]
theorem zQ9 {a k:Int} (hk:1≤k):(k ∣ a + 1→qA (a + 1) k = qA a k + 1)∧(¬ k ∣ a + 1→qA (a + 1) k = qA a k):=by
 unfold qA
 rw [Int.fdiv_eq_ediv_of_nonneg _ (by omega),Int.fdiv_eq_ediv_of_nonneg _ (by omega)]
 have h1:=Int.mul_ediv_add_emod a k
 have h2:=Int.emod_nonneg a (b:=k) (by omega)
 have h3:=Int.emod_lt_of_pos a (b:=k) (by omega)
 constructor
 ·rintro ⟨q,hq⟩
  rw [hq,Int.mul_ediv_cancel_left _ (by omega)]
  have:q = a / k + 1:=by
   have e:k * (q - (a / k + 1)) = a % k + 1 - k:=by rw [Int.mul_sub,Int.mul_add];omega
   have h4:q - (a / k + 1) = 0:=by
    refine Classical.byContradiction fun c=>?_
    rcases Int.lt_or_gt_of_ne c with c | c
    ·have:k * (q - (a / k + 1))≤k * (-1):=Int.mul_le_mul_of_nonneg_left (by omega) (by omega)
     omega
    ·have:k * 1≤k * (q - (a / k + 1)):=Int.mul_le_mul_of_nonneg_left (by omega) (by omega)
     omega
   omega
  exact this
 ·intro hn
  refine ((Int.ediv_emod_unique (r:=a % k + 1) (q:=a / k) (show 0 < k by omega)).2 ⟨by omega,by omega,?_⟩).1
  refine Classical.byContradiction fun c=>hn ⟨a / k + 1,?_⟩
  rw [Int.mul_add]
  omega
end Go.Proofs
namespace Go.Proofs
open Go Go.TL
set_option maxRecDepth 4000
set_option maxHeartbeats 8000000
theorem jg6 {ws:List Int} (hw:∀ j,j < ws.length→wdOk ws j = true) {i:Nat}:∀ d,i + d < ws.length→∃ k:Int,1≤k∧ws.getD (i + d) 0 = k * ws.getD i 0∧(0 < d→2≤k)
 | 0,h=>⟨1,by omega,by simp,by omega⟩
 | d + 1,h=>by
   obtain ⟨k,k1,k2,_⟩:=jg6 hw d (i:=i) (by omega)
   have h1:=hw (i + d + 1) (by omega)
   rw [wdOk,if_neg (by omega)] at h1
   simp only [Bool.and_eq_true,decide_eq_true_eq,beq_iff_eq,Nat.add_sub_cancel] at h1
   have hp:=zd9 (ws:=ws) hw (i + d) (by omega)
   obtain ⟨⟨a1,a2⟩,a3⟩:=h1
   have h2:=Int.mul_tdiv_add_tmod (ws.getD (i + d + 1) 0) (ws.getD (i + d) 0)
   rw [a3,Int.add_zero] at h2
   generalize (ws.getD (i + d + 1) 0).tdiv (ws.getD (i + d) 0) = q at h2
   have hq:2≤q:=Classical.byContradiction fun c=>by
    have:ws.getD (i + d) 0 * q≤ws.getD (i + d) 0 * 1:=Int.mul_le_mul_of_nonneg_left (by omega) (by omega)
    omega
   have hkq:2 * 1≤q * k:=Int.mul_le_mul hq k1 (by omega) (by omega)
   refine ⟨q * k,by omega,?_,fun _=>by omega⟩
   rw [show i + (d + 1) = i + d + 1 from rfl,← h2,k2,Int.mul_assoc,Int.mul_comm q k,Int.mul_assoc,Int.mul_comm q]
theorem SchOk.wdv {s:Sch} (h:SchOk s) {i:Nat} (hi:i < s.cols.length) (h0:0 < i) (hk:(qh s i).kind≠2) {o lev:Nat} (ho:1≤o∧o < lev) (hl:lev≤(qh s i).widths.length):∃ k:Int,2≤k∧qS (qh s i) o = k * qS (qh s i) lev:=by
 have hk2:=za (h.cs i hi)
 have hk3:(qh s i).kind = 3:=by have:=hk2.2.2.1 h0;omega
 have hm:=hk2.2.2.2.2 hk3
 generalize qh s i = c at hl hm hk3 ⊢
 unfold measE at hm
 split at hm
 ·cases hm
 rename_i h1
 split at hm
 ·cases hm
 rename_i h2
 split at hm
 ·cases hm
 rename_i h3
 rw [Bool.not_eq_false] at h3
 have hw:∀ j,j < c.widths.length→wdOk c.widths j = true:=fun j hj=>List.all_eq_true.1 h3 j (List.mem_range.2 hj)
 obtain ⟨k,_,k2,k3⟩:=jg6 hw (i:=c.widths.length - lev) (lev - o) (by omega)
 refine ⟨k,k3 (by omega),?_⟩
 rw [qS,qS,show ((c.widths.length:Int) - o).toNat = c.widths.length - lev + (lev - o) by omega,show ((c.widths.length:Int) - lev).toNat = c.widths.length - lev by omega]
 exact k2
def blkI (s:Sch) (i lev:Nat):Int:=
 if (qh s i).kind = 2 then ((lvN (qH s i).codes lev).length:Int)
 else if lev = 0 then 1 else qA (qh s i).high (qS (qh s i) lev) - qA (qh s i).low (qS (qh s i) lev) + 1 + (if (qh s i).opt = true then 1 else 0)
theorem zR0 {n:Nat} {p:Nat→Nat→Bool}:qB8 n p = true↔∀ a,a < n→∀ b,b < a→p a b = true:=by
 unfold qB8
 simp only [List.all_eq_true,List.mem_range]
theorem JV {s:Sch} (h:SchOk s) {i:Nat} (hi:i < s.cols.length) (h2:(qh s i).kind = 2) {x:Int}:x∈qQ s i↔∃ c:Nat,x = c∧c < (qH s i).codes.length∧(dep (qH s i).codes c:Int) = zk (qH s i) - 1:=by
 obtain ⟨_,d2⟩:=h.cdl hi h2
 unfold qQ atL
 rw [if_neg (by rw [d2];simp),List.mem_map]
 constructor
 ·rintro ⟨c,hc,rfl⟩
  rw [List.mem_filter,List.mem_range,beq_iff_eq] at hc
  exact ⟨c,rfl,hc.1,hc.2⟩
 ·rintro ⟨c,rfl,h1,h3⟩
  exact ⟨c,List.mem_filter.2 ⟨List.mem_range.2 h1,beq_iff_eq.2 h3⟩,rfl⟩
theorem ZA {s:Sch} (h:SchOk s) {i:Nat} (hi:i < s.cols.length) (h2:(qh s i).kind = 2) {c v:Nat} (hc:c < (qH s i).codes.length) (hd:(dep (qH s i).codes c:Int) = zk (qH s i) - 1) (hv:(v:Int)≤finI s i) (hf:finI s i = zk (qH s i) - 1):qO s i v c = upN (qH s i).codes v c:=by
 obtain ⟨_,d2⟩:=h.cdl hi h2
 have hh:zN s i c = true:=by
  rw [zN,if_neg (by omega),if_pos h2,Bool.and_eq_true,QA,beq_iff_eq,lvlC,if_neg (not_or.2 ⟨fun h=>h d2,by omega⟩),Int.toNat_natCast]
  exact ⟨by omega,hd⟩
 rw [qO,if_neg (by rw [Bool.not_eq_false,QA];omega),Int.toNat_natCast,if_pos h2,if_neg (by rw [hh];simp),upC,if_neg (not_or.2 ⟨fun h=>h d2,by rw [Int.toNat_natCast];omega⟩),Int.toNat_natCast,Int.toNat_natCast]
theorem qU0 {s:Sch} (hE:schE s = 0) {i:Nat} (hi:i < s.cols.length) (h0:0 < i) {o lev:Nat} (ho:o≤lev) (hl:(lev:Int)≤finI s i):blkI s i o≤blkI s i lev∧(divB s i o lev = true↔blkI s i o = blkI s i lev):=by
 have hok:=qZ hE
 by_cases e:o = lev
 ·subst e
  exact ⟨by omega,by rw [zZ3];simp⟩
 obtain ⟨_,c1,c2,hfin⟩:=JB (s:=s) (c:=i) (by omega)
 rw [Int.toNat_natCast] at hfin
 by_cases h2:(qh s i).kind = 2
 ·obtain ⟨_,d2⟩:=hok.cdl hi h2
  rw [if_pos h2] at hfin
  unfold blkI
  rw [if_pos h2,if_pos h2]
  have hle:=jg5 d2 (o:=o) (v:=lev) (by omega) (by omega)
  refine ⟨by omega,?_⟩
  rw [show ((lvN (qH s i).codes o).length:Int) = ((lvN (qH s i).codes lev).length:Int)↔(lvN (qH s i).codes o).length = (lvN (qH s i).codes lev).length by omega,jq5 d2 (by omega) (by omega)]
  unfold divB
  rw [if_neg (by omega),if_pos h2,zR0]
  have hP:∀ j k,(qQ s i).getD j 0∈qQ s i→(qQ s i).getD k 0∈qQ s i→(divP s i (qQ s i) o lev j k = true↔(qO s i o ((qQ s i).getD j 0) = qO s i o ((qQ s i).getD k 0)→qO s i lev ((qQ s i).getD j 0) = qO s i lev ((qQ s i).getD k 0))):=fun j k _ _=>by
   unfold divP
   simp only [Bool.not_eq_true',Bool.and_eq_false_iff,Bool.not_eq_false',beq_iff_eq,beq_eq_false_iff_ne]
   constructor
   ·rintro (h | h) k
    ·exact h
    ·exact absurd k h
   ·intro h
    by_cases k:qO s i o ((qQ s i).getD j 0) = qO s i o ((qQ s i).getD k 0)
    ·exact .inl (h k)
    ·exact .inr k
  have hmem:∀ j,j < (qQ s i).length→(qQ s i).getD j 0∈qQ s i:=fun j hj=>by rw [qk hj];exact List.getElem_mem hj
  obtain ⟨hp,p1,p2⟩:=zc d2
  constructor
  ·intro H a b ha hb da db hab
   obtain ⟨x,x1,x2,x3⟩:=zZ4 d2 _ a rfl ha (zk (qH s i) - 1).toNat (by omega) (by omega)
   obtain ⟨y,y1,y2,y3⟩:=zZ4 d2 _ b rfl hb (zk (qH s i) - 1).toNat (by omega) (by omega)
   rw [da] at x3
   rw [db] at y3
   have hx:(x:Int)∈qQ s i:=(JV hok hi h2).2 ⟨x,rfl,x1,by omega⟩
   have hy:(y:Int)∈qQ s i:=(JV hok hi h2).2 ⟨y,rfl,y1,by omega⟩
   have ux:upN (qH s i).codes o x = upN (qH s i).codes o y:=by
    rw [← zf0 hp (o:=o) (v:=lev) (by omega) x x1 (by omega),← zf0 hp (o:=o) (v:=lev) (by omega) y y1 (by omega),x3,y3,hab]
   obtain ⟨j,hj,ej⟩:=List.getElem_of_mem hx
   obtain ⟨k,hk,ek⟩:=List.getElem_of_mem hy
   rw [← qk (d:=0) hj] at ej
   rw [← qk (d:=0) hk] at ek
   have cl:=fun c (hc:c < (qH s i).codes.length) (hd:(dep (qH s i).codes c:Int) = zk (qH s i) - 1) (v:Nat) (hv:(v:Int)≤finI s i)=>ZA hok hi h2 (v:=v) hc hd hv hfin
   have fin:qO s i lev x = qO s i lev y→a = b:=fun e=>by
    rw [cl x x1 (by omega) lev hl,cl y y1 (by omega) lev hl,x3,y3] at e
    omega
   have eo:qO s i o x = qO s i o y:=by rw [cl x x1 (by omega) o (by omega),cl y y1 (by omega) o (by omega),ux]
   rcases Nat.lt_trichotomy j k with q | q | q
   ·have:=(hP k j (hmem k hk) (hmem j hj)).1 (H k hk j q)
    rw [ej,ek] at this
    exact fin (this eo.symm).symm
   ·subst q
    rw [ej] at ek
    exact fin (by rw [ek])
   ·have:=(hP j k (hmem j hj) (hmem k hk)).1 (H j hj k q)
    rw [ej,ek] at this
    exact fin (this eo)
  ·intro H j hj k hk
   rw [hP j k (hmem j hj) (hmem k (by omega))]
   obtain ⟨x,x0,x1,x2⟩:=(JV hok hi h2).1 (hmem j hj)
   obtain ⟨y,y0,y1,y2⟩:=(JV hok hi h2).1 (hmem k (by omega))
   rw [x0,y0,ZA hok hi h2 x1 x2 (by omega) hfin,ZA hok hi h2 y1 y2 (by omega) hfin,ZA hok hi h2 x1 x2 hl hfin,ZA hok hi h2 y1 y2 hl hfin]
   intro e
   have ux:=zQ7 hp (v:=lev) x x1 (by omega)
   have uy:=zQ7 hp (v:=lev) y y1 (by omega)
   have:=H (upN (qH s i).codes lev x) (upN (qH s i).codes lev y) (by omega) (by omega) ux.1 uy.1 (by
    rw [zf0 hp (by omega) x x1 (by omega),zf0 hp (by omega) y y1 (by omega)];omega)
   rw [this]
 rw [if_neg h2] at hfin
 obtain ⟨w1,w2,w3,w4,w5,w6,w7,_⟩:=hok.wid hi h0 h2 (lev:=lev) (by omega)
 unfold blkI divB
 simp only [if_neg h2,if_neg (show ¬ lev = 0 by omega),if_neg (show ¬ (lev = 0∨lev≤o) by omega)]
 obtain ⟨m,hm⟩:=Int.eq_ofNat_of_zero_le (show 0≤(qh s i).high - (qh s i).low by omega)
 generalize hW:qS (qh s i) lev = w at w1 w2 ⊢
 have hab:=qC5 (a:=(qh s i).low) (k:=w) (m:=m) w1 (by omega)
 rw [show (qh s i).low + (m:Int) = (qh s i).high by omega] at hab
 have f0:∀ c,c * w > (qh s i).high↔qA (qh s i).high w < c:=fun c=>by
  have h3:=qj4 (v:=(qh s i).high) (w:=w) (by omega)
  constructor
  ·intro h
   refine Classical.byContradiction fun z=>?_
   have:c * w≤qA (qh s i).high w * w:=Int.mul_le_mul_of_nonneg_right (by omega) (by omega)
   omega
  ·intro h
   have:(qA (qh s i).high w + 1) * w≤c * w:=Int.mul_le_mul_of_nonneg_right (by omega) (by omega)
   rw [Int.add_mul] at this
   omega
 by_cases o0:o = 0
 ·simp only [if_pos o0]
  cases (qh s i).opt
  ·simp only [Bool.not_false,Bool.true_and,decide_eq_true_eq,f0,Bool.false_eq_true,if_false]
   omega
  ·simp only [Bool.not_true,Bool.false_and,if_true,Bool.false_eq_true,false_iff]
   omega
 simp only [if_neg o0]
 obtain ⟨k,k1,k2⟩:=hok.wdv hi h0 h2 (o:=o) (lev:=lev) (by omega) (by omega)
 rw [hW] at k2
 rw [k2,jq6 w1 (by omega),jq6 w1 (by omega)]
 have f3:∀ x:Int,(x * w).tmod (k * w) = 0↔k ∣ x:=fun x=>by
  constructor
  ·intro h
   obtain ⟨q,hq⟩:=Int.dvd_of_tmod_eq_zero h
   exact ⟨q,Int.eq_of_mul_eq_mul_right (show w≠0 by omega) (by rw [hq,Int.mul_assoc,Int.mul_assoc,Int.mul_comm w])⟩
  ·rintro ⟨q,rfl⟩
   rw [Int.mul_assoc,Int.mul_comm q,← Int.mul_assoc,Int.mul_tmod_right]
 have f2:(qA (qh s i).low w + 1) * w + w = (qA (qh s i).low w + 1 + 1) * w:=by rw [Int.add_mul (_ + 1) 1,Int.one_mul]
 have hD:divM (qh s i).high w (k * w) 2 ((qA (qh s i).low w + 1) * w) = true↔qA (qh s i).high w < qA (qh s i).low w + 1∨(k ∣ qA (qh s i).low w + 1∧(qA (qh s i).high w < qA (qh s i).low w + 1 + 1∨k ∣ qA (qh s i).low w + 1 + 1)):=by
  rw [divM,divM,divM,f2]
  simp only [f0,ne_eq,f3]
  split
  ·rename_i h;simp only [h,true_or,iff_true]
  ·rename_i h
   split
   ·rename_i h4;simp only [h,h4,false_and,or_self,Bool.false_eq_true]
   ·rename_i h4
    rw [Classical.not_not] at h4
    split
    ·rename_i h5;simp only [h4,h5,true_or,and_true,or_true]
    ·rename_i h5
     split
     ·rename_i h6;simp only [h,h5,h6,or_self,and_false,Bool.false_eq_true]
     ·rename_i h6
      rw [Classical.not_not] at h6
      simp only [h4,h6,or_true,and_true]
 rw [hD]
 generalize qA (qh s i).high w = b at hab ⊢
 generalize qA (qh s i).low w = a at hab ⊢
 obtain ⟨n,hn⟩:=Int.eq_ofNat_of_zero_le (show 0≤b - a by omega)
 have e0:=qC5 (a:=a) (k:=k) (m:=n) (by omega) (by omega)
 rw [show a + (n:Int) = b by omega] at e0
 refine ⟨by omega,?_⟩
 by_cases q0:n = 0
 ·have:b = a:=by omega
  subst this
  exact ⟨fun _=>by omega,fun _=>.inl (by omega)⟩
 obtain ⟨s1,s2⟩:=zQ9 (a:=a) (k:=k) (by omega)
 have e1:=qC5 (a:=a + 1) (k:=k) (m:=b - a - 1) (by omega) (by omega)
 rw [show a + 1 + (b - a - 1) = b by omega] at e1
 by_cases d1:k ∣ a + 1
 ·have s1:=s1 d1
  by_cases q1:n = 1
  ·have:b = a + 1:=by omega
   subst this
   exact ⟨fun _=>by omega,fun _=>.inr ⟨d1,.inl (by omega)⟩⟩
  ·have d2:¬ k ∣ a + 1 + 1:=by
    rintro ⟨p,hp⟩
    obtain ⟨r,hr⟩:=d1
    have:k * (p - r) = 1:=by rw [Int.mul_sub];omega
    have:=Int.le_of_dvd (by omega) ⟨_,this.symm⟩
    omega
   obtain ⟨_,s4⟩:=zQ9 (a:=a + 1) (k:=k) (by omega)
   have s4:=s4 d2
   have e2:=qC5 (a:=a + 1 + 1) (k:=k) (m:=b - a - 2) (by omega) (by omega)
   rw [show a + 1 + 1 + (b - a - 2) = b by omega] at e2
   refine ⟨fun h=>?_,fun h=>by omega⟩
   rcases h with h | ⟨_,h | h⟩
   ·omega
   ·omega
   ·exact absurd h d2
 ·have s2:=s2 d1
  refine ⟨fun h=>?_,fun h=>by omega⟩
  rcases h with h | ⟨h,_⟩
  ·omega
  ·exact absurd h d1
theorem Yf (s:Sch) (hE:schE s = 0) (i:Nat) (hi:i < s.cols.length) (h0:0 < i) (lev:Nat) (hl:(lev:Int)≤finI s i):Spc Tryz.prog wU [schT s,vI i,vI lev] [] (vI (blkI s i lev)) []:=by
 have hok:=qZ hE
 obtain ⟨_,c1,c2,hfin⟩:=JB (s:=s) (c:=i) (by omega)
 rw [Int.toNat_natCast] at hfin
 have hat:qh s i = s.cols[i]:=by rw [qh,qk hi]
 have hk:=za (hok.cs i hi)
 have hcd:=fun e=>hok.cdl hi e
 have hwd:=fun e l=>hok.wid hi (by omega) e (lev:=l)
 have hcl:qH s i = s.lists.getD s.cols[i].list.toNat default:=by rw [qH,hat]
 have hE2:blkI s i lev = if s.cols[i].kind = 2 then ((lvN (qH s i).codes lev).length:Int)
  else if lev = 0 then 1 else qA s.cols[i].high (qS s.cols[i] lev) - qA s.cols[i].low (qS s.cols[i] lev) + 1 + (if s.cols[i].opt = true then 1 else 0):=by rw [blkI,hat]
 rw [hE2]
 rw [hat] at hk hcd hwd hfin
 rw [hcl] at hcd ⊢
 refine qd qs5 mixm (by simp) fun e _ hst=>qg ?_
 unfold Qn
 simp only [tZ,↓un_u,simprocAttr,Int.toNat_natCast,qe hi]
 generalize s.cols[i] = x at hk hcd hwd hfin ⊢
 simp only [tZ,↓un_u,simprocAttr,tD,beq_iff_eq,beq_eq_false_iff_ne]
 refine ⟨by omega,fun h2=>?_,fun h2=>⟨fun h3=>?_,fun h3=>?_⟩⟩
 ·rw [if_pos h2]
  obtain ⟨d1,d2⟩:=hcd h2
  obtain ⟨d3,d4⟩:=hk.2.2.2.1 h2
  have hgl:s.lists.getD x.list.toNat default = s.lists[x.list.toNat]:=qk d1
  rw [hgl] at d2 ⊢
  simp only [tZ,↓un_u,simprocAttr,qe d1]
  generalize s.lists[x.list.toNat] = l at d2 ⊢
  refine ⟨by omega,?_⟩
  refine C1.im (qo3 l lev) (by rfl) (by rfl) ?_
  rw [← jk7 d2]
  refine sW ?_
  exact .oA [] []
 ·rw [if_neg h2,if_pos (by omega)]
  exact .oA [] []
 rw [if_neg h2,if_neg (by omega)]
 rw [if_neg h2] at hfin
 obtain ⟨w1,w2,w3,w4,w5,w6,w7,_⟩:=hwd h2 lev (by omega)
 refine C1.im (JC x lev (by omega) (by omega)) (by rfl) (by rfl) ?_
 generalize qS x lev = w at w1 w2 ⊢
 have h4:=qj4 (v:=x.high) (w:=w) (by omega)
 have h5:=qj4 (v:=x.low) (w:=w) (by omega)
 obtain ⟨m,hm⟩:=Int.eq_ofNat_of_zero_le (show 0≤x.high - x.low by omega)
 have hab:=qC5 (a:=x.low) (k:=w) (m:=m) w1 (by omega)
 rw [show x.low + (m:Int) = x.high by omega] at hab
 have wa:IntKind.i64.wrap (qA x.high w * w - qA x.low w * w) = qA x.high w * w - qA x.low w * w:=IntWalk.i64_in _ (by omega)
 have wb:(qA x.high w * w - qA x.low w * w).tdiv w = qA x.high w - qA x.low w:=by rw [← Int.sub_mul,Int.mul_tdiv_cancel _ (by omega)]
 have wc:IntKind.i64.wrap (qA x.high w - qA x.low w) = qA x.high w - qA x.low w:=IntWalk.i64_in _ (by omega)
 have wd:IntKind.i64.wrap (qA x.high w - qA x.low w + 1) = qA x.high w - qA x.low w + 1:=IntWalk.i64_in _ (by omega)
 have we:IntKind.i64.wrap (qA x.high w - qA x.low w + 1 + 1) = qA x.high w - qA x.low w + 1 + 1:=IntWalk.i64_in _ (by omega)
 refine sW ?_
 refine C1.im (QT x.high w (by omega) (by omega)) (by rfl) (by rfl) ?_
 refine sW ?_
 refine C1.im (QT x.low w (by omega) (by omega)) (by rfl) (by rfl) ?_
 simp only [tZ,↓un_u,simprocAttr,wa,wb,wc,wd,we]
 repeat (first | refine ⟨by omega,?_⟩ | refine ⟨by kernel_rfl,?_⟩)
 refine ⟨fun h6=>?_,fun h6=>?_⟩
 ·rw [if_pos h6]
  exact .oA [] []
 ·rw [if_neg (by rw [h6];simp),Int.add_zero]
  exact .oA [] []
theorem zv6 {p:Nat→Bool} {N:Nat}:∀ (f n:Nat),n≤N→N - n < f→p N = true→(∀ m,n≤m→m < N→p m = false)→KV p f n = N
 | 0,n,h1,h2,_,_=>by omega
 | f + 1,n,h1,h2,h3,h4=>by
   rw [KV]
   by_cases e:n = N
   ·subst e;rw [if_pos h3]
   ·rw [if_neg (by rw [h4 n (Nat.le_refl _) (by omega)];simp)]
    exact zv6 f (n + 1) (by omega) (by omega) h3 fun m h5 h6=>h4 m (by omega) h6
theorem YX (s:Sch) (hs:QO s) (c lev:Int):Spc Tryz.prog yT [schT s,vI c,vI lev] [] (vI (ZR s c lev)) []:=by
 refine qd qz3 mixm (by simp) fun e _ hst=>qg ?_
 unfold Zj
 refine sW ?_
 refine C1.im (yo s hs c) (by rfl) (by rfl) ?_
 refine sD ?_
 refine ⟨fun h=>?_,fun h=>?_⟩
 ·rw [ZR,if_pos (qj3.2 (by omega))]
  exact .oA [] []
 rw [ZR,if_neg (by rw [qj3];omega)]
 obtain ⟨hE,c1,c2,hfin⟩:=JB (s:=s) (c:=c) (by omega)
 have hfl:=qT4 (c:=c) hE
 have hok:=qZ hE
 obtain ⟨i,rfl⟩:=Int.eq_ofNat_of_zero_le (show 0≤c by omega)
 obtain ⟨v,rfl⟩:=Int.eq_ofNat_of_zero_le (show 0≤lev by omega)
 simp only [Int.toNat_natCast]
 have hi:i < s.cols.length:=by omega
 have key:∀ n,n≤v→blkI s i n = blkI s i v→(n = 0∨blkI s i (n - 1)≠blkI s i n)→KV (fun n=>divB s i n v) 64 0 = n:=fun n h1 h2 h3=>by
  refine zv6 64 0 (by omega) (by omega) ((qU0 hE hi (by omega) h1 (by omega)).2.2 h2) fun m _ hm=>?_
  cases e:divB s i m v with
  | false=>rfl
  | true=>
    have e1:=(qU0 hE hi (by omega) (show m≤v by omega) (by omega)).2.1 e
    have e2:=(qU0 hE hi (by omega) (show m≤n - 1 by omega) (by omega)).1
    have e3:=(qU0 hE hi (by omega) (show n - 1≤n by omega) (by omega)).1
    omega
 refine qw mixm (α:=Nat) [2,17] (fun n=>n≤v∧blkI s i n = blkI s i v) (fun n=>[(2,vI n)]) (fun n=>[(4096,.arr 2 [schT s] false)]) (fun n=>n) v ⟨by omega,rfl⟩ ?_ fun n hn=>?_
 ·exact .oA [(4096,some 4096)] []
 obtain ⟨n1,n2⟩:=hn
 rcases Nat.eq_zero_or_pos n with hz | hz
 ·subst hz
  have e0:decide (((0:Nat):Int) > 0) = false:=by decide
  simp only [tZ,↓un_u,simprocAttr,e0]
  refine C2.no (fun h=>h) ?_
  refine sW ?_
  refine C2.no (fun h=>h) ?_
  refine sW ?_
  repeat (first | refine ⟨by omega,?_⟩ | refine ⟨by kernel_rfl,?_⟩)
  rw [key 0 (by omega) n2 (.inl rfl)]
  exact .oA [] []
 ·obtain ⟨k,rfl⟩:∃ k,n = k + 1:=⟨n - 1,by omega⟩
  have e0:decide (((k + 1:Nat):Int) > 0) = true:=decide_eq_true (by omega)
  have e3:=Ki (i:=k + 1) (by omega) (by omega)
  rw [Nat.add_sub_cancel] at e3
  simp only [tZ,↓un_u,simprocAttr,e0,e3]
  refine C2.im (fun _=>Yf s hE i hi (by omega) k (by omega)) (fun _=>rfl) (by rfl) ?_
  refine sW ?_
  refine C2.im (fun _=>Yf s hE i hi (by omega) (k + 1) (by omega)) (fun _=>rfl) (by rfl) ?_
  simp only [tZ,↓un_u,simprocAttr,beq_iff_eq,beq_eq_false_iff_ne,e3]
  repeat (first | refine ⟨by omega,?_⟩ | refine ⟨by kernel_rfl,?_⟩)
  refine ⟨fun h5=>?_,fun h5=>?_⟩
  ·refine ⟨k,⟨by omega,by omega⟩,by omega,?_⟩
   exact .oA [(4096,some 4096)] []
  ·rw [key (k + 1) (by omega) n2 (.inr h5)]
   exact .oA [] []
end Go.Proofs
namespace Go.Proofs
open Go Go.TL
abbrev cnT (c:Cnd):T:=.agg [vI c.op,vI c.col,vI c.code,vI c.lo,vI c.hi,vCs c.kids]
theorem zZ6 (c:Cnd):(cndT c).cells.length = 6∧imL (cndT c).cells = true:=by rw [zg];exact ⟨rfl,rfl⟩
theorem qj6 {α:Type} {f:α→T} {l:List α} {i:Nat} (h:l.length≤i):(l.map f).getD i .junk = .junk:=by simp [List.getD,h]
theorem zl7 {α:Type} {l:List α} {i:Nat} (h:i < l.length):l.drop i = l[i] :: l.drop (i + 1):=List.drop_eq_getElem_cons h
theorem qU1:∀ (c:Cnd) (m:Int),1≤m→m≤1000→Spc Tryz.prog QH [cnT c,vI m] [] (vI (cntC c m)) []:=by
 refine Cnd.ind' fun c ih m hm hm2=>?_
 rw [Qw]
 refine qd qH1 mixm (by simp) fun e _ hst=>qg ?_
 unfold Jl
 refine sW ?_
 refine qw mixm (α:=Nat×Int) [5,6] (fun y=>y.1≤c.kids.length∧jV c.kids m 1 = jV (c.kids.drop y.1) m y.2∧y.2≤m∧y.1 + 1≤y.2) (fun y=>[(5,vI y.2),(6,vI y.1)]) (fun y=>[(4096,.arr 6 [cnT c] false)]) (fun y=>c.kids.length - y.1) (0,1) ⟨by simp,rfl,hm,by simp⟩ ?_ fun y hy=>?_
 ·exact .oA [(4096,some 4096)] []
 obtain ⟨i,n⟩:=y
 obtain ⟨y1,y2,y3,y4⟩:=hy
 dsimp only at y1 y2 y3 y4
 rw [y2]
 refine sD ?_
 refine ⟨fun h=>?_,fun h=>?_⟩
 ·have hi:i < c.kids.length:=by omega
  have hwi:=qj (i:=i) (by omega)
  have hw:IntKind.i64.wrap (m - n) = m - n:=IntWalk.i64_in _ (by omega)
  have hc:=qr2 c.kids[i] (m - n) (by omega)
  have hw2:IntKind.i64.wrap (n + cntC c.kids[i] (m - n)) = n + cntC c.kids[i] (m - n):=IntWalk.i64_in _ (by omega)
  simp only [tZ,↓un_u,simprocAttr,Int.toNat_natCast,qe hi,zg,hw]
  refine ⟨by omega,?_⟩
  refine C1.im (ih _ (List.getElem_mem hi) (m - n) (by omega) (by omega)) (by rfl) (by rfl) ?_
  simp only [tZ,↓un_u,simprocAttr,hw2,hwi]
  refine ⟨(i + 1,n + cntC c.kids[i] (m - n)),⟨by dsimp only;omega,?_,by dsimp only;omega,by dsimp only;omega⟩,by dsimp only;omega,?_⟩
  ·dsimp only
   rw [zl7 hi,jV,if_pos (by omega)]
  ·exact .oA [(4096,some 4096)] []
 ·have:jV (c.kids.drop i) m n = n:=by
   by_cases hi:i < c.kids.length
   ·rw [zl7 hi,jV,if_neg (by omega)]
   ·rw [List.drop_of_length_le (by omega),jV]
  rw [this]
  exact .oA [] []
theorem qo8:∀ (l:List Cnd) (k:Cnd),jG (l ++ [k]) = max (jG l) (depC k)
 | [],k=>by simp [jG]
 | x :: r,k=>by rw [List.cons_append,jG,qo8 r k,jG];omega
theorem qo9:∀ (l:List Cnd) (i:Nat),jG (l.take i)≤jG l
 | [],i=>by simp
 | x :: r,0=>by simp [jG]
 | x :: r,i + 1=>by rw [List.take_succ_cons,jG,jG];have:=qo9 r i;omega
theorem Yw:∀ {l:List Cnd} {m n:Int},n≤m→jV l m n < m→n + l.length≤jV l m n∧∀ k∈l,∃ m',1≤m'∧m'≤m - n∧cntC k m' < m'
 | [],m,n,_,h=>by rw [jV];simp
 | x :: r,m,n,h1,h=>by
   rw [jV] at h ⊢
   split at h
   ·rename_i h2
    rw [if_pos h2]
    have h3:=qr2 x (m - n) (by omega)
    obtain ⟨h4,h5⟩:=Yw (l:=r) (by omega) h
    refine ⟨by rw [List.length_cons];omega,fun k hk=>?_⟩
    rcases List.mem_cons.1 hk with e | hk
    ·subst e
     exact ⟨m - n,by omega,by omega,by omega⟩
    ·obtain ⟨m',a,b,c⟩:=h5 k hk
     exact ⟨m',a,by omega,c⟩
   ·omega
theorem qU2:∀ (c:Cnd) (m:Int),1≤m→m≤1000→cntC c m < m→Spc Tryz.prog QI [cnT c] [] (vI (depC c)) []:=by
 refine Cnd.ind' fun c ih m hm hm2 hc=>?_
 have hd:=zQ5 c m hm hc
 rw [Qw] at hc hd
 obtain ⟨hk1,hk2⟩:=Yw (by omega) hc
 rw [qo4] at hd ⊢
 refine qd qH3 mixm (by simp) fun e _ hst=>qg ?_
 unfold Jm
 refine sW ?_
 refine qw mixm (α:=Nat) [3,4] (fun i=>i≤c.kids.length) (fun i=>[(3,vI (jG (c.kids.take i))),(4,vI i)]) (fun i=>[(4096,.arr 6 [cnT c] false)]) (fun i=>c.kids.length - i) 0 (by omega) ?_ fun i hi=>?_
 ·refine .of [(4096,some 4096)] [] rfl (by first | rfl | (rw [hst];rfl)) ?_ ?_
  all_goals (try simp only [tL,simprocAttr,List.map_append,List.map_cons,List.map_nil,List.cons_append,List.nil_append,List.take_zero,jG])
  all_goals (try (repeat' (first | exact qT | (apply zj;intro _;exact ⟨rfl,rfl⟩) | (apply qz;intro _;exact ⟨rfl,rfl⟩) | with_reducible apply qJ | with_reducible refine qM ⟨rfl,rfl⟩ ?_ | exact qW | with_reducible apply qE | with_reducible refine qK ⟨rfl,rfl,?_⟩ ?_ | with_reducible apply And.intro | exact qG rfl | exact qG (by assumption) | (refine ⟨⟨?_,rfl,?_,rfl,?_⟩,trivial⟩ <;> first | (simp;done) | (apply qz;intro _;exact ⟨rfl,rfl⟩)) | trivial | rfl | (rw [qj (by omega)]) | omega)))
 have hdt:=qo9 c.kids i
 refine sD ?_
 refine ⟨fun h=>?_,fun h=>?_⟩
 ·have hi2:i < c.kids.length:=by omega
  have hwi:=qj (i:=i) (by omega)
  have hs:jG (c.kids.take (i + 1)) = max (jG (c.kids.take i)) (depC c.kids[i]):=by rw [qR hi2,qo8]
  obtain ⟨m',a1,a2,a3⟩:=hk2 _ (List.getElem_mem hi2)
  simp only [tZ,↓un_u,simprocAttr,Int.toNat_natCast,qe hi2,zg]
  refine ⟨by omega,?_⟩
  refine C1.im (ih _ (List.getElem_mem hi2) m' a1 (by omega) a3) (by rfl) (by rfl) ?_
  have hmx:maxI (jG (c.kids.take i):Int) (depC c.kids[i]) = (jG (c.kids.take (i + 1)):Int):=by rw [hs];unfold maxI;omega
  simp only [tZ,↓un_u,simprocAttr,hwi,hmx]
  refine ⟨i + 1,by omega,by omega,?_⟩
  exact .oA [(4096,some 4096)] []
 ·have hil:i = c.kids.length:=by omega
  subst hil
  rw [List.take_length] at hdt ⊢
  have hw:=qj (i:=jG c.kids) (by omega)
  simp only [tZ,↓un_u,simprocAttr,hw]
  exact .oA [] []
theorem qX (s:Sch) (col kind:Int):Spc Tryz.prog JM [schT s,vI col,vI kind] [] (vB (isB s col kind)) []:=by
 by_cases h:0≤col∧col < s.cols.length
 ·obtain ⟨i,rfl⟩:=Int.eq_ofNat_of_zero_le h.1
  have hi:i < s.cols.length:=by omega
  have e1:decide ((i:Int)≥0) = true:=decide_eq_true (by omega)
  have e2:decide ((i:Int) < s.cols.length) = true:=decide_eq_true (by omega)
  have e3:isB s i kind = (s.cols[i].kind == kind):=by
   rw [isB,Int.toNat_natCast,qh,qk hi,decide_eq_true h.1,decide_eq_true h.2];rfl
  refine qd qc4 mixm (by simp) fun e _ hst=>qg ?_
  unfold Zu
  simp only [tZ,↓un_u,simprocAttr,e1,e2,Int.toNat_natCast,qe hi]
  rw [e3]
  refine ⟨by omega,?_⟩
  exact .oA [] []
 ·have e1:(decide (col≥0) && decide (col < (s.cols.length:Int))) = false:=by
   rw [Bool.and_eq_false_iff,decide_eq_false_iff_not,decide_eq_false_iff_not];omega
  have e3:isB s col kind = false:=by
   unfold isB
   rw [show (decide (0≤col) && decide (col < (s.cols.length:Int))) = false from e1];rfl
  rcases Nat.lt_or_ge col.toNat s.cols.length with hk | hk
  ·refine qd qc4 mixm (by simp) fun e _ hst=>qg ?_
   unfold Zu
   simp only [tZ,↓un_u,simprocAttr,e1,qe hk]
   rw [e3]
   exact .oA [] []
  ·have hj:(s.cols.map colT).getD col.toNat .junk = .junk:=qj6 hk
   refine qd qc4 mixm (by simp) fun e _ hst=>qg ?_
   unfold Zu
   simp only [tZ,↓un_u,simprocAttr,e1,hj,List.drop_succ_cons,List.drop_nil]
   rw [e3]
   exact .oA [] []
end Go.Proofs
