/- A part of the proof: trees of Go values, short forms, contracts. -/
import Derived.WalkKit
import Derived.Still
import Derived.MapKept
import GoSem.Builtin.Cap
import Derived.Laws.Externs
import GoSem.Extern.SlicesOverlaps
import Derived.Carry
import Derived.ProofKit
import Derived.OpenShut
import Derived.HandedShaped
import Derived.Lay
import Derived.LaidLaws
import Derived.MakeChecks
import Derived.SevenTiedAt
import Derived.Test.YtiddpnhnaooohaaGreatDoorChecked
import Derived.Test.YtiddpnhnaooohaaGreatDoorK21
set_option linter.unusedSimpArgs false
set_option linter.unusedVariables false
namespace Go.Proofs
open Go Go.TL
set_option maxRecDepth 4000
set_option maxHeartbeats 8000000
theorem zL1 {n:Nat} {p:Nat→Nat→Bool} (h:Wh n p = true) {i k:Nat} (hi:i < n) (hk:k < n) (hne:i≠k):p (max i k) (min i k) = true:=by
 rcases Nat.lt_or_gt_of_ne hne with q | q
 ·rw [show max i k = k by omega,show min i k = i by omega]
  exact Wn.1 h k hk i q
 ·rw [show max i k = i by omega,show min i k = k by omega]
  exact Wn.1 h i hi k q
theorem zp0 {n:Nat} {p:Nat→Nat→Bool} (h:Wh n p = false):∃ i k,i < n∧k < i∧p i k = false:=by
 refine Classical.byContradiction fun hn=>?_
 have:Wh n p = true:=Wn.2 fun i hi k hk=>by
  cases e:p i k with
  | true=>rfl
  | false=>exact absurd ⟨i,k,hi,hk,e⟩ hn
 rw [this] at h;cases h
theorem zT5 {s:Sch} {c:Cnd} {v:Int} (o:c.op = 4):zr s c v = tf (v == zj):=by
 unfold zr
 rw [if_neg (show ¬ c.op = 2 by omega),if_neg (show ¬ c.op = 3 by omega),if_pos o]
theorem jl3 {s:Sch} {c:Cnd} {v:Int} (o:c.op = 3):zr s c v = if v = zj then 0 else tf (decide (c.lo≤v) && decide (v≤c.hi)):=by
 unfold zr
 rw [if_neg (show ¬ c.op = 2 by omega),if_pos o]
theorem jf9 {s:Sch} (hE:schE s = 0) {c:Cnd} (hnd:NdOk s c) (hia:isAt c = true) {lev:Nat} (hl:(lev:Int)≤finI s c.col) (hd:decB s c lev = true) {a b:Int} (ha:qH s c.col.toNat a = true) (hb:qH s c.col.toNat b = true) (h:qh s c.col lev a = qh s c.col lev b):zr s c a = zr s c b:=by
 obtain ⟨_,c1,c2,hfin⟩:=yE (s:=s) (c:=c.col) (by omega)
 obtain ⟨i,hci⟩:=Int.eq_ofNat_of_zero_le (show 0≤c.col by omega)
 have hcn:c.col.toNat = i:=by omega
 have hil:i < s.cols.length:=by omega
 have hok:=qK hE
 have hop:c.op = 2∨c.op = 3∨c.op = 4:=by
  unfold isAt at hia
  simp only [Bool.or_eq_true,beq_iff_eq] at hia
  omega
 rw [hcn] at ha hb
 by_cases o2:c.op = 2
 ·have hk2:(qd s i).kind = 2:=by have:=(zA.1 (hnd.under o2).1).2.2;rw [hcn] at this;exact this
  have ma:=(jG hok hil hk2).1 ha
  have mb:=(jG hok hil hk2).1 hb
  by_cases e:a = b
  ·rw [e]
  obtain ⟨j,hj,rfl⟩:=List.getElem_of_mem ma
  obtain ⟨k,hk,rfl⟩:=List.getElem_of_mem mb
  unfold decB at hd
  rw [if_pos o2,hcn] at hd
  have hp:=zL1 hd hj hk (fun q=>e (by subst q;rfl))
  have key:∀ x y,x < (qz s i).length→y < (qz s i).length→decP s c lev x y = true→qh s c.col lev ((qz s i).getD x 0) = qh s c.col lev ((qz s i).getD y 0)→zr s c ((qz s i).getD x 0) = zr s c ((qz s i).getD y 0):=fun x y _ _ hp he=>by
   unfold decP at hp
   rw [hcn,he] at hp
   simpa using hp
  have gj:(qz s i).getD j 0 = (qz s i)[j]:=qj hj
  have gk:(qz s i).getD k 0 = (qz s i)[k]:=qj hk
  rw [← gj,← gk] at h ⊢
  rcases Nat.lt_or_ge j k with q | q
  ·rw [show max j k = k by omega,show min j k = j by omega] at hp
   exact (key k j hk hj hp h.symm).symm
  ·rw [show max j k = j by omega,show min j k = k by omega] at hp
   exact key j k hj hk hp h
 ·have h3:(qd s i).kind = 3:=by
   rcases hop with o | o | o
   ·exact absurd o o2
   ·have:=(zA.1 (hnd.between o).1).2.2;rw [hcn] at this;exact this
   ·have:=(zA.1 (hnd.miss o).1).2.2;rw [hcn] at this;exact this
  have h2:(qd s i).kind≠2:=by omega
  have hm:=kY hE hil (by omega) h2
  have hlh:=hm.lh
  rw [hci] at hl h
  have hsame:1≤lev→_:=fun h1=>(ZX hE hil (by omega) h2 h1 hl ha hb).1 h
  have va:=(jp h3).1 ha
  have vb:=(jp h3).1 hb
  unfold decB at hd
  rw [if_neg o2,hcn] at hd
  by_cases o4:c.op = 4
  ·rw [if_pos o4,decide_eq_true_eq] at hd
   rw [zT5 o4,zT5 o4]
   rcases hsame (by omega) with k | k
   ·rw [k.1,k.2]
   ·rw [beq_eq_false_iff_ne.2 k.1,beq_eq_false_iff_ne.2 k.2.1]
  ·have o3:c.op = 3:=by omega
   rw [if_neg o4] at hd
   dsimp only at hd
   rw [jl3 o3,jl3 o3]
   by_cases e0:lev = 0
   ·subst e0
    rw [if_pos rfl] at hd
    simp only [Bool.and_eq_true,Bool.not_eq_true',Bool.and_eq_false_iff,decide_eq_false_iff_not] at hd
    have na:a≠zj:=fun e=>by
     rcases va with k | k
     ·rw [k.1] at hd;simp at hd
     ·unfold zj at e;omega
    have nb:b≠zj:=fun e=>by
     rcases vb with k | k
     ·rw [k.1] at hd;simp at hd
     ·unfold zj at e;omega
    rw [if_neg na,if_neg nb]
    have ra:(qd s i).low≤a∧a≤(qd s i).high:=va.resolve_left fun k=>na k.2
    have rb:(qd s i).low≤b∧b≤(qd s i).high:=vb.resolve_left fun k=>nb k.2
    congr 1
    have e1:(c.lo≤a)↔(c.lo≤b):=by omega
    have e2:(a≤c.hi)↔(b≤c.hi):=by omega
    rw [decide_eq_decide.2 e1,decide_eq_decide.2 e2]
   ·rw [if_neg e0] at hd
    rcases hsame (by omega) with k | ⟨na,nb,hbl⟩
    ·rw [k.1,k.2]
    ·rw [if_neg na,if_neg nb]
     have ra:(qd s i).low≤a∧a≤(qd s i).high:=va.resolve_left fun k=>na k.2
     have rb:(qd s i).low≤b∧b≤(qd s i).high:=vb.resolve_left fun k=>nb k.2
     have hf:=hm.fin
     have hw:=hm.wid lev (by omega) (by omega)
     simp only [Bool.and_eq_true,Bool.or_eq_true,Bool.not_eq_true',Bool.and_eq_false_iff,decide_eq_false_iff_not,zo8] at hd
     congr 1
     have e1:(c.lo≤a)↔(c.lo≤b):=by
      rcases hd.1 with k | k
      ·omega
      ·exact zd6 (by omega) k hbl
     have e2:(a≤c.hi)↔(b≤c.hi):=by
      rcases hd.2 with k | k
      ·omega
      ·have:=zd6 (by omega) k hbl
       omega
     rw [decide_eq_decide.2 e1,decide_eq_decide.2 e2]
theorem jg0 {s:Sch} (hE:schE s = 0) {c:Cnd} (hnd:NdOk s c) (hia:isAt c = true) {lev:Nat} (hl:(lev:Int)≤finI s c.col) (hd:decB s c lev = false):∃ a b,qH s c.col.toNat a = true∧qH s c.col.toNat b = true∧qh s c.col lev a = qh s c.col lev b∧zr s c a≠zr s c b:=by
 obtain ⟨_,c1,c2,hfin⟩:=yE (s:=s) (c:=c.col) (by omega)
 obtain ⟨i,hci⟩:=Int.eq_ofNat_of_zero_le (show 0≤c.col by omega)
 have hcn:c.col.toNat = i:=by omega
 have hil:i < s.cols.length:=by omega
 have hok:=qK hE
 have hop:c.op = 2∨c.op = 3∨c.op = 4:=by
  unfold isAt at hia
  simp only [Bool.or_eq_true,beq_iff_eq] at hia
  omega
 rw [hcn]
 by_cases o2:c.op = 2
 ·have hk2:(qd s i).kind = 2:=by have:=(zA.1 (hnd.under o2).1).2.2;rw [hcn] at this;exact this
  unfold decB at hd
  rw [if_pos o2,hcn] at hd
  obtain ⟨j,k,hj,hk,hp⟩:=zp0 hd
  unfold decP at hp
  rw [hcn] at hp
  simp only [Bool.not_eq_false',Bool.and_eq_true,beq_iff_eq,Bool.not_eq_true',beq_eq_false_iff_ne] at hp
  refine ⟨_,_,?_,?_,hp.1,hp.2⟩
  ·rw [jG hok hil hk2,qj hj];exact List.getElem_mem _
  ·rw [jG hok hil hk2,qj (show k < (qz s i).length by omega)];exact List.getElem_mem _
 ·have h3:(qd s i).kind = 3:=by
   rcases hop with o | o | o
   ·exact absurd o o2
   ·have:=(zA.1 (hnd.between o).1).2.2;rw [hcn] at this;exact this
   ·have:=(zA.1 (hnd.miss o).1).2.2;rw [hcn] at this;exact this
  have h2:(qd s i).kind≠2:=by omega
  have hm:=kY hE hil (by omega) h2
  have hlh:=hm.lh
  rw [hci] at hl ⊢
  have hH:∀ v,(qd s i).low≤v→v≤(qd s i).high→qH s i v = true:=fun v h1 h2=>(jp h3).2 (.inr ⟨h1,h2⟩)
  have hO:(qd s i).opt = true→qH s i zj = true:=fun h=>(jp h3).2 (.inl ⟨h,rfl⟩)
  have hnm:∀ v,(qd s i).low≤v→v≠zj:=fun v h e=>by unfold zj at e;omega
  have hA:c.op = 3→∀ v,v≠zj→zr s c v = tf (decide (c.lo≤v) && decide (v≤c.hi)):=fun o v hv=>by unfold zr;rw [if_neg o2,if_pos o,if_neg hv]
  have hz:∀ v,qH s i v = true→qh s i 0 v = 0:=fun v hv=>qN2 hE hil (by omega) h2 hv
  have htf:tf true≠tf false∧(0:Int)≠tf true∧(0:Int)≠tf false:=by decide
  unfold decB at hd
  rw [if_neg o2,hcn] at hd
  by_cases o4:c.op = 4
  ·rw [if_pos o4,decide_eq_false_iff_not] at hd
   have e0:lev = 0:=by omega
   subst e0
   have hopt:=(hnd.miss o4).2
   rw [hcn] at hopt
   refine ⟨zj,(qd s i).low,hO hopt,hH _ (by omega) (by omega),?_,?_⟩
   ·show qh s i 0 _ = qh s i 0 _
    rw [hz _ (hO hopt),hz _ (hH _ (by omega) (by omega))]
   ·rw [zT5 o4,zT5 o4,beq_self_eq_true,beq_eq_false_iff_ne.2 (hnm _ (by omega))]
    exact htf.1
  ·have o3:c.op = 3:=by omega
   have hlohi:=(hnd.between o3).2.2.2
   rw [if_neg o4] at hd
   dsimp only at hd
   have hfst:(qd s i).low < c.lo→c.lo≤(qd s i).high→qh s i lev (c.lo - 1) = qh s i lev c.lo→∃ a b,qH s i a = true∧qH s i b = true∧qh s i lev a = qh s i lev b∧zr s c a≠zr s c b:=fun g1 g2 g3=>by
    refine ⟨c.lo - 1,c.lo,hH _ (by omega) (by omega),hH _ (by omega) (by omega),g3,?_⟩
    rw [hA o3 _ (hnm _ (by omega)),hA o3 _ (hnm _ (by omega)),decide_eq_false (show ¬ c.lo≤c.lo - 1 by omega),decide_eq_true (show c.lo≤c.lo by omega),decide_eq_true (show c.lo≤c.hi by omega)]
    exact htf.1.symm
   have hbeh:(qd s i).low≤c.hi→c.hi < (qd s i).high→qh s i lev c.hi = qh s i lev (c.hi + 1)→∃ a b,qH s i a = true∧qH s i b = true∧qh s i lev a = qh s i lev b∧zr s c a≠zr s c b:=fun g1 g2 g3=>by
    refine ⟨c.hi,c.hi + 1,hH _ (by omega) (by omega),hH _ (by omega) (by omega),g3,?_⟩
    rw [hA o3 _ (hnm _ (by omega)),hA o3 _ (hnm _ (by omega)),decide_eq_true (show c.lo≤c.hi by omega),decide_eq_true (show c.hi≤c.hi by omega),decide_eq_false (show ¬ c.hi + 1≤c.hi by omega),Bool.and_false]
    exact htf.1
   by_cases e0:lev = 0
   ·subst e0
    rw [if_pos rfl] at hd
    have hz2:∀ a b,qH s i a = true→qH s i b = true→qh s i ((0:Nat):Int) a = qh s i ((0:Nat):Int) b:=fun a b ha hb=>by
     show qh s i 0 _ = qh s i 0 _
     rw [hz _ ha,hz _ hb]
    cases hopt:(qd s i).opt with
    | true=>
      refine ⟨zj,(qd s i).low,hO hopt,hH _ (by omega) (by omega),hz2 _ _ (hO hopt) (hH _ (by omega) (by omega)),?_⟩
      rw [hA o3 _ (hnm (qd s i).low (by omega))]
      unfold zr
      rw [if_neg o2,if_pos o3,if_pos rfl]
      cases (decide (c.lo≤(qd s i).low) && decide ((qd s i).low≤c.hi))
      ·exact htf.2.2
      ·exact htf.2.1
    | false=>
      rw [hopt] at hd
      simp only [Bool.not_false,Bool.true_and,Bool.and_eq_false_iff,Bool.not_eq_false',Bool.and_eq_true,decide_eq_true_eq] at hd
      rcases hd with ⟨g1,g2⟩ | ⟨g1,g2⟩
      ·exact hfst g1 g2 (hz2 _ _ (hH _ (by omega) (by omega)) (hH _ (by omega) (by omega)))
      ·exact hbeh g1 g2 (hz2 _ _ (hH _ (by omega) (by omega)) (hH _ (by omega) (by omega)))
   ·rw [if_neg e0] at hd
    have hf:=hm.fin
    have hw:=hm.wid lev (by omega) (by omega)
    have hno:∀ x:Int,((x.tmod (qy (qd s i) lev) == 0) = false)→¬ qy (qd s i) lev ∣ x:=fun x h hdv=>by rw [zo8.2 hdv] at h;cases h
    simp only [Bool.and_eq_false_iff,Bool.or_eq_false_iff,Bool.not_eq_false',Bool.and_eq_true,decide_eq_true_eq] at hd
    rcases hd with ⟨⟨g1,g2⟩,g3⟩ | ⟨⟨g1,g2⟩,g3⟩
    ·refine hfst g1 g2 ((ZX hE hil (by omega) h2 (by omega) hl (hH _ (by omega) (by omega)) (hH _ (by omega) (by omega))).2 (.inr ⟨hnm _ (by omega),hnm _ (by omega),zd7 (by omega) (hno _ g3)⟩))
    ·refine hbeh g1 g2 ((ZX hE hil (by omega) h2 (by omega) hl (hH _ (by omega) (by omega)) (hH _ (by omega) (by omega))).2 (.inr ⟨hnm _ (by omega),hnm _ (by omega),?_⟩))
     have:=zd7 (x:=c.hi + 1) (w:=qy (qd s i) lev) (by omega) (hno _ g3)
     rw [show c.hi + 1 - 1 = c.hi by omega] at this
     exact this
theorem zp1 {v w q:Int} (hw:1≤w) (h1:q * w≤v) (h2:v < (q + 1) * w):qw v w = q:=by
 rw [qN0 (by omega)]
 have a1:v / w < q + 1:=Int.ediv_lt_of_lt_mul (by omega) h2
 have a2:q≤v / w:=Int.le_ediv_of_mul_le (by omega) h1
 omega
theorem qy0 {v w:Int} (hw:1≤w):v < (qw v w + 1) * w∧(qw v w + 1) * w - w≤v∧w ∣ (qw v w + 1) * w:=by
 have h:=yf (v:=v) (w:=w) (by omega)
 rw [Int.add_mul,Int.one_mul]
 refine ⟨by omega,by omega,?_⟩
 exact Int.dvd_add (Int.dvd_mul_left _ _) (Int.dvd_refl _)
theorem zL2 {high w wo f:Int} (h:divM high w wo 2 f = true):high < f∨(wo ∣ f∧(high < f + w∨wo ∣ f + w)):=by
 unfold divM at h
 split at h
 ·left;omega
 ·split at h
  ·cases h
  ·rename_i h1 h2
   right
   refine ⟨Int.dvd_of_tmod_eq_zero (Classical.byContradiction h2),?_⟩
   unfold divM at h
   split at h
   ·left;omega
   ·split at h
    ·cases h
    ·rename_i h3 h4
     exact .inr (Int.dvd_of_tmod_eq_zero (Classical.byContradiction h4))
theorem zt5 {high w wo f:Int} (h:divM high w wo 2 f = false):(f≤high∧¬ wo ∣ f)∨(f≤high∧f + w≤high∧¬ wo ∣ f + w):=by
 unfold divM at h
 split at h
 ·cases h
 ·rename_i h1
  split at h
  ·rename_i h2
   exact .inl ⟨by omega,fun k=>h2 (Int.tmod_eq_zero_of_dvd k)⟩
  ·unfold divM at h
   split at h
   ·cases h
   ·rename_i h3
    split at h
    ·rename_i h4
     exact .inr ⟨by omega,by omega,fun k=>h4 (Int.tmod_eq_zero_of_dvd k)⟩
    ·unfold divM at h
     cases h
theorem zL3 {s:Sch} (hE:schE s = 0) {i:Nat} (hi:i < s.cols.length) (h0:0 < i) {o lev:Nat} (ho:o≤lev) (hl:(lev:Int)≤finI s i) (hd:divB s i o lev = true) {a b:Int} (ha:qH s i a = true) (hb:qH s i b = true) (h:qh s i o a = qh s i o b):qh s i lev a = qh s i lev b:=by
 by_cases e:o = lev
 ·rw [← e];exact h
 have hok:=qK hE
 unfold divB at hd
 rw [if_neg (by omega)] at hd
 by_cases h2:(qd s i).kind = 2
 ·rw [if_pos h2] at hd
  have ma:=(jG hok hi h2).1 ha
  have mb:=(jG hok hi h2).1 hb
  by_cases e:a = b
  ·rw [e]
  obtain ⟨j,hj,rfl⟩:=List.getElem_of_mem ma
  obtain ⟨k,hk,rfl⟩:=List.getElem_of_mem mb
  have hp:=zL1 hd hj hk (fun q=>e (by subst q;rfl))
  have key:∀ x y,divP s i (qz s i) o lev x y = true→qh s i o ((qz s i).getD x 0) = qh s i o ((qz s i).getD y 0)→qh s i lev ((qz s i).getD x 0) = qh s i lev ((qz s i).getD y 0):=fun x y hp he=>by
   unfold divP at hp
   rw [he] at hp
   simpa using hp
  have gj:(qz s i).getD j 0 = (qz s i)[j]:=qj hj
  have gk:(qz s i).getD k 0 = (qz s i)[k]:=qj hk
  rw [← gj,← gk] at h ⊢
  rcases Nat.lt_or_ge j k with q | q
  ·rw [show max j k = k by omega,show min j k = j by omega] at hp
   exact (key k j hp h.symm).symm
  ·rw [show max j k = j by omega,show min j k = k by omega] at hp
   exact key j k hp h
 ·rw [if_neg h2] at hd
  dsimp only at hd
  have hm:=kY hE hi h0 h2
  have hlh:=hm.lh
  have hf:=hm.fin
  have hw:=hm.wid lev (by omega) (by omega)
  have va:=(jp hm.kind).1 ha
  have vb:=(jp hm.kind).1 hb
  rw [ZX hE hi h0 h2 (by omega) hl ha hb]
  obtain ⟨f1,f2,f3⟩:=qy0 (v:=(qd s i).low) hw
  have hq:=yf (v:=(qd s i).low) (w:=qy (qd s i) lev) (by omega)
  have hlow:∀ v,(qd s i).low≤v→v < (qw (qd s i).low (qy (qd s i) lev) + 1) * qy (qd s i) lev→qw v (qy (qd s i) lev) = qw (qd s i).low (qy (qd s i) lev):=fun v v1 v2=>zp1 hw (by omega) v2
  by_cases e0:o = 0
  ·rw [if_pos e0,Bool.and_eq_true,Bool.not_eq_true',decide_eq_true_eq] at hd
   have ra:(qd s i).low≤a∧a≤(qd s i).high:=va.resolve_left fun k=>by rw [hd.1] at k;cases k.1
   have rb:(qd s i).low≤b∧b≤(qd s i).high:=vb.resolve_left fun k=>by rw [hd.1] at k;cases k.1
   refine .inr ⟨fun e=>by unfold zj at e;omega,fun e=>by unfold zj at e;omega,?_⟩
   rw [hlow a ra.1 (by omega),hlow b rb.1 (by omega)]
  ·rw [if_neg e0] at hd
   rcases (ZX hE hi h0 h2 (by omega) (by omega) ha hb).1 h with k | ⟨na,nb,hbl⟩
   ·exact .inl k
   ·refine .inr ⟨na,nb,?_⟩
    have ra:(qd s i).low≤a∧a≤(qd s i).high:=va.resolve_left fun k=>na k.2
    have rb:(qd s i).low≤b∧b≤(qd s i).high:=vb.resolve_left fun k=>nb k.2
    obtain ⟨k,k1,k2⟩:=hm.dv (o:=o) (l:=lev) (by omega) (by omega) (by omega)
    have hwo:=hm.wid o (by omega) (by omega)
    rcases zL2 hd with g | ⟨g1,g2⟩
    ·rw [hlow a ra.1 (by omega),hlow b rb.1 (by omega)]
    ·have hhi:(qd s i).high < (qw (qd s i).low (qy (qd s i) lev) + 1) * qy (qd s i) lev + qy (qd s i) lev:=by
      rcases g2 with g | g
      ·exact g
      ·exfalso
       have:qy (qd s i) o ∣ qy (qd s i) lev:=(Int.dvd_add_right g1).1 g
       have h5:=Int.le_of_dvd (by omega) this
       have h6:2 * qy (qd s i) lev≤k * qy (qd s i) lev:=Int.mul_le_mul_of_nonneg_right k1 (by omega)
       omega
     have hbs:=zd6 (by omega) g1 hbl
     generalize hF:(qw (qd s i).low (qy (qd s i) lev) + 1) * qy (qd s i) lev = F at *
     have hup:∀ v,F≤v→v < F + qy (qd s i) lev→qw v (qy (qd s i) lev) = qw (qd s i).low (qy (qd s i) lev) + 1:=fun v v1 v2=>zp1 hw (by omega) (by
      rw [Int.add_mul,hF,Int.one_mul];omega)
     by_cases q:F≤a
     ·rw [hup a q (by omega),hup b (hbs.1 q) (by omega)]
     ·have q2:¬ F≤b:=fun h=>q (hbs.2 h)
      rw [hlow a ra.1 (by omega),hlow b rb.1 (by omega)]
theorem zL4 {s:Sch} (hE:schE s = 0) {i:Nat} (hi:i < s.cols.length) (h0:0 < i) {o lev:Nat} (hl:(lev:Int)≤finI s i) (hd:divB s i o lev = false):∃ a b,qH s i a = true∧qH s i b = true∧qh s i o a = qh s i o b∧qh s i lev a≠qh s i lev b:=by
 have hok:=qK hE
 have hne:¬ (lev = 0∨lev≤o):=fun k=>by unfold divB at hd;rw [if_pos k] at hd;cases hd
 unfold divB at hd
 rw [if_neg hne] at hd
 by_cases h2:(qd s i).kind = 2
 ·rw [if_pos h2] at hd
  obtain ⟨j,k,hj,hk,hp⟩:=zp0 hd
  unfold divP at hp
  simp only [Bool.not_eq_false',Bool.and_eq_true,beq_iff_eq,Bool.not_eq_true',beq_eq_false_iff_ne] at hp
  refine ⟨_,_,?_,?_,hp.2,hp.1⟩
  ·rw [jG hok hi h2,qj hj];exact List.getElem_mem _
  ·rw [jG hok hi h2,qj (show k < (qz s i).length by omega)];exact List.getElem_mem _
 ·rw [if_neg h2] at hd
  dsimp only at hd
  have hm:=kY hE hi h0 h2
  have hlh:=hm.lh
  have hf:=hm.fin
  have hw:=hm.wid lev (by omega) (by omega)
  have hH:∀ v,(qd s i).low≤v→v≤(qd s i).high→qH s i v = true:=fun v h1 h2=>(jp hm.kind).2 (.inr ⟨h1,h2⟩)
  have hO:(qd s i).opt = true→qH s i zj = true:=fun h=>(jp hm.kind).2 (.inl ⟨h,rfl⟩)
  have hnm:∀ v,(qd s i).low≤v→v≠zj:=fun v h e=>by unfold zj at e;omega
  have hz:∀ v,qH s i v = true→qh s i ((0:Nat):Int) v = 0:=fun v hv=>qN2 hE hi h0 h2 hv
  obtain ⟨f1,f2,f3⟩:=qy0 (v:=(qd s i).low) hw
  have key:∀ f:Int,(qd s i).low < f→f≤(qd s i).high→qy (qd s i) lev ∣ f→qh s i o (f - 1) = qh s i o f→∃ a b,qH s i a = true∧qH s i b = true∧qh s i o a = qh s i o b∧qh s i lev a≠qh s i lev b:=fun f g1 g2 g3 g4=>by
   refine ⟨f - 1,f,hH _ (by omega) (by omega),hH _ (by omega) (by omega),g4,fun k=>?_⟩
   rcases (ZX hE hi h0 h2 (by omega) hl (hH _ (by omega) (by omega)) (hH _ (by omega) (by omega))).1 k with k | k
   ·exact hnm _ (by omega) k.1
   ·exact jf7 (by omega) g3 k.2.2
  by_cases e0:o = 0
  ·subst e0
   rw [if_pos rfl] at hd
   cases hopt:(qd s i).opt with
   | true=>
     refine ⟨zj,(qd s i).low,hO hopt,hH _ (by omega) (by omega),by rw [hz _ (hO hopt),hz _ (hH _ (by omega) (by omega))],fun k=>?_⟩
     rcases (ZX hE hi h0 h2 (by omega) hl (hO hopt) (hH _ (by omega) (by omega))).1 k with k | k
     ·exact hnm _ (by omega) k.2
     ·exact k.1 rfl
   | false=>
     rw [hopt,Bool.not_false,Bool.true_and,decide_eq_false_iff_not] at hd
     exact key _ f1 (by omega) f3 (by rw [hz _ (hH _ (by omega) (by omega)),hz _ (hH _ (by omega) (by omega))])
  ·rw [if_neg e0] at hd
   have hwo:=hm.wid o (by omega) (by omega)
   have hco:∀ f:Int,(qd s i).low < f→f≤(qd s i).high→¬ qy (qd s i) o ∣ f→qh s i o (f - 1) = qh s i o f:=fun f g1 g2 g3=>
    (ZX hE hi h0 h2 (by omega) (by omega) (hH _ (by omega) (by omega)) (hH _ (by omega) (by omega))).2 (.inr ⟨hnm _ (by omega),hnm _ (by omega),zd7 (by omega) g3⟩)
   rcases zt5 hd with ⟨g1,g2⟩ | ⟨g1,g2,g3⟩
   ·exact key _ f1 g1 f3 (hco _ f1 g1 g2)
   ·exact key _ (by omega) g2 (Int.dvd_add f3 (Int.dvd_refl _)) (hco _ (by omega) g2 g3)
end Go.Proofs
namespace Go.Proofs
open Go Go.TL
set_option maxRecDepth 4000
set_option maxHeartbeats 8000000
theorem zp2:∀ {l:List Pk} {p:Pk},p∈l→p.lev≤mxl l p.col
 | q :: r,p,h=>by
   rw [mxl]
   rcases List.mem_cons.1 h with e | h
   ·subst e;rw [if_pos rfl];omega
   ·have:=zp2 h
    split <;> omega
theorem qN3:∀ {l:List Pk} {k:Int},0 < mxl l k→∃ p∈l,p.col = k∧p.lev = mxl l k
 | [],k,h=>by rw [mxl] at h;omega
 | p :: r,k,h=>by
   rw [mxl] at h ⊢
   by_cases e:p.col = k
   ·rw [if_pos e] at h ⊢
    by_cases h2:mxl r k≤p.lev
    ·exact ⟨p,by simp,e,by omega⟩
    ·obtain ⟨x,h3,h4,h5⟩:=qN3 (l:=r) (k:=k) (by omega)
     exact ⟨x,List.mem_cons_of_mem _ h3,h4,by omega⟩
   ·rw [if_neg e] at h ⊢
    obtain ⟨x,h3,h4,h5⟩:=qN3 (l:=r) (k:=k) h
    exact ⟨x,List.mem_cons_of_mem _ h3,h4,h5⟩
theorem zT6 {s:Sch} {q:Qst} (hq:QstOk s q) {k:Nat} (hk0:0 < k) (hk:k < s.cols.length) {L:Nat} (h1:mxl (jD s q) k≤L) (h2:(L:Int)≤finI s k) {a b:Int} (ha:qH s k a = true) (hb:qH s k b = true) (h:qh s k L a = qh s k L b):WX s q k a b = false:=by
 have hE:=hq.sch
 have hge:∀ p∈jD s q,p.col = (k:Int)→p.lev≤L:=fun p hp e=>by
  have:=zp2 hp
  rw [e] at this;omega
 have hdn:∀ o:Nat,o≤L→qh s k o a = qh s k o b:=fun o ho=>jf8 hE hk hk0 ho h2 ha hb h
 unfold WX
 rw [Bool.or_eq_false_iff,Bool.or_eq_false_iff]
 refine ⟨⟨?_,?_⟩,?_⟩
 ·cases hu:usB q k with
  | false=>rfl
  | true=>
    have hf:=qk1 hE (k:=k) hk0 hk
    obtain ⟨l1,l2,l3,_⟩:=Jt (s:=s) (c:=k) hf (Int.le_refl _)
    have hm:(⟨k,jo s k (finI s k)⟩:Pk)∈jD s q:=by
     unfold jD
     exact List.mem_append.2 (.inl (List.mem_append.2 (.inr (qM9.2 ⟨k,hk,hu,rfl⟩))))
    have hle:=hge _ hm rfl
    dsimp only at hle
    rw [Int.toNat_natCast] at l3
    have e1:=hdn (jo s k (finI s k)).toNat (by omega)
    have e2:=zL3 hE hk hk0 (o:=(jo s k (finI s k)).toNat) (lev:=(finI s k).toNat) (by omega) (by omega) l3 ha hb e1
    rw [Int.toNat_of_nonneg hf,zo9 hE hk hk0 ha,zo9 hE hk hk0 hb] at e2
    rw [e2];simp
 ·rw [List.any_eq_false]
  intro d hd
  rw [Bool.and_eq_true,beq_iff_eq,bne_iff_ne]
  rintro ⟨e,hne⟩
  obtain ⟨_,p1,p2,p3,p4⟩:=qp2 (qf5 hq d hd).1
  obtain ⟨l1,l2,l3,_⟩:=Jt (s:=s) p3 p4
  have hm:(⟨d.col,jo s d.col d.lev⟩:Pk)∈jD s q:=by
   unfold jD
   exact List.mem_append.2 (.inl (List.mem_append.2 (.inl (List.mem_map.2 ⟨d,hd,rfl⟩))))
  have hle:=hge _ hm e
  dsimp only at hle
  rw [e] at l1 l2 l3 hle p4
  rw [Int.toNat_natCast] at l3
  have e1:=hdn (jo s k d.lev).toNat (by omega)
  have e2:=zL3 hE hk hk0 (o:=(jo s k d.lev).toNat) (lev:=d.lev.toNat) (by omega) (by omega) l3 ha hb e1
  rw [Int.toNat_of_nonneg p3] at e2
  exact hne e2
 ·rw [List.any_eq_false]
  intro c hc
  rw [Bool.not_eq_true,List.any_eq_false]
  intro x hx
  rw [Bool.and_eq_true,beq_iff_eq,bne_iff_ne]
  rintro ⟨e,hne⟩
  have hck:=qY4 hq c hc
  obtain ⟨_,_,_,k4⟩:=Wj hck
  obtain ⟨hnd,hia⟩:=qG0 c k4 x hx
  obtain ⟨n1,n2,n3⟩:=Wk hE hnd hia
  have hm1:(⟨x.col,decN s x⟩:Pk)∈atP s c:=List.mem_map.2 ⟨x,hx,rfl⟩
  have hle:(decN s x:Int)≤L:=by
   have h3:=zp2 hm1
   dsimp only at h3
   rw [e,← qY3 hck] at h3
   have h4:mxl (jq s c) k≤mxl (jD s q) k:=by
    refine zo7 (Zn _ _) fun p hp e=>?_
    have:p∈jD s q:=by unfold jD;exact List.mem_append.2 (.inr (List.mem_flatMap.2 ⟨c,hc,hp⟩))
    have:=zp2 this
    rw [e] at this;exact this
   omega
  refine hne (jf9 hE hnd hia n1 n2 (by rw [e,Int.toNat_natCast];exact ha) (by rw [e,Int.toNat_natCast];exact hb) ?_)
  rw [e]
  exact hdn (decN s x) (by omega)
theorem zT7 {s:Sch} {q:Qst} (hq:QstOk s q) {k:Nat} (hk0:0 < k) (hk:k < s.cols.length) (h:0 < mxl (jD s q) k):∃ a b,qH s k a = true∧qH s k b = true∧qh s k (mxl (jD s q) k - 1) a = qh s k (mxl (jD s q) k - 1) b∧WX s q k a b = true:=by
 have hE:=hq.sch
 obtain ⟨p,hp,e1,e2⟩:=qN3 h
 generalize mxl (jD s q) k = M at h e2 ⊢
 subst e2
 unfold jD at hp
 rcases List.mem_append.1 hp with hp | hp
 ·rcases List.mem_append.1 hp with hp | hp
  ·obtain ⟨d,hd,rfl⟩:=List.mem_map.1 hp
   dsimp only at e1 h ⊢
   obtain ⟨_,p1,p2,p3,p4⟩:=qp2 (qf5 hq d hd).1
   obtain ⟨l1,l2,l3,l4⟩:=Jt (s:=s) p3 p4
   have hno:=l4 (jo s d.col d.lev - 1).toNat (by omega)
   rw [e1,Int.toNat_natCast] at hno
   rw [e1] at h l1 p4 ⊢
   obtain ⟨a,b,ha,hb,hc,hne⟩:=zL4 hE hk hk0 (lev:=d.lev.toNat) (by omega) hno
   rw [Int.toNat_of_nonneg (by omega)] at hc
   rw [Int.toNat_of_nonneg p3] at hne
   refine ⟨a,b,ha,hb,hc,?_⟩
   unfold WX
   rw [show (q.dims.any fun d=>(d.col == (k:Int)) && (qh s k d.lev a != qh s k d.lev b)) = true from List.any_eq_true.2 ⟨d,hd,by rw [Bool.and_eq_true,beq_iff_eq,bne_iff_ne];exact ⟨e1,hne⟩⟩]
   simp
  ·obtain ⟨k',h1,h2,rfl⟩:=qM9.1 hp
   dsimp only at e1 h ⊢
   obtain rfl:k' = k:=by omega
   have hf:=qk1 hE (k:=k') hk0 hk
   obtain ⟨l1,l2,l3,l4⟩:=Jt (s:=s) (c:=k') hf (Int.le_refl _)
   have hno:=l4 (jo s k' (finI s k') - 1).toNat (by omega)
   rw [Int.toNat_natCast] at hno
   obtain ⟨a,b,ha,hb,hc,hne⟩:=zL4 hE hk hk0 (lev:=(finI s k').toNat) (by omega) hno
   rw [Int.toNat_of_nonneg (by omega)] at hc
   rw [Int.toNat_of_nonneg hf,zo9 hE hk hk0 ha,zo9 hE hk hk0 hb] at hne
   refine ⟨a,b,ha,hb,hc,?_⟩
   unfold WX
   rw [h2,bne_iff_ne.2 hne]
   rfl
 ·obtain ⟨c,hc,hp⟩:=List.mem_flatMap.1 hp
  have hck:=qY4 hq c hc
  obtain ⟨h3,h4⟩:=Jr hck
  rw [h3,qf2] at hp
  obtain ⟨k',k1,k2,rfl⟩:=hp
  dsimp only at e1 h ⊢
  obtain rfl:k' = k:=by omega
  obtain ⟨x',hx',e3,e4⟩:=qN3 k2
  obtain ⟨x,hx,rfl⟩:=List.mem_map.1 hx'
  dsimp only at e3 e4
  rw [← e4] at h ⊢
  obtain ⟨_,_,_,k4⟩:=Wj hck
  obtain ⟨hnd,hia⟩:=qG0 c k4 x hx
  obtain ⟨n1,n2,n3⟩:=Wk hE hnd hia
  obtain ⟨a,b,ha,hb,hco,hne⟩:=jg0 hE hnd hia (lev:=decN s x - 1) (by omega) (n3 _ (by omega))
  rw [e3,Int.toNat_natCast] at ha hb
  rw [e3,show ((decN s x - 1:Nat):Int) = (decN s x:Int) - 1 by omega] at hco
  refine ⟨a,b,ha,hb,hco,?_⟩
  unfold WX
  rw [show ((cnsL q).any fun c=>(atsC c).any fun x=>(x.col == (k':Int)) && (zr s x a != zr s x b)) = true from List.any_eq_true.2 ⟨c,hc,List.any_eq_true.2 ⟨x,hx,by rw [Bool.and_eq_true,beq_iff_eq,bne_iff_ne];exact ⟨e3,hne⟩⟩⟩]
  simp
end Go.Proofs
namespace Go.Proofs
open Go Go.TL
set_option maxRecDepth 4000
set_option maxHeartbeats 8000000
theorem zL5 {s:Sch} {i:Nat} (h1:1≤i) (h2:i < s.cols.length) (v:Int):canB s i v = qH s i v:=by
 unfold canB
 rw [decide_eq_true (by omega),decide_eq_true (by omega),Int.toNat_natCast];rfl
end Go.Proofs
namespace Go.Proofs
open Go Go.TL
set_option maxRecDepth 4000
set_option maxHeartbeats 8000000
def awL:CodL:=⟨⟨#[108]⟩,[⟨⟨#[97]⟩,-1⟩,⟨⟨#[98]⟩,0⟩,⟨⟨#[99]⟩,0⟩,⟨⟨#[100]⟩,1⟩,⟨⟨#[101]⟩,2⟩]⟩
def awS9:Sch:=⟨[awL],[⟨⟨#[119,104,111]⟩,1,0,0,0,[],false⟩,⟨⟨#[115,101,120]⟩,2,0,0,0,[],false⟩]⟩
def awQ9:Qst:=⟨⟨#[113]⟩,1,.mk 1 0 0 0 0 [],[⟨1,2⟩],-1,[],cnd0⟩
theorem qN4:Jk awS9:=⟨by decide,by decide,by decide⟩
theorem qN5:Spc Tryz.prog JA [] [] (vB true) []:=by
 have hN:=yJ awS9 qN4 awQ9
 rw [show YL awS9 awQ9 = [⟨1,1⟩] by kernel_rfl] at hN
 have hP:=qj3 [⟨1,1⟩] [⟨1,1⟩] (by decide)
 rw [show qw1 [⟨1,1⟩] [⟨1,1⟩] = true by kernel_rfl] at hP
 have hS1:=Zo awS9 qN4 awQ9 [⟨1,1⟩] (by decide)
 rw [show sufB awS9 awQ9 [⟨1,1⟩] = true by kernel_rfl] at hS1
 have hS2:=Zo awS9 qN4 awQ9 [] (by decide)
 rw [show sufB awS9 awQ9 [] = false by kernel_rfl] at hS2
 have hT:=Js awS9 qN4 awQ9 1 3 4
 rw [show yW awS9 awQ9 1 3 4 = true by kernel_rfl] at hT
 refine qe qy8 mixm (by simp) fun e _ hst=>qo ?_
 unfold Zz
 refine sW ?_
 refine C1.shutD [8212,8220,8232,12296] hN ?_ (by rfl) rfl ?_
 ·simp [ptw,ltAD,ltD,TL.get,T.cells,imT,imL,awS9,awQ9,awL]
  all_goals (try (repeat' apply And.intro))
  all_goals (try rfl)
 refine sW ?_
 refine C1.lendD [20488] hP ?_ (by rfl) (by rfl) ?_
 ·simp [ptw,ltAD,ltD,TL.get,T.cells,imT,imL]
  all_goals (try (repeat' apply And.intro))
  all_goals (try rfl)
 refine sW ?_
 refine C2.lendD [8212,8220,8232,12296] (fun _=>hS1) (fun _=>?_) (by rfl) (by rfl) ?_
 ·simp [ptw,ltAD,ltD,TL.get,T.cells,imT,imL,awS9,awQ9,awL]
  all_goals (try (repeat' apply And.intro))
  all_goals (try rfl)
 refine sW ?_
 refine C2.lendD [8212,8220,8232,12296] (fun _=>hS2) (fun _=>?_) (by rfl) (by rfl) ?_
 ·simp [ptw,ltAD,ltD,TL.get,T.cells,imT,imL,awS9,awQ9,awL]
  all_goals (try (repeat' apply And.intro))
  all_goals (try rfl)
 refine sW ?_
 refine C2.lendD [8212,8220,8232,12296] (fun _=>hT) (fun _=>?_) (by rfl) (by rfl) ?_
 ·simp [ptw,ltAD,ltD,TL.get,T.cells,imT,imL,awS9,awQ9,awL]
  all_goals (try (repeat' apply And.intro))
  all_goals (try rfl)
 refine sW ?_
 exact .oA [] []
end Go.Proofs
namespace Go.Proofs
open Go Go.TL
set_option maxRecDepth 4000
set_option maxHeartbeats 8000000
theorem DrS.nl0 {s:Sch} (h:DrS s):0 < s.lists.length:=by
 obtain ⟨a,b,e,_⟩:=h.ls
 rw [e];simp
theorem x_SQ (l:List UInt8) (hl:l.length≤400):∃ (s:Sch) (q:Qst) (a1 a2:Nat),DrS s∧qstE s q = 0∧a1≤l.length∧a2≤l.length∧schE s = 0∧Jk s∧0 < s.lists.length∧1≤s.cols.length∧s.cols.length≤8∧
 Spc Tryz.prog js [.ptr 0 1 0 0] [(0,oC l 0)] (schT s) [(0,oC l a1)]∧Spc Tryz.prog zt [.ptr 0 1 0 0,schT s,vS ⟨#[113]⟩] [(0,oC l a1)] (qstT q) [(0,oC l a2)]:=by
 obtain ⟨⟨s,a1⟩,⟨hD,ha1⟩,sS⟩:=YO l 0 hl (by omega)
 dsimp only at hD ha1 sS
 obtain ⟨⟨q,a2⟩,⟨⟨hq,_⟩,ha2⟩,sQ⟩:=Wr s hD ⟨#[113]⟩ (by kernel_rfl) l a1 hl ha1
 have hE:=hD.ok
 have hn:=(qK hE).nc
 exact ⟨s,q,a1,a2,hD,hq,ha1,ha2,hE,(qK hE).sm,hD.nl0,by omega,by omega,sS,sQ⟩
end Go.Proofs
namespace Go.Proofs
open Go Go.TL
set_option maxRecDepth 4000
set_option maxHeartbeats 8000000
end Go.Proofs
namespace Go.Proofs
open Go Go.TL
set_option maxRecDepth 4000
set_option maxHeartbeats 8000000
end Go.Proofs
namespace Go.Proofs
open Go Go.TL
set_option maxRecDepth 4000
set_option maxHeartbeats 8000000
def hidP (s:Sch) (q:Qst) (k lev:Int) (all:List Int) (i j:Nat):Bool:=!((qh s k lev (all.getD i 0) == qh s k lev (all.getD j 0)) && yW s q k (all.getD j 0) (all.getD i 0))
def hidB (s:Sch) (q:Qst) (k lev:Int) (all:List Int):Bool:=!(Wh all.length (hidP s q k lev all))
theorem Yf (s:Sch) (hs:Jk s) (q:Qst) (k lev:Int) (all:List Int) (hl:all.length < 1000000000):Spc Tryz.prog yM [schT s,qstT q,vI k,vI lev,vIs all] [] (vB (hidB s q k lev all)) []:=by
 refine qe qt5 mixm (by simp) fun e _ hst=>qo ?_
 unfold QQ
 refine sW ?_
 refine qE mixm (α:=Nat) [11,16] (fun i=>i≤all.length∧Wh i (hidP s q k lev all) = true) (fun i=>[(11,.asl 1 i),(16,vI i)]) (fun i=>[(4096,.arr 2 [schT s] false),(4100,.arr 17 [qstT q] false),(1,.arr 1 (((all.take i).map (qh s k lev)).map vI) false)]) (fun i=>all.length - i) 0 ⟨by omega,rfl⟩ ?_ fun i hi=>?_
 ·exact .oA [(4096,some 4096),(4100,some 4100),(1,none)] []
 have htl:(all.take i).length = i:=by rw [List.length_take];omega
 refine sD ?_
 refine ⟨fun h3=>?_,fun h3=>?_⟩
 ·have hi2:i < all.length:=by omega
  have hwi:=qr (i:=i) (by omega)
  have hC:=qC2 s hs k lev all[i]
  have hts:((all.take (i + 1)).map (qh s k lev)) = ((all.take i).map (qh s k lev)) ++ [qh s k lev all[i]]:=by rw [qX hi2,List.map_append];rfl
  have hga:∀ j,j < i + 1→((all.take (i + 1)).map (qh s k lev)).getD j 0 = qh s k lev (all.getD j 0):=fun j h=>by
   rw [qj (show j < all.length by omega),qj (by rw [List.length_map,List.length_take];omega)];simp
  have hlen1:((all.take (i + 1)).map (qh s k lev)).length = i + 1:=by rw [List.length_map,List.length_take];omega
  have hP:∀ j,hidP s q k lev all i j = !((qh s k lev (all.getD i 0) == qh s k lev (all.getD j 0)) && yW s q k (all.getD j 0) (all.getD i 0)):=fun j=>rfl
  have hgi:all.getD i 0 = all[i]:=qj hi2
  simp only [tZ,↓un_u,simprocAttr,Int.toNat_natCast,qg hi2]
  refine ⟨by omega,?_⟩
  refine C1.im hC (by rfl) (by rfl) ?_
  refine sW ?_
  refine ⟨⟨htl,by omega⟩,by kernel_rfl,?_⟩
  have hA:((all.take i).map (qh s k lev)).map vI ++ [vI (qh s k lev all[i])] = ((all.take (i + 1)).map (qh s k lev)).map vI:=by rw [hts,List.map_append];rfl
  rw [hA]
  obtain ⟨A,hAe⟩:∃ A,A = (all.take (i + 1)).map (qh s k lev):=⟨_,rfl⟩
  rw [← hAe] at hga hlen1 ⊢
  have hgA:∀ j,j < i + 1→(A.map vI).getD j .junk = vI (qh s k lev (all.getD j 0)):=fun j h=>by rw [qg (by omega),← hga j h,qj (by omega)]
  have hg1:=hgA i (by omega)
  refine qE mixm (α:=Nat) [13] (fun j=>j≤i∧(List.range j).all (hidP s q k lev all i) = true) (fun j=>[(13,vI j)]) (fun j=>[(4096,.arr 2 [schT s] false),(4100,.arr 17 [qstT q] false),(1,.arr 1 (A.map vI) false)]) (fun j=>i - j) 0 ⟨by omega,rfl⟩ ?_ fun j hj=>?_
  ·exact .oA [(4096,some 4096),(4100,some 4100),(1,some 1)] []
  have hg2:j < i→(A.map vI).getD j .junk = vI (qh s k lev (all.getD j 0)):=fun h=>hgA j (by omega)
  refine sD ?_
  refine ⟨fun h5=>?_,fun h5=>?_⟩
  ·have hj2:j < i:=by omega
   have hwj:=qr (i:=j) (by omega)
   have hT:=Js s hs q k (all.getD j 0) (all.getD i 0)
   have ga:(all.map vI).getD j .junk = vI (all.getD j 0):=by rw [qg (by omega),qj (show j < all.length by omega)]
   have gb:(all.map vI).getD i .junk = vI (all.getD i 0):=by rw [qg hi2,hgi]
   simp only [tZ,↓un_u,simprocAttr,Int.toNat_natCast,hg1,hg2 hj2,ga,gb]
   refine ⟨⟨hlen1,by omega,by omega⟩,⟨hlen1,by omega⟩,⟨hlen1,by omega,by omega⟩,⟨hlen1,by omega⟩,fun _=>by omega,fun _=>by omega,?_⟩
   refine C2.im (fun _=>hT) (fun _=>rfl) (by rfl) ?_
   simp only [tZ,↓un_u,simprocAttr,hwj]
   refine ⟨by kernel_rfl,fun h6=>?_,fun h6=>?_⟩
   ·have hno:hidP s q k lev all i j = false:=by rw [hP,h6];rfl
    rw [hidB,qK9 hi2 hj2 hno]
    exact .oA [] []
   ·refine ⟨j + 1,⟨by omega,by rw [zn0,hj.2,hP,h6];rfl⟩,by omega,?_⟩
    exact .oA [(4096,some 4096),(4100,some 4100),(1,some 1)] []
  ·have hjl:j = i:=by omega
   subst hjl
   simp only [tZ,↓un_u,simprocAttr,hwi]
   refine ⟨j + 1,⟨by omega,by rw [qG1,hi.2,hj.2];rfl⟩,by omega,?_⟩
   rw [← hAe]
   exact .oA [(4096,some 4096),(4100,some 4100),(1,some 1)] []
 ·have hil:i = all.length:=by omega
  subst hil
  rw [hidB,hi.2]
  exact .oA [] []
def rngL (lo:Int) (n:Nat):List Int:=(List.range n).map fun k:Nat=>lo + k
def allV (s:Sch) (k:Nat):List Int:=if (qd s k).kind = 2 then qz s k else rngL (qd s k).low ((qd s k).high - (qd s k).low + 1).toNat ++ if (qd s k).opt = true then [zj] else []
theorem zp3 (lo:Int) (n:Nat):(rngL lo n).length = n:=by simp [rngL]
theorem zL6 (lo:Int) (n:Nat):rngL lo (n + 1) = rngL lo n ++ [lo + n]:=by simp [rngL,List.range_succ]
theorem zT8 {lo:Int} {n:Nat} {v:Int}:v∈rngL lo n↔lo≤v∧v < lo + n:=by
 unfold rngL
 rw [List.mem_map]
 constructor
 ·rintro ⟨k,hk,rfl⟩
  rw [List.mem_range] at hk
  omega
 ·rintro ⟨h1,h2⟩
  exact ⟨(v - lo).toNat,List.mem_range.2 (by omega),by omega⟩
theorem zp4 {s:Sch} (hE:schE s = 0) {k:Nat} (hk:k < s.cols.length) (h0:0 < k) {v:Int} (hv:qH s k v = true):v∈allV s k:=by
 unfold allV
 by_cases h2:(qd s k).kind = 2
 ·rw [if_pos h2];exact (jG (qK hE) hk h2).1 hv
 ·rw [if_neg h2,List.mem_append]
  have hm:=kY hE hk h0 h2
  have hlh:=hm.lh
  rcases (jp hm.kind).1 hv with h | h
  ·right;rw [if_pos h.1,h.2];exact List.mem_singleton.2 rfl
  ·left;rw [zT8];omega
theorem qf7 (s:Sch) (hE:schE s = 0) (k:Nat) (hk:k < s.cols.length) (h0:0 < k):Spc Tryz.prog kM [schT s,vI k,.v (.pointer none)] [] (vIs (allV s k)) []:=by
 have hok:=qK hE
 have hat:qd s k = s.cols[k]:=by rw [qd,qj hk]
 have hV:allV s k = if (qd s k).kind = 2 then qz s k else rngL (qd s k).low ((qd s k).high - (qd s k).low + 1).toNat ++ if (qd s k).opt = true then [zj] else []:=rfl
 have hLf:=fun h2=>Yd s hok k hk h2
 have hmc:=fun h2=>kY hE hk h0 h2
 have hlh:=fun h2=>(hmc h2).lh
 rw [hV]
 refine qe KQ mixm (by simp) fun e _ hst=>qo ?_
 unfold wP
 simp only [tZ,↓un_u,simprocAttr,Int.toNat_natCast,qg hk,beq_iff_eq,beq_eq_false_iff_ne]
 rw [hat] at hLf hlh ⊢
 generalize s.cols[k] = x at hLf hlh ⊢
 refine ⟨by omega,fun h2=>?_,fun h2=>?_⟩
 ·rw [if_pos h2]
  refine C1.im (hLf h2) (by rfl) (by rfl) ?_
  refine sW ?_
  exact .oA [] []
 rw [if_neg h2]
 have hlh:=hlh h2
 refine qE mixm (α:=Nat) [8,9] (fun n=>(n:Int)≤x.high - x.low + 1) (fun n=>[(8,.asl 1 n),(9,vI (x.low + n))]) (fun n=>[(8212,.arr 7 [colT x] false),(1,.arr 1 ((rngL x.low n).map vI) false)]) (fun n=>(x.high - x.low + 1).toNat - n) 0 (by omega) ?_ fun n hn=>?_
 ·refine .of [(8212,some 8212),(1,none)] [] rfl (by first | rfl | (rw [hst];rfl)) ?_ ?_
  all_goals (try simp only [tL,simprocAttr,List.map_append,List.map_cons,List.map_nil,List.cons_append,List.nil_append,Int.natCast_zero,Int.add_zero])
  all_goals (try (repeat' (first | exact zg | (apply zR;intro _;exact ⟨rfl,rfl⟩) | (apply qM;intro _;exact ⟨rfl,rfl⟩) | with_reducible apply qV | with_reducible refine qR ⟨rfl,rfl⟩ ?_ | exact zh | with_reducible apply qT | with_reducible refine qQ ⟨rfl,rfl,?_⟩ ?_ | with_reducible apply And.intro | exact qU rfl | exact qU (by assumption) | (refine ⟨⟨?_,rfl,?_,rfl,?_⟩,trivial⟩ <;> first | (simp;done) | (apply qM;intro _;exact ⟨rfl,rfl⟩)) | trivial | rfl | (rw [qr (by omega)]) | omega)))
 have hrl:=zp3 x.low n
 refine sD ?_
 refine ⟨fun h3=>?_,fun h3=>?_⟩
 ·have hw:IntKind.i64.wrap (x.low + n + 1) = x.low + ((n + 1:Nat):Int):=by rw [IntWalk.i64_in _ (by omega)];omega
  refine C2.no (by simp) ?_
  simp only [tZ,↓un_u,simprocAttr,hw]
  refine ⟨⟨hrl,by omega⟩,n + 1,by omega,by omega,?_⟩
  rw [zL6,List.map_append]
  exact .oA [(8212,some 8212),(1,some 1)] []
 ·have hnl:(x.high - x.low + 1).toNat = n:=by omega
  rw [hnl]
  refine ⟨fun h4=>⟨⟨hrl,by omega⟩,?_⟩,fun h4=>?_⟩
  ·rw [if_pos h4]
   exact .oA [] [1]
  ·rw [if_neg (by rw [h4];simp),List.append_nil]
   exact .oA [] [1]
theorem qC4 (s:Sch) (hE:schE s = 0) (k:Nat) (hk:k < s.cols.length) (h0:0 < k) (l:List UInt8) (a:Nat) (hl:l.length≤400) (ha:a≤l.length) :
 ∃ r:List Int×Nat,((∀ v∈r.1,qH s k v = true)∧r.1.length≤3000000∧r.2≤l.length)∧Spc Tryz.prog kM [schT s,vI k,.ptr 0 1 0 0] [(0,oC l a)] (vIs r.1) [(0,oC l r.2)]:=by
 have hok:=qK hE
 have hat:qd s k = s.cols[k]:=by rw [qd,qj hk]
 have hLf:=fun h2=>Yd s hok k hk h2
 have hLl:=fun h2=>Wz hok hk h2
 have hLm:=fun h2=>fun v=>jG hok hk h2 (v:=v)
 have hmc:=fun h2=>kY hE hk h0 h2
 have hlh:=fun h2=>(hmc h2).lh
 have hk3:=fun h2=>fun v=>jp (hmc h2).kind (v:=v)
 rw [hat] at hLf hlh hLl hLm hk3
 generalize qH s k = H at hLm hk3 ⊢
 refine jr KQ mixm (fun r:List Int×Nat=>vIs r.1) (fun r=>[(0,oC l r.2)]) (by simp) ?_
 unfold wP
 simp only [tZ,↓un_u,simprocAttr,Int.toNat_natCast,qg hk,beq_iff_eq,beq_eq_false_iff_ne]
 generalize s.cols[k] = x at hLf hlh hLl hLm hk3 ⊢
 refine XE.sd (by omega) (XE.brN (fun h2=>?_) (fun h2=>?_))
 ·refine XE.mp (fun _ _=>C1.im (hLf h2) (by rfl) (by rfl)) ?_
  refine sW ?_
  refine XE.fin (qz s k,a) ⟨fun v hv=>(hLm h2 v).2 hv,by have:=hLl h2;dsimp only;omega,ha⟩ fun e ⟨_,hst⟩=>?_
  exact .oA [(0,some 0)] []
 have hlh:=hlh h2
 have hk3:=hk3 h2
 refine XE.loopF mixm [8,9] (fun y:Nat×List Int×Nat=>(y.1:Int)≤x.high - x.low + 1∧y.2.1.length≤y.1∧(∀ v∈y.2.1,H v = true)∧y.2.2≤l.length) (fun y=>[(8,.asl 1 y.2.1.length),(9,vI (x.low + y.1))]) (fun y=>[(0,oC l y.2.2),(8212,.arr 7 [colT x] false),(1,.arr 1 (y.2.1.map vI) false)]) (fun y=>(x.high - x.low + 1).toNat - y.1) (0,[],a) ⟨by dsimp only;omega,by simp,by simp,ha⟩ (fun e ⟨_,hst⟩=>?_) fun T' y hy ih=>?_
 ·refine .of [(0,some 0),(8212,some 8212),(1,none)] [] rfl (by first | rfl | (rw [hst];rfl)) ?_ ?_
  all_goals (try simp only [tL,simprocAttr,List.map_append,List.map_cons,List.map_nil,List.cons_append,List.nil_append,Int.natCast_zero,Int.add_zero])
  all_goals (try (repeat' (first | exact zg | (apply zR;intro _;exact ⟨rfl,rfl⟩) | (apply qM;intro _;exact ⟨rfl,rfl⟩) | with_reducible apply qV | with_reducible refine qR ⟨rfl,rfl⟩ ?_ | exact zh | with_reducible apply qT | with_reducible refine qQ ⟨rfl,rfl,?_⟩ ?_ | with_reducible apply And.intro | exact qU rfl | exact qU (by assumption) | (refine ⟨⟨?_,rfl,?_,rfl,?_⟩,trivial⟩ <;> first | (simp;done) | (apply qM;intro _;exact ⟨rfl,rfl⟩)) | trivial | rfl | (rw [qr (by omega)]) | omega)))
 obtain ⟨n,L,a1⟩:=y
 obtain ⟨y1,y2,y3,y4⟩:=hy
 dsimp only at y1 y2 y3 y4
 simp only [tZ,↓un_u,simprocAttr,decide_eq_true_eq,decide_eq_false_iff_not]
 refine XE.brN (fun h3=>?_) (fun h3=>?_)
 ·have hw:IntKind.i64.wrap (x.low + n + 1) = x.low + ((n + 1:Nat):Int):=by rw [IntWalk.i64_in _ (by omega)];omega
  have hw3:IntKind.i64.wrap (x.low + 3) = x.low + 3:=IntWalk.i64_in _ (by omega)
  have hH:H (x.low + n) = true:=(hk3 _).2 (.inr ⟨by omega,by omega⟩)
  obtain ⟨o,a2,ha2,sO⟩:=je5 l a1 4 hl y4 (by omega)
  have hgo:∀ (L2:List Int) (a3:Nat),L2 = L∨L2 = L ++ [x.low + n]→a3≤l.length→((((n + 1:Nat):Int)≤x.high - x.low + 1∧L2.length≤n + 1∧(∀ v∈L2,H v = true)∧a3≤l.length)):=fun L2 a3 h1 h2=>by
   rcases h1 with e | e
   ·rw [e];exact ⟨by omega,by omega,y3,h2⟩
   ·rw [e]
    refine ⟨by omega,by rw [List.length_append,List.length_singleton];omega,fun v hv=>?_,h2⟩
    rcases List.mem_append.1 hv with hv | hv
    ·exact y3 v hv
    ·rw [List.mem_singleton.1 hv];exact hH
  simp only [tZ,↓un_u,simprocAttr,hw3]
  by_cases q:x.low + (n:Int) < x.low + 3
  ·refine XE.mp (fun _ _=>C2.no (fun h=>h q)) ?_
   simp only [tZ,↓un_u,simprocAttr,decide_eq_true q,hw]
   refine XE.sd (by omega) ?_
   refine XE.next ih (n + 1,L ++ [x.low + n],a1) (hgo _ _ (.inr rfl) y4) (by dsimp only;omega) fun e ⟨_,hst⟩=>?_
   exact .oA [(0,some 0),(8212,some 8212),(1,some 1)] []
  ·refine XE.mp (fun _ _=>C2.one q) ?_
   refine XE.mp (fun _ _=>C1.draw 0 l a1 _ sO rfl rfl rfl) ?_
   simp only [tZ,↓un_u,simprocAttr,decide_eq_false q,hw]
   refine XE.brB (fun h6=>?_) (fun h6=>?_)
   ·refine XE.sd (by omega) ?_
    refine XE.next ih (n + 1,L ++ [x.low + n],a2) (hgo _ _ (.inr rfl) ha2) (by dsimp only;omega) fun e ⟨_,hst⟩=>?_
    exact .oA [(0,some 0),(8212,some 8212),(1,some 1)] []
   ·refine XE.next ih (n + 1,L,a2) (hgo _ _ (.inl rfl) ha2) (by dsimp only;omega) fun e ⟨_,hst⟩=>?_
    exact .oA [(0,some 0),(8212,some 8212),(1,some 1)] []
 ·refine XE.brB (fun h4=>XE.sd (by omega) ?_) (fun h4=>?_)
  ·refine XE.fin (L ++ [zj],a1) ⟨fun v hv=>?_,by rw [List.length_append,List.length_singleton];omega,y4⟩ fun e ⟨_,hst⟩=>?_
   ·rcases List.mem_append.1 hv with hv | hv
    ·exact y3 v hv
    ·rw [List.mem_singleton.1 hv];exact (hk3 _).2 (.inl ⟨h4,rfl⟩)
   ·exact .oA [(0,some 0)] [1]
  ·refine XE.fin (L,a1) ⟨y3,by dsimp only;omega,y4⟩ fun e ⟨_,hst⟩=>?_
   exact .oA [(0,some 0)] [1]
end Go.Proofs
namespace Go.Proofs
open Go Go.TL
set_option maxRecDepth 4000
set_option maxHeartbeats 8000000
theorem zL7 {s:Sch} {q:Qst} (h:qstE s q = 0) {k:Nat} (hk0:0 < k) (hk:k < s.cols.length) {L:List Int} (hL:∀ v∈L,qH s k v = true):hidB s q k (mxl (jD s q) k) L = false:=by
 have hq:=YN h
 have hp:=Zn (jD s q) k
 have hle:mxl (jD s q) k≤finI s k:=by
  have hf:=qk1 hq.sch (k:=k) hk0 hk
  exact zo7 hf fun p hp e=>by rw [← e];exact qY5 hq p hp
 unfold hidB
 rw [Bool.not_eq_false',Wn]
 intro i hi j hj
 unfold hidP
 rw [qj hi,qj (show j < L.length by omega)]
 have h1:=hL _ (List.getElem_mem hi)
 have h2:=hL _ (List.getElem_mem (show j < L.length by omega))
 cases hc:(qh s k (mxl (jD s q) k) L[i] == qh s k (mxl (jD s q) k) L[j]) with
 | false=>rfl
 | true=>
   rw [beq_iff_eq] at hc
   obtain ⟨N,hN⟩:=Int.eq_ofNat_of_zero_le hp
   rw [hN] at hc hle
   have:=zT6 hq hk0 hk (L:=N) (by omega) hle h2 h1 hc.symm
   unfold yW
   rw [this];simp
theorem zT9 {s:Sch} {q:Qst} (h:qstE s q = 0) {k:Nat} (hk0:0 < k) (hk:k < s.cols.length) (hm:0 < mxl (jD s q) k):hidB s q k (mxl (jD s q) k - 1) (allV s k) = true:=by
 have hq:=YN h
 obtain ⟨a,b,ha,hb,hc,ht⟩:=zT7 hq hk0 hk hm
 have hT:∀ x y,qH s k x = true→qH s k y = true→WX s q k x y = true→yW s q k x y = true:=fun x y hx hy ht=>by
  unfold yW
  rw [h,zL5 (by omega) hk,zL5 (by omega) hk,hx,hy,ht];rfl
 have hab:=hT a b ha hb ht
 have hne:a≠b:=fun e=>by rw [e,zt3] at hab;cases hab
 obtain ⟨i,hi,rfl⟩:=List.getElem_of_mem (zp4 hq.sch hk hk0 ha)
 obtain ⟨j,hj,rfl⟩:=List.getElem_of_mem (zp4 hq.sch hk hk0 hb)
 have hij:i≠j:=fun e=>hne (by subst e;rfl)
 unfold hidB
 rw [Bool.not_eq_true']
 have key:∀ x y (hx:x < (allV s k).length) (hy:y < x),qh s k (mxl (jD s q) k - 1) (allV s k)[x] = qh s k (mxl (jD s q) k - 1) (allV s k)[y]→yW s q k (allV s k)[y] (allV s k)[x] = true→Wh (allV s k).length (hidP s q k (mxl (jD s q) k - 1) (allV s k)) = false:=fun x y hx hy h1 h2=>by
  refine qK9 hx hy ?_
  unfold hidP
  rw [qj hx,qj (show y < (allV s k).length by omega),h1,h2,beq_self_eq_true];rfl
 rcases Nat.lt_or_ge i j with q1 | q1
 ·exact key j i hj q1 hc.symm hab
 ·exact key i j hi (by omega) hc (by rw [zt4];exact hab)
theorem KA (bs:List UInt8):Spc Tryz.prog yi [vL bs] [] (vB true) []:=by
 have hl4:(bs.take 400).length≤400:=by rw [List.length_take];omega
 obtain ⟨s,q,a1,a2,hD,hq,ha1,ha2,hE,hs,hL,hc1,hc8,sS,sQ⟩:=x_SQ (bs.take 400) hl4
 have hqk:=YN hq
 have sN:=yJ s hs q
 have hnl:=qX4 s q
 have hQf:=qH1 hq
 have hpos:∀ p∈YL s q,0 < p.lev:=fun p hp=>by
  rw [hQf] at hp
  obtain ⟨k,_,k2,rfl⟩:=qf2.1 hp
  exact k2
 have hasc:(YL s q).Pairwise fun a b=>a.col < b.col:=by rw [hQf];exact (zo6 _ _).1
 have hmx:∀ k:Nat,k < s.cols.length→mxl (YL s q) k = mxl (jD s q) k:=fun k hk=>by
  rw [hQf,qM7 fun k=>Zn _ _,if_pos hk]
 have hHf:=fun (k:Nat) (h1:0 < k) (h2:k < s.cols.length) (L:List Int) (h3:∀ v∈L,qH s k v = true)=>zL7 hq h1 h2 h3
 have hHt:=fun (k:Nat) (h1:0 < k) (h2:k < s.cols.length) (h3:0 < mxl (jD s q) k)=>zT9 hq h1 h2 h3
 have hle:∀ k:Nat,0 < k→k < s.cols.length→mxl (jD s q) k≤59:=fun k h1 h2=>by
  have hf:=qk1 hqk.sch (k:=k) h1 h2
  have:=YM (c:=k) hE
  have:=zo7 (l:=jD s q) (k:=k) hf fun p hp e=>by rw [← e];exact qY5 hqk p hp
  omega
 have hgp:=fun k:Nat=>Zn (jD s q) k
 generalize jD s q = NP at hmx hHf hHt hle hgp
 generalize YL s q = N at sN hnl hpos hasc hmx
 refine qe JM mixm (by simp) fun e _ hst=>qo ?_
 unfold jz
 refine sW ?_
 refine C1.newdraw 8196 (zs7 bs) rfl rfl ?_
 generalize bs.take 400 = m at hl4 sS sQ ha1 ha2 ⊢
 refine sW ?_
 refine C1.draw 8196 m 0 _ sS rfl rfl rfl ?_
 refine sW ?_
 refine C1.draw 8196 m a1 _ sQ rfl rfl rfl ?_
 refine sW ?_
 refine C1.im sN (by rfl) (by rfl) ?_
 refine sW ?_
 refine qE mixm (α:=Nat×Nat) [7] (fun y=>1≤y.1∧y.1≤s.cols.length∧y.2≤m.length) (fun y=>[(7,vI y.1)]) (fun y=>[(8196,oC m y.2),(12296,.arr 2 [schT s] false),(16396,.arr 17 [qstT q] false)]) (fun y=>s.cols.length - y.1) (1,a2) ⟨by dsimp only;omega,by dsimp only;omega,ha2⟩ ?_ fun y hy=>?_
 ·exact .oA [(8196,some 8196),(12296,some 12296),(16396,some 16396)] []
 obtain ⟨k,a3⟩:=y
 obtain ⟨y1,y2,y3⟩:=hy
 dsimp only at y1 y2 y3
 refine sD ?_
 refine ⟨fun h3=>?_,fun h3=>?_⟩
 ·have hk:k < s.cols.length:=by omega
  have hwk:=qr (i:=k) (by omega)
  refine qE mixm (α:=Nat) [8,31] (fun i=>i≤N.length) (fun i=>[(8,vI (mxl (N.take i) k)),(31,vI i)]) (fun i=>[(8196,oC m a3),(12296,.arr 2 [schT s] false),(16396,.arr 17 [qstT q] false)]) (fun i=>N.length - i) 0 (by omega) ?_ fun i hi=>?_
  ·exact .oA [(8196,some 8196),(12296,some 12296),(16396,some 16396)] []
  refine sD ?_
  refine ⟨fun h5=>?_,fun h5=>?_⟩
  ·have hi2:i < N.length:=by omega
   have hwi:=qr (i:=i) (by omega)
   have hts:mxl (N.take (i + 1)) k = if N[i].col = k then N[i].lev else mxl (N.take i) k:=by
    rw [qX hi2,zo2]
    split
    ·rename_i e
     have h0:mxl (N.take i) k = 0:=Kd fun p hp=>by
      obtain ⟨j,hj,rfl⟩:=List.mem_take_iff_getElem.1 hp
      have:=List.pairwise_iff_getElem.1 hasc j i (by omega) hi2 (by omega)
      omega
     have:=hpos _ (List.getElem_mem hi2)
     rw [h0];omega
    ·rfl
   simp only [tZ,↓un_u,simprocAttr,Int.toNat_natCast,qg hi2,hwi,beq_iff_eq,beq_eq_false_iff_ne]
   refine ⟨by omega,fun h6=>?_,fun h6=>?_⟩
   ·rw [if_pos h6] at hts
    refine ⟨i + 1,by omega,by omega,?_⟩
    rw [hts]
    exact .oA [(8196,some 8196),(12296,some 12296),(16396,some 16396)] []
   ·rw [if_neg h6] at hts
    refine ⟨i + 1,by omega,by omega,?_⟩
    rw [hts]
    exact .oA [(8196,some 8196),(12296,some 12296),(16396,some 16396)] []
  ·have hil:i = N.length:=by omega
   subst hil
   rw [List.take_length,hmx k hk]
   obtain ⟨⟨L,a4⟩,⟨hLv,hLl,ha4⟩,sV⟩:=qC4 s hE k hk (by omega) m a3 hl4 y3
   dsimp only at hLv hLl ha4 sV
   have sH1:=Yf s hs q k (mxl NP k) L (by omega)
   rw [hHf k (by omega) hk L hLv] at sH1
   have sVn:=qf7 s hE k hk (by omega)
   have hAl:(allV s k).length < 1000000000:=by
    unfold allV
    split
    ·rename_i h2
     have:=Wz (qK hE) hk h2;omega
    ·rename_i h2
     have hlh:=(kY hE hk (by omega) h2).lh
     rw [List.length_append,zp3]
     have:∀ b:Bool,(if b = true then [zj] else []).length≤1:=fun b=>by cases b <;> decide
     have:=this (qd s k).opt
     omega
   have sH2:=Yf s hs q k (mxl NP k - 1) (allV s k) hAl
   have hw:IntKind.i64.wrap (mxl NP k - 1) = mxl NP k - 1:=IntWalk.i64_in _ (by have:=hle k (by omega) hk;have:=hgp k;omega)
   have hf:((decide (mxl NP k > 0) && decide ((L.length:Int) < 30)) && !(hidB s q k (mxl NP k - 1) (allV s k))) = false:=by
    by_cases h0:0 < mxl NP k
    ·rw [hHt k (by omega) hk h0];simp
    ·rw [decide_eq_false (show ¬ mxl NP k > 0 by omega)];rfl
   refine C1.upd 8196 2 [.agg [vL m,vI a3]] [.agg [vL m,vI a4]] sV rfl (qR ⟨rfl,rfl⟩ zh) (qR ⟨rfl,rfl⟩ zh) ?_ rfl ?_
   ·all_goals (try exact clA)
   refine sW ?_
   refine C1.im sH1 (by rfl) (by rfl) ?_
   simp only [tZ,↓un_u,simprocAttr,hw,tD,Bool.false_or]
   refine C2.im (fun _=>sVn) (fun _=>rfl) (by rfl) ?_
   simp only [tZ,↓un_u,simprocAttr,hw]
   refine C2.im (fun _=>sH2) (fun _=>rfl) (by rfl) ?_
   simp only [tZ,↓un_u,simprocAttr,hf,hwk]
   refine ⟨by kernel_rfl,(k + 1,a4),⟨by dsimp only;omega,by dsimp only;omega,ha4⟩,by dsimp only;omega,?_⟩
   exact .oA [(8196,some 8196),(12296,some 12296),(16396,some 16396)] []
 ·refine C1.im qN5 (by rfl) (by rfl) ?_
  refine sW ?_
  exact .oA [] []
end Go.Proofs
