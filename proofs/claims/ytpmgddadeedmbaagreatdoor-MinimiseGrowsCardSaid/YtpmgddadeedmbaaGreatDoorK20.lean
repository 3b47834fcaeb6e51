/- A part of the proof: Q04 Q05 Q06. -/
import Derived.WalkKit
import Derived.Still
import Derived.MapKept
import GoSem.Builtin.Cap
import Derived.Laws.Externs
import GoSem.Extern.SlicesOverlaps
import Derived.Carry
import Derived.ProofKit
import Derived.OpenShut
import Derived.HandedShaped
import Derived.Lay
import Derived.LaidLaws
import Derived.MakeChecks
import Derived.SevenTiedAt
import Derived.Test.YtpmgddadeedmbaaGreatDoorChecked
import Derived.Test.YtpmgddadeedmbaaGreatDoorK19
set_option linter.unusedSimpArgs false
set_option linter.unusedVariables false
namespace Go.Proofs
open Go Go.TL
set_option maxRecDepth 4000
set_option maxHeartbeats 8000000
theorem jj3 {ws:List Int} (hw:∀ j,j < ws.length→wdOk ws j = true) {i:Nat}:∀ d,i + d < ws.length→∃ k:Int,1≤k∧ws.getD (i + d) 0 = k * ws.getD i 0∧(0 < d→2≤k)
 | 0,h=>⟨1,by omega,by simp,by omega⟩
 | d + 1,h=>by
   obtain ⟨k,k1,k2,_⟩:=jj3 hw d (i:=i) (by omega)
   have h1:=hw (i + d + 1) (by omega)
   rw [wdOk,if_neg (by omega)] at h1
   simp only [Bool.and_eq_true,decide_eq_true_eq,beq_iff_eq,Nat.add_sub_cancel] at h1
   have hp:=zf5 (ws:=ws) hw (i + d) (by omega)
   obtain ⟨⟨a1,a2⟩,a3⟩:=h1
   have h2:=Int.mul_tdiv_add_tmod (ws.getD (i + d + 1) 0) (ws.getD (i + d) 0)
   rw [a3,Int.add_zero] at h2
   generalize (ws.getD (i + d + 1) 0).tdiv (ws.getD (i + d) 0) = q at h2
   have hq:2≤q:=Classical.byContradiction fun c=>by
    have:ws.getD (i + d) 0 * q≤ws.getD (i + d) 0 * 1:=Int.mul_le_mul_of_nonneg_left (by omega) (by omega)
    omega
   have hkq:2 * 1≤q * k:=Int.mul_le_mul hq k1 (by omega) (by omega)
   refine ⟨q * k,by omega,?_,fun _=>by omega⟩
   rw [show i + (d + 1) = i + d + 1 from rfl,← h2,k2,Int.mul_assoc,Int.mul_comm q k,Int.mul_assoc,Int.mul_comm q]
theorem SchOk.wdv {s:Sch} (h:SchOk s) {i:Nat} (hi:i < s.cols.length) (h0:0 < i) (hk:(qj s i).kind≠2) {o lev:Nat} (ho:1≤o∧o < lev) (hl:lev≤(qj s i).widths.length):∃ k:Int,2≤k∧zm (qj s i) o = k * zm (qj s i) lev:=by
 have hk2:=zf (h.cs i hi)
 have hk3:(qj s i).kind = 3:=by have:=hk2.2.2.1 h0;omega
 have hm:=hk2.2.2.2.2 hk3
 generalize qj s i = c at hl hm hk3 ⊢
 unfold measE at hm
 split at hm
 ·cases hm
 rename_i h1
 split at hm
 ·cases hm
 rename_i h2
 split at hm
 ·cases hm
 rename_i h3
 rw [Bool.not_eq_false] at h3
 have hw:∀ j,j < c.widths.length→wdOk c.widths j = true:=fun j hj=>List.all_eq_true.1 h3 j (List.mem_range.2 hj)
 obtain ⟨k,_,k2,k3⟩:=jj3 hw (i:=c.widths.length - lev) (lev - o) (by omega)
 refine ⟨k,k3 (by omega),?_⟩
 rw [zm,zm,show ((c.widths.length:Int) - o).toNat = c.widths.length - lev + (lev - o) by omega,show ((c.widths.length:Int) - lev).toNat = c.widths.length - lev by omega]
 exact k2
def blkI (s:Sch) (i lev:Nat):Int:=
 if (qj s i).kind = 2 then ((lvN (qM s i).codes lev).length:Int)
 else if lev = 0 then 1 else qK (qj s i).high (zm (qj s i) lev) - qK (qj s i).low (zm (qj s i) lev) + 1 + (if (qj s i).opt = true then 1 else 0)
theorem zT2 {n:Nat} {p:Nat→Nat→Bool}:qF3 n p = true↔∀ a,a < n→∀ b,b < a→p a b = true:=by
 unfold qF3
 simp only [List.all_eq_true,List.mem_range]
theorem Zx {s:Sch} (h:SchOk s) {i:Nat} (hi:i < s.cols.length) (h2:(qj s i).kind = 2) {x:Int}:x∈qS s i↔∃ c:Nat,x = c∧c < (qM s i).codes.length∧(dep (qM s i).codes c:Int) = zi (qM s i) - 1:=by
 obtain ⟨_,d2⟩:=h.cdl hi h2
 unfold qS atL
 rw [if_neg (by rw [d2];simp),List.mem_map]
 constructor
 ·rintro ⟨c,hc,rfl⟩
  rw [List.mem_filter,List.mem_range,beq_iff_eq] at hc
  exact ⟨c,rfl,hc.1,hc.2⟩
 ·rintro ⟨c,rfl,h1,h3⟩
  exact ⟨c,List.mem_filter.2 ⟨List.mem_range.2 h1,beq_iff_eq.2 h3⟩,rfl⟩
theorem Je {s:Sch} (h:SchOk s) {i:Nat} (hi:i < s.cols.length) (h2:(qj s i).kind = 2) {c v:Nat} (hc:c < (qM s i).codes.length) (hd:(dep (qM s i).codes c:Int) = zi (qM s i) - 1) (hv:(v:Int)≤finI s i) (hf:finI s i = zi (qM s i) - 1):qT s i v c = upN (qM s i).codes v c:=by
 obtain ⟨_,d2⟩:=h.cdl hi h2
 have hh:kI s i c = true:=by
  rw [kI,if_neg (by omega),if_pos h2,Bool.and_eq_true,Yy,beq_iff_eq,lvlC,if_neg (not_or.2 ⟨fun h=>h d2,by omega⟩),Int.toNat_natCast]
  exact ⟨by omega,hd⟩
 rw [qT,if_neg (by rw [Bool.not_eq_false,Yy];omega),Int.toNat_natCast,if_pos h2,if_neg (by rw [hh];simp),upC,if_neg (not_or.2 ⟨fun h=>h d2,by rw [Int.toNat_natCast];omega⟩),Int.toNat_natCast,Int.toNat_natCast]
theorem qV3 {s:Sch} (hE:schE s = 0) {i:Nat} (hi:i < s.cols.length) (h0:0 < i) {o lev:Nat} (ho:o≤lev) (hl:(lev:Int)≤finI s i):blkI s i o≤blkI s i lev∧(divB s i o lev = true↔blkI s i o = blkI s i lev):=by
 have hok:=qZ hE
 by_cases e:o = lev
 ·subst e
  exact ⟨by omega,by rw [zw6];simp⟩
 obtain ⟨_,c1,c2,hfin⟩:=Wb (s:=s) (c:=i) (by omega)
 rw [Int.toNat_natCast] at hfin
 by_cases h2:(qj s i).kind = 2
 ·obtain ⟨_,d2⟩:=hok.cdl hi h2
  rw [if_pos h2] at hfin
  unfold blkI
  rw [if_pos h2,if_pos h2]
  have hle:=jj2 d2 (o:=o) (v:=lev) (by omega) (by omega)
  refine ⟨by omega,?_⟩
  rw [show ((lvN (qM s i).codes o).length:Int) = ((lvN (qM s i).codes lev).length:Int)↔(lvN (qM s i).codes o).length = (lvN (qM s i).codes lev).length by omega,jt6 d2 (by omega) (by omega)]
  unfold divB
  rw [if_neg (by omega),if_pos h2,zT2]
  have hP:∀ j k,(qS s i).getD j 0∈qS s i→(qS s i).getD k 0∈qS s i→(divP s i (qS s i) o lev j k = true↔(qT s i o ((qS s i).getD j 0) = qT s i o ((qS s i).getD k 0)→qT s i lev ((qS s i).getD j 0) = qT s i lev ((qS s i).getD k 0))):=fun j k _ _=>by
   unfold divP
   simp only [Bool.not_eq_true',Bool.and_eq_false_iff,Bool.not_eq_false',beq_iff_eq,beq_eq_false_iff_ne]
   constructor
   ·rintro (h | h) k
    ·exact h
    ·exact absurd k h
   ·intro h
    by_cases k:qT s i o ((qS s i).getD j 0) = qT s i o ((qS s i).getD k 0)
    ·exact .inl (h k)
    ·exact .inr k
  have hmem:∀ j,j < (qS s i).length→(qS s i).getD j 0∈qS s i:=fun j hj=>by rw [qk hj];exact List.getElem_mem hj
  obtain ⟨hp,p1,p2⟩:=zw d2
  constructor
  ·intro H a b ha hb da db hab
   obtain ⟨x,x1,x2,x3⟩:=jc1 d2 _ a rfl ha (zi (qM s i) - 1).toNat (by omega) (by omega)
   obtain ⟨y,y1,y2,y3⟩:=jc1 d2 _ b rfl hb (zi (qM s i) - 1).toNat (by omega) (by omega)
   rw [da] at x3
   rw [db] at y3
   have hx:(x:Int)∈qS s i:=(Zx hok hi h2).2 ⟨x,rfl,x1,by omega⟩
   have hy:(y:Int)∈qS s i:=(Zx hok hi h2).2 ⟨y,rfl,y1,by omega⟩
   have ux:upN (qM s i).codes o x = upN (qM s i).codes o y:=by
    rw [← zh3 hp (o:=o) (v:=lev) (by omega) x x1 (by omega),← zh3 hp (o:=o) (v:=lev) (by omega) y y1 (by omega),x3,y3,hab]
   obtain ⟨j,hj,ej⟩:=List.getElem_of_mem hx
   obtain ⟨k,hk,ek⟩:=List.getElem_of_mem hy
   rw [← qk (d:=0) hj] at ej
   rw [← qk (d:=0) hk] at ek
   have cl:=fun c (hc:c < (qM s i).codes.length) (hd:(dep (qM s i).codes c:Int) = zi (qM s i) - 1) (v:Nat) (hv:(v:Int)≤finI s i)=>Je hok hi h2 (v:=v) hc hd hv hfin
   have fin:qT s i lev x = qT s i lev y→a = b:=fun e=>by
    rw [cl x x1 (by omega) lev hl,cl y y1 (by omega) lev hl,x3,y3] at e
    omega
   have eo:qT s i o x = qT s i o y:=by rw [cl x x1 (by omega) o (by omega),cl y y1 (by omega) o (by omega),ux]
   rcases Nat.lt_trichotomy j k with q | q | q
   ·have:=(hP k j (hmem k hk) (hmem j hj)).1 (H k hk j q)
    rw [ej,ek] at this
    exact fin (this eo.symm).symm
   ·subst q
    rw [ej] at ek
    exact fin (by rw [ek])
   ·have:=(hP j k (hmem j hj) (hmem k hk)).1 (H j hj k q)
    rw [ej,ek] at this
    exact fin (this eo)
  ·intro H j hj k hk
   rw [hP j k (hmem j hj) (hmem k (by omega))]
   obtain ⟨x,x0,x1,x2⟩:=(Zx hok hi h2).1 (hmem j hj)
   obtain ⟨y,y0,y1,y2⟩:=(Zx hok hi h2).1 (hmem k (by omega))
   rw [x0,y0,Je hok hi h2 x1 x2 (by omega) hfin,Je hok hi h2 y1 y2 (by omega) hfin,Je hok hi h2 x1 x2 hl hfin,Je hok hi h2 y1 y2 hl hfin]
   intro e
   have ux:=zS9 hp (v:=lev) x x1 (by omega)
   have uy:=zS9 hp (v:=lev) y y1 (by omega)
   have:=H (upN (qM s i).codes lev x) (upN (qM s i).codes lev y) (by omega) (by omega) ux.1 uy.1 (by
    rw [zh3 hp (by omega) x x1 (by omega),zh3 hp (by omega) y y1 (by omega)];omega)
   rw [this]
 rw [if_neg h2] at hfin
 obtain ⟨w1,w2,w3,w4,w5,w6,w7,_⟩:=hok.wid hi h0 h2 (lev:=lev) (by omega)
 unfold blkI divB
 simp only [if_neg h2,if_neg (show ¬ lev = 0 by omega),if_neg (show ¬ (lev = 0∨lev≤o) by omega)]
 obtain ⟨m,hm⟩:=Int.eq_ofNat_of_zero_le (show 0≤(qj s i).high - (qj s i).low by omega)
 generalize hW:zm (qj s i) lev = w at w1 w2 ⊢
 have hab:=qG6 (a:=(qj s i).low) (k:=w) (m:=m) w1 (by omega)
 rw [show (qj s i).low + (m:Int) = (qj s i).high by omega] at hab
 have f0:∀ c,c * w > (qj s i).high↔qK (qj s i).high w < c:=fun c=>by
  have h3:=qF6 (v:=(qj s i).high) (w:=w) (by omega)
  constructor
  ·intro h
   refine Classical.byContradiction fun z=>?_
   have:c * w≤qK (qj s i).high w * w:=Int.mul_le_mul_of_nonneg_right (by omega) (by omega)
   omega
  ·intro h
   have:(qK (qj s i).high w + 1) * w≤c * w:=Int.mul_le_mul_of_nonneg_right (by omega) (by omega)
   rw [Int.add_mul] at this
   omega
 by_cases o0:o = 0
 ·simp only [if_pos o0]
  cases (qj s i).opt
  ·simp only [Bool.not_false,Bool.true_and,decide_eq_true_eq,f0,Bool.false_eq_true,if_false]
   omega
  ·simp only [Bool.not_true,Bool.false_and,if_true,Bool.false_eq_true,false_iff]
   omega
 simp only [if_neg o0]
 obtain ⟨k,k1,k2⟩:=hok.wdv hi h0 h2 (o:=o) (lev:=lev) (by omega) (by omega)
 rw [hW] at k2
 rw [k2,jt7 w1 (by omega),jt7 w1 (by omega)]
 have f3:∀ x:Int,(x * w).tmod (k * w) = 0↔k ∣ x:=fun x=>by
  constructor
  ·intro h
   obtain ⟨q,hq⟩:=Int.dvd_of_tmod_eq_zero h
   exact ⟨q,Int.eq_of_mul_eq_mul_right (show w≠0 by omega) (by rw [hq,Int.mul_assoc,Int.mul_assoc,Int.mul_comm w])⟩
  ·rintro ⟨q,rfl⟩
   rw [Int.mul_assoc,Int.mul_comm q,← Int.mul_assoc,Int.mul_tmod_right]
 have f2:(qK (qj s i).low w + 1) * w + w = (qK (qj s i).low w + 1 + 1) * w:=by rw [Int.add_mul (_ + 1) 1,Int.one_mul]
 have hD:divM (qj s i).high w (k * w) 2 ((qK (qj s i).low w + 1) * w) = true↔qK (qj s i).high w < qK (qj s i).low w + 1∨(k ∣ qK (qj s i).low w + 1∧(qK (qj s i).high w < qK (qj s i).low w + 1 + 1∨k ∣ qK (qj s i).low w + 1 + 1)):=by
  rw [divM,divM,divM,f2]
  simp only [f0,ne_eq,f3]
  split
  ·rename_i h;simp only [h,true_or,iff_true]
  ·rename_i h
   split
   ·rename_i h4;simp only [h,h4,false_and,or_self,Bool.false_eq_true]
   ·rename_i h4
    rw [Classical.not_not] at h4
    split
    ·rename_i h5;simp only [h4,h5,true_or,and_true,or_true]
    ·rename_i h5
     split
     ·rename_i h6;simp only [h,h5,h6,or_self,and_false,Bool.false_eq_true]
     ·rename_i h6
      rw [Classical.not_not] at h6
      simp only [h4,h6,or_true,and_true]
 rw [hD]
 generalize qK (qj s i).high w = b at hab ⊢
 generalize qK (qj s i).low w = a at hab ⊢
 obtain ⟨n,hn⟩:=Int.eq_ofNat_of_zero_le (show 0≤b - a by omega)
 have e0:=qG6 (a:=a) (k:=k) (m:=n) (by omega) (by omega)
 rw [show a + (n:Int) = b by omega] at e0
 refine ⟨by omega,?_⟩
 by_cases q0:n = 0
 ·have:b = a:=by omega
  subst this
  exact ⟨fun _=>by omega,fun _=>.inl (by omega)⟩
 obtain ⟨s1,s2⟩:=zT1 (a:=a) (k:=k) (by omega)
 have e1:=qG6 (a:=a + 1) (k:=k) (m:=b - a - 1) (by omega) (by omega)
 rw [show a + 1 + (b - a - 1) = b by omega] at e1
 by_cases d1:k ∣ a + 1
 ·have s1:=s1 d1
  by_cases q1:n = 1
  ·have:b = a + 1:=by omega
   subst this
   exact ⟨fun _=>by omega,fun _=>.inr ⟨d1,.inl (by omega)⟩⟩
  ·have d2:¬ k ∣ a + 1 + 1:=by
    rintro ⟨p,hp⟩
    obtain ⟨r,hr⟩:=d1
    have:k * (p - r) = 1:=by rw [Int.mul_sub];omega
    have:=Int.le_of_dvd (by omega) ⟨_,this.symm⟩
    omega
   obtain ⟨_,s4⟩:=zT1 (a:=a + 1) (k:=k) (by omega)
   have s4:=s4 d2
   have e2:=qG6 (a:=a + 1 + 1) (k:=k) (m:=b - a - 2) (by omega) (by omega)
   rw [show a + 1 + 1 + (b - a - 2) = b by omega] at e2
   refine ⟨fun h=>?_,fun h=>by omega⟩
   rcases h with h | ⟨_,h | h⟩
   ·omega
   ·omega
   ·exact absurd h d2
 ·have s2:=s2 d1
  refine ⟨fun h=>?_,fun h=>by omega⟩
  rcases h with h | ⟨h,_⟩
  ·omega
  ·exact absurd h d1
theorem YC (s:Sch) (hE:schE s = 0) (i:Nat) (hi:i < s.cols.length) (h0:0 < i) (lev:Nat) (hl:(lev:Int)≤finI s i):Spc Tryz.prog yl [schT s,vI i,vI lev] [] (vI (blkI s i lev)) []:=by
 have hok:=qZ hE
 obtain ⟨_,c1,c2,hfin⟩:=Wb (s:=s) (c:=i) (by omega)
 rw [Int.toNat_natCast] at hfin
 have hat:qj s i = s.cols[i]:=by rw [qj,qk hi]
 have hk:=zf (hok.cs i hi)
 have hcd:=fun e=>hok.cdl hi e
 have hwd:=fun e l=>hok.wid hi (by omega) e (lev:=l)
 have hcl:qM s i = s.lists.getD s.cols[i].list.toNat default:=by rw [qM,hat]
 have hE2:blkI s i lev = if s.cols[i].kind = 2 then ((lvN (qM s i).codes lev).length:Int)
  else if lev = 0 then 1 else qK s.cols[i].high (zm s.cols[i] lev) - qK s.cols[i].low (zm s.cols[i] lev) + 1 + (if s.cols[i].opt = true then 1 else 0):=by rw [blkI,hat]
 rw [hE2]
 rw [hat] at hk hcd hwd hfin
 rw [hcl] at hcd ⊢
 refine qd qw2 mixm (by simp) fun e _ hst=>qg ?_
 unfold QY
 simp only [tZ,↓un_u,simprocAttr,Int.toNat_natCast,qe hi]
 generalize s.cols[i] = x at hk hcd hwd hfin ⊢
 simp only [tZ,↓un_u,simprocAttr,tD,beq_iff_eq,beq_eq_false_iff_ne]
 refine ⟨by omega,fun h2=>?_,fun h2=>⟨fun h3=>?_,fun h3=>?_⟩⟩
 ·rw [if_pos h2]
  obtain ⟨d1,d2⟩:=hcd h2
  obtain ⟨d3,d4⟩:=hk.2.2.2.1 h2
  have hgl:s.lists.getD x.list.toNat default = s.lists[x.list.toNat]:=qk d1
  rw [hgl] at d2 ⊢
  simp only [tZ,↓un_u,simprocAttr,qe d1]
  generalize s.lists[x.list.toNat] = l at d2 ⊢
  refine ⟨by omega,?_⟩
  refine C1.im (qs1 l lev) (by rfl) (by rfl) ?_
  rw [← jo2 d2]
  refine sW ?_
  exact .oA [] []
 ·rw [if_neg h2,if_pos (by omega)]
  exact .oA [] []
 rw [if_neg h2,if_neg (by omega)]
 rw [if_neg h2] at hfin
 obtain ⟨w1,w2,w3,w4,w5,w6,w7,_⟩:=hwd h2 lev (by omega)
 refine C1.im (qc2 x lev (by omega) (by omega)) (by rfl) (by rfl) ?_
 generalize zm x lev = w at w1 w2 ⊢
 have h4:=qF6 (v:=x.high) (w:=w) (by omega)
 have h5:=qF6 (v:=x.low) (w:=w) (by omega)
 obtain ⟨m,hm⟩:=Int.eq_ofNat_of_zero_le (show 0≤x.high - x.low by omega)
 have hab:=qG6 (a:=x.low) (k:=w) (m:=m) w1 (by omega)
 rw [show x.low + (m:Int) = x.high by omega] at hab
 have wa:IntKind.i64.wrap (qK x.high w * w - qK x.low w * w) = qK x.high w * w - qK x.low w * w:=IntWalk.i64_in _ (by omega)
 have wb:(qK x.high w * w - qK x.low w * w).tdiv w = qK x.high w - qK x.low w:=by rw [← Int.sub_mul,Int.mul_tdiv_cancel _ (by omega)]
 have wc:IntKind.i64.wrap (qK x.high w - qK x.low w) = qK x.high w - qK x.low w:=IntWalk.i64_in _ (by omega)
 have wd:IntKind.i64.wrap (qK x.high w - qK x.low w + 1) = qK x.high w - qK x.low w + 1:=IntWalk.i64_in _ (by omega)
 have we:IntKind.i64.wrap (qK x.high w - qK x.low w + 1 + 1) = qK x.high w - qK x.low w + 1 + 1:=IntWalk.i64_in _ (by omega)
 refine sW ?_
 refine C1.im (Wh x.high w (by omega) (by omega)) (by rfl) (by rfl) ?_
 refine sW ?_
 refine C1.im (Wh x.low w (by omega) (by omega)) (by rfl) (by rfl) ?_
 simp only [tZ,↓un_u,simprocAttr,wa,wb,wc,wd,we]
 repeat (first | refine ⟨by omega,?_⟩ | refine ⟨by kernel_rfl,?_⟩)
 refine ⟨fun h6=>?_,fun h6=>?_⟩
 ·rw [if_pos h6]
  exact .oA [] []
 ·rw [if_neg (by rw [h6];simp),Int.add_zero]
  exact .oA [] []
theorem zx2 {p:Nat→Bool} {N:Nat}:∀ (f n:Nat),n≤N→N - n < f→p N = true→(∀ m,n≤m→m < N→p m = false)→Wm p f n = N
 | 0,n,h1,h2,_,_=>by omega
 | f + 1,n,h1,h2,h3,h4=>by
   rw [Wm]
   by_cases e:n = N
   ·subst e;rw [if_pos h3]
   ·rw [if_neg (by rw [h4 n (Nat.le_refl _) (by omega)];simp)]
    exact zx2 f (n + 1) (by omega) (by omega) h3 fun m h5 h6=>h4 m (by omega) h6
theorem qc3 (s:Sch) (hs:Ze s) (c lev:Int):Spc Tryz.prog Qv [schT s,vI c,vI lev] [] (vI (yH s c lev)) []:=by
 refine qd qD5 mixm (by simp) fun e _ hst=>qg ?_
 unfold ZP
 refine sW ?_
 refine C1.im (yI s hs c) (by rfl) (by rfl) ?_
 refine sD ?_
 refine ⟨fun h=>?_,fun h=>?_⟩
 ·rw [yH,if_pos (qF5.2 (by omega))]
  exact .oA [] []
 rw [yH,if_neg (by rw [qF5];omega)]
 obtain ⟨hE,c1,c2,hfin⟩:=Wb (s:=s) (c:=c) (by omega)
 have hfl:=qf7 (c:=c) hE
 have hok:=qZ hE
 obtain ⟨i,rfl⟩:=Int.eq_ofNat_of_zero_le (show 0≤c by omega)
 obtain ⟨v,rfl⟩:=Int.eq_ofNat_of_zero_le (show 0≤lev by omega)
 simp only [Int.toNat_natCast]
 have hi:i < s.cols.length:=by omega
 have key:∀ n,n≤v→blkI s i n = blkI s i v→(n = 0∨blkI s i (n - 1)≠blkI s i n)→Wm (fun n=>divB s i n v) 64 0 = n:=fun n h1 h2 h3=>by
  refine zx2 64 0 (by omega) (by omega) ((qV3 hE hi (by omega) h1 (by omega)).2.2 h2) fun m _ hm=>?_
  cases e:divB s i m v with
  | false=>rfl
  | true=>
    have e1:=(qV3 hE hi (by omega) (show m≤v by omega) (by omega)).2.1 e
    have e2:=(qV3 hE hi (by omega) (show m≤n - 1 by omega) (by omega)).1
    have e3:=(qV3 hE hi (by omega) (show n - 1≤n by omega) (by omega)).1
    omega
 refine qu mixm (α:=Nat) [2,17] (fun n=>n≤v∧blkI s i n = blkI s i v) (fun n=>[(2,vI n)]) (fun n=>[(4096,.arr 2 [schT s] false)]) (fun n=>n) v ⟨by omega,rfl⟩ ?_ fun n hn=>?_
 ·exact .oA [(4096,some 4096)] []
 obtain ⟨n1,n2⟩:=hn
 rcases Nat.eq_zero_or_pos n with hz | hz
 ·subst hz
  have e0:decide (((0:Nat):Int) > 0) = false:=by decide
  simp only [tZ,↓un_u,simprocAttr,e0]
  refine C2.no (fun h=>h) ?_
  refine sW ?_
  refine C2.no (fun h=>h) ?_
  refine sW ?_
  repeat (first | refine ⟨by omega,?_⟩ | refine ⟨by kernel_rfl,?_⟩)
  rw [key 0 (by omega) n2 (.inl rfl)]
  exact .oA [] []
 ·obtain ⟨k,rfl⟩:∃ k,n = k + 1:=⟨n - 1,by omega⟩
  have e0:decide (((k + 1:Nat):Int) > 0) = true:=decide_eq_true (by omega)
  have e3:=yb (i:=k + 1) (by omega) (by omega)
  rw [Nat.add_sub_cancel] at e3
  simp only [tZ,↓un_u,simprocAttr,e0,e3]
  refine C2.im (fun _=>YC s hE i hi (by omega) k (by omega)) (fun _=>rfl) (by rfl) ?_
  refine sW ?_
  refine C2.im (fun _=>YC s hE i hi (by omega) (k + 1) (by omega)) (fun _=>rfl) (by rfl) ?_
  simp only [tZ,↓un_u,simprocAttr,beq_iff_eq,beq_eq_false_iff_ne,e3]
  repeat (first | refine ⟨by omega,?_⟩ | refine ⟨by kernel_rfl,?_⟩)
  refine ⟨fun h5=>?_,fun h5=>?_⟩
  ·refine ⟨k,⟨by omega,by omega⟩,by omega,?_⟩
   exact .oA [(4096,some 4096)] []
  ·rw [key (k + 1) (by omega) n2 (.inr h5)]
   exact .oA [] []
end Go.Proofs
namespace Go.Proofs
open Go Go.TL
set_option maxRecDepth 4000
set_option maxHeartbeats 8000000
theorem qs2:∀ (c:Cnd) (m:Int),0≤m→m≤1000→Spc Tryz.prog kQ [cnT c,vI m] [] (vI (cntC c (m + 1))) []:=by
 refine Cnd.ind' fun c ih m hm hm2=>?_
 rw [Wa]
 refine qd qk7 mixm (by simp) fun e _ hst=>qg ?_
 unfold yB
 refine sW ?_
 refine qu mixm (α:=Nat×Int) [5,11] (fun y=>y.1≤c.kids.length∧kJ c.kids (m + 1) 1 = kJ (c.kids.drop y.1) (m + 1) y.2∧y.2≤m + 1∧y.1 + 1≤y.2) (fun y=>[(5,vI y.2),(11,vI y.1)]) (fun y=>[]) (fun y=>c.kids.length - y.1) (0,1) ⟨by simp,rfl,by dsimp only;omega,by simp⟩ ?_ fun y hy=>?_
 ·exact .oA [] []
 obtain ⟨i,n⟩:=y
 obtain ⟨y1,y2,y3,y4⟩:=hy
 dsimp only at y1 y2 y3 y4
 rw [y2]
 refine sD ?_
 refine ⟨fun h=>?_,fun h=>?_⟩
 ·have hi:i < c.kids.length:=by omega
  have hwi:=qh (i:=i) (by omega)
  rw [qT9 hi,kJ]
  simp only [tZ,↓un_u,simprocAttr,Int.toNat_natCast,qe hi,zX,tD]
  refine ⟨by omega,fun h2=>?_,fun h2=>?_⟩
  ·rw [if_neg (by omega)]
   exact .oA [] []
  have hw:IntKind.i64.wrap (m - n) = m - n:=IntWalk.i64_in _ (by omega)
  have hc:=qu2 c.kids[i] (m - n + 1) (by omega)
  have e1:m + 1 - n = m - n + 1:=by omega
  have hw2:IntKind.i64.wrap (n + cntC c.kids[i] (m - n + 1)) = n + cntC c.kids[i] (m - n + 1):=IntWalk.i64_in _ (by omega)
  rw [if_pos (by omega),e1]
  simp only [tZ,↓un_u,simprocAttr,hw]
  refine C1.im (ih _ (List.getElem_mem hi) (m - n) (by omega) (by omega)) (by rfl) (by rfl) ?_
  simp only [tZ,↓un_u,simprocAttr,hw2,hwi]
  refine ⟨(i + 1,n + cntC c.kids[i] (m - n + 1)),⟨by dsimp only;omega,rfl,by dsimp only;omega,by dsimp only;omega⟩,by dsimp only;omega,?_⟩
  exact .oA [] []
 ·rw [List.drop_of_length_le (by omega),kJ]
  exact .oA [] []
theorem qx2:∀ (c:Cnd) (m:Int),1≤m→m≤1000→cntC c m < m→Spc Tryz.prog wz [cnT c] [] (vI (depC c)) []:=by
 refine Cnd.ind' fun c ih m hm hm2 hc=>?_
 have hd:=zR4 c m hm hc
 rw [Wa] at hc hd
 obtain ⟨hk1,hk2⟩:=qy4 (by omega) hc
 rw [qr4] at hd ⊢
 refine qd qq3 mixm (by simp) fun e _ hst=>qg ?_
 unfold Qf
 refine sW ?_
 refine qu mixm (α:=Nat) [3,9] (fun i=>i≤c.kids.length) (fun i=>[(3,vI (jV (c.kids.take i))),(9,vI i)]) (fun i=>[]) (fun i=>c.kids.length - i) 0 (by omega) ?_ fun i hi=>?_
 ·refine .of [] [] rfl (by first | rfl | (rw [hst];rfl)) ?_ ?_
  all_goals (try simp only [tL,simprocAttr,List.map_append,List.map_cons,List.map_nil,List.cons_append,List.nil_append,List.take_zero,jV])
  all_goals (try (repeat' (first | exact qR | (apply zd;intro _;exact ⟨rfl,rfl⟩) | (apply qz;intro _;exact ⟨rfl,rfl⟩) | with_reducible apply qG | with_reducible refine qE ⟨rfl,rfl⟩ ?_ | exact qO | with_reducible apply qA | with_reducible refine qJ ⟨rfl,rfl,?_⟩ ?_ | with_reducible apply And.intro | exact qD rfl | exact qD (by assumption) | (refine ⟨⟨?_,rfl,?_,rfl,?_⟩,trivial⟩ <;> first | (simp;done) | (apply qz;intro _;exact ⟨rfl,rfl⟩)) | trivial | rfl | (rw [qh (by omega)]) | omega)))
 have hdt:=qr7 c.kids i
 refine sD ?_
 refine ⟨fun h=>?_,fun h=>?_⟩
 ·have hi2:i < c.kids.length:=by omega
  have hwi:=qh (i:=i) (by omega)
  have hs:jV (c.kids.take (i + 1)) = max (jV (c.kids.take i)) (depC c.kids[i]):=by rw [qY hi2,qr6]
  obtain ⟨m',a1,a2,a3⟩:=hk2 _ (List.getElem_mem hi2)
  simp only [tZ,↓un_u,simprocAttr,Int.toNat_natCast,qe hi2,zX]
  refine ⟨by omega,?_⟩
  refine C1.im (ih _ (List.getElem_mem hi2) m' a1 (by omega) a3) (by rfl) (by rfl) ?_
  have hmx:maxI (jV (c.kids.take i):Int) (depC c.kids[i]) = (jV (c.kids.take (i + 1)):Int):=by rw [hs];unfold maxI;omega
  simp only [tZ,↓un_u,simprocAttr,hwi,hmx]
  refine ⟨i + 1,by omega,by omega,?_⟩
  exact .oA [] []
 ·have hil:i = c.kids.length:=by omega
  subst hil
  rw [List.take_length] at hdt ⊢
  have hw:=qh (i:=jV c.kids) (by omega)
  simp only [tZ,↓un_u,simprocAttr,hw]
  exact .oA [] []
theorem qx3 (op:Int):Spc Tryz.prog QO [vI op] [] (vI (arC op)) []:=by
 refine qd qr0 mixm (by simp) fun e _ hst=>qg ?_
 unfold Ql
 simp only [tZ,↓un_u,simprocAttr,Cnd.op,Cnd.col,Cnd.code,Cnd.lo,Cnd.hi,Cnd.kids]
 by_cases h5:op = 5
 ·subst h5
  refine sW ?_
  exact .oA [] []
 by_cases h6:op = 6
 ·subst h6
  refine sW ?_
  exact .oA [] []
 by_cases h7:op = 7
 ·subst h7
  refine sW ?_
  exact .oA [] []
 have e:arC op = 0:=by rw [arC,if_neg (by omega),if_neg h7]
 rw [e]
 simp only [tZ,↓un_u,simprocAttr,beq_eq_false_iff_ne.2 h5,beq_eq_false_iff_ne.2 h6,beq_eq_false_iff_ne.2 h7]
 exact .oA [] []
def unuC (c:Cnd):Bool:=if ((!isAt c && (c.col != 0)) || ((c.op != 2) && (c.code != 0))) = true then false else (c.op == 3) || ((c.lo == 0) && (c.hi == 0))
theorem jo3 {c:Cnd}:unuC c = false↔(c.op≠2∧c.op≠3∧c.op≠4∧c.col≠0)∨(c.op≠2∧c.code≠0)∨(c.op≠3∧(c.lo≠0∨c.hi≠0)):=by
 unfold unuC isAt
 grind
theorem qn4 (c:Cnd):Spc Tryz.prog yn [cnT c] [] (vB (unuC c)) []:=by
 refine qd qf3 mixm (by simp) fun e _ hst=>qg ?_
 unfold wO
 refine sW ?_
 have hi:isAt c = ((c.op == 2) || (c.op == 3) || (c.op == 4)):=rfl
 rw [← hi]
 unfold unuC
 cases h:(!isAt c && (c.col != 0))
 ·simp only [tZ,↓un_u,simprocAttr,h]
  cases h2:((c.op != 2) && (c.code != 0))
  ·simp only [tZ,↓un_u,simprocAttr,h2]
   exact .oA [] []
  ·simp only [tZ,↓un_u,simprocAttr,h2]
   exact .oA [] []
 ·simp only [tZ,↓un_u,simprocAttr,h]
  exact .oA [] []
theorem qb1 (s:Sch) (hok:SchOk s) (c:Cnd):Spc Tryz.prog wg [schT s,cnT c] [] (vI (ndE s c)) []:=by
 have hn0:=hok.nl
 have hn1:=hok.nc
 have hn:ndE s c = if c.op < 1∨7 < c.op then 4
 else if c.kids.length≠arC c.op∨(c.op≠2∧c.op≠3∧c.op≠4∧c.col≠0)∨(c.op≠2∧c.code≠0)∨(c.op≠3∧(c.lo≠0∨c.hi≠0)) then 11
 else if (c.op = 2∧isB s c.col 2 = false)∨(c.op = 3∧isB s c.col 3 = false)∨(c.op = 4∧(isB s c.col 3 = false∨(qj s c.col.toNat).opt = false)) then 7
 else if c.op = 2∧(c.code < 0∨c.code≥(qM s c.col.toNat).codes.length) then 6
 else if c.op = 3∧(c.lo < -1000000∨c.hi > 1000000∨c.lo > c.hi) then 2 else 0:=rfl
 have hu:=@jo3 c
 generalize ndE s c = E at hn ⊢
 refine qd Yt mixm (by simp) fun e _ hst=>qg ?_
 unfold kG
 refine sD ?_
 refine ⟨fun h=>?_,fun h=>?_⟩
 ·rw [if_pos (by omega)] at hn
  rw [hn]
  exact .oA [] []
 rw [if_neg (by omega)] at hn
 refine C1.im (qx3 c.op) (by rfl) (by rfl) ?_
 refine sW ?_
 refine C2.im (fun _=>qn4 c) (fun _=>rfl) (by rfl) ?_
 simp only [tZ,↓un_u,simprocAttr,bne_iff_ne,bne_eq_false_iff_eq,Bool.not_eq_true',Bool.not_eq_false']
 repeat (first | refine ⟨by omega,?_⟩ | refine ⟨by kernel_rfl,?_⟩)
 refine ⟨fun h2=>?_,fun h2=>?_⟩
 ·rw [if_pos (by grind)] at hn
  rw [hn]
  exact .oA [] []
 rw [if_neg (by grind)] at hn
 by_cases hat:c.op≠2∧c.op≠3∧c.op≠4
 ·rw [if_neg (by omega),if_neg (by omega),if_neg (by omega)] at hn
  rw [hn]
  simp only [tZ,↓un_u,simprocAttr,bne_iff_ne.2 hat.1,bne_iff_ne.2 hat.2.1,bne_iff_ne.2 hat.2.2]
  exact .oA [] []
 have e1:((c.op != 2) && (c.op != 3) && (c.op != 4)) = false:=by
  cases e:((c.op != 2) && (c.op != 3) && (c.op != 4)) with
  | false=>rfl
  | true=>exact absurd (by simpa [and_assoc] using e) hat
 simp only [tZ,↓un_u,simprocAttr,e1,tD]
 refine ⟨fun h3=>?_,fun h3=>?_⟩
 ·have b2:isB s c.col 2 = false:=by
   cases e:isB s c.col 2 with
   | false=>rfl
   | true=>have:=zP.1 e;omega
  have b3:isB s c.col 3 = false:=by
   cases e:isB s c.col 3 with
   | false=>rfl
   | true=>have:=zP.1 e;omega
  rw [b2,b3,if_pos (by grind)] at hn
  rw [hn]
  exact .oA [] []
 obtain ⟨i,hci⟩:=Int.eq_ofNat_of_zero_le (show 0≤c.col by omega)
 have hil:i < s.cols.length:=by omega
 have hat2:qj s i = s.cols[i]:=by rw [qj,qk hil]
 have hcd:=fun e=>hok.cdl hil e
 have hcd2:=(zf (hok.cs i hil)).2.2.2.1
 have hcl:qM s i = s.lists.getD s.cols[i].list.toNat default:=by rw [qM,hat2]
 have hB:∀ k,isB s c.col k = (s.cols[i].kind == k):=fun k=>by
  rw [isB,hci,Int.toNat_natCast,hat2,decide_eq_true (by omega),decide_eq_true (by omega)];rfl
 rw [hB,hB,hci,Int.toNat_natCast,hcl,hat2] at hn
 rw [hat2,hcl] at hcd
 rw [hat2] at hcd2
 simp only [tZ,↓un_u,simprocAttr,hci,Int.toNat_natCast,qe hil]
 generalize s.cols[i] = x at hn hcd hcd2 ⊢
 simp only [tZ,↓un_u,simprocAttr,beq_iff_eq,beq_eq_false_iff_ne,bne_iff_ne,bne_eq_false_iff_eq]
 refine ⟨by omega,fun h4=>⟨fun h5=>?_,fun h5=>?_⟩,fun h4=>⟨fun h5=>⟨fun h6=>?_,fun h6=>?_⟩,fun h5=>?_⟩⟩
 ·rw [if_pos (by grind)] at hn
  rw [hn]
  exact .oA [] []
 ·rw [if_neg (by grind)] at hn
  obtain ⟨d1,d2⟩:=hcd h5
  obtain ⟨d3,d4⟩:=hcd2 h5
  rw [qk d1] at hn
  simp only [tZ,↓un_u,simprocAttr,qe d1,tD]
  generalize s.lists[x.list.toNat] = l at hn
  repeat (first | refine ⟨by omega,?_⟩ | refine ⟨by kernel_rfl,?_⟩)
  refine ⟨fun h6=>?_,fun h6=>?_⟩
  ·rw [if_pos (by grind)] at hn
   rw [hn]
   exact .oA [] []
  ·rw [if_neg (by grind),if_neg (by grind)] at hn
   rw [hn]
   exact .oA [] []
 ·rw [if_pos (by grind)] at hn
  rw [hn]
  exact .oA [] []
 ·rw [if_neg (by grind),if_neg (by grind)] at hn
  refine sD ?_
  refine ⟨fun h7=>?_,fun h7=>?_⟩
  ·rw [if_pos (by grind)] at hn
   rw [hn]
   exact .oA [] []
  ·rw [if_neg (by grind)] at hn
   rw [hn]
   exact .oA [] []
 ·refine ⟨fun h6=>?_,fun h6=>by omega⟩
  refine ⟨fun h7=>?_,fun h7=>?_⟩
  ·rw [if_pos (by grind)] at hn
   rw [hn]
   exact .oA [] []
  ·rw [if_neg (by grind),if_neg (by grind),if_neg (by grind)] at hn
   rw [hn]
   exact .oA [] []
theorem jt8 (op:Int):arC op≤2:=by
 unfold arC
 split
 ·omega
 ·split <;> omega
theorem qb2 (s:Sch) (hok:SchOk s):∀ (c:Cnd),Spc Tryz.prog jq [schT s,cnT c] [] (vI (nodE s c)) []:=by
 refine Cnd.ind' fun c ih=>?_
 have hN:=qT6 s c
 generalize nodE s c = N at hN ⊢
 refine qd Yn mixm (by simp) fun e _ hst=>qg ?_
 unfold kD
 refine sW ?_
 refine C1.im (qb1 s hok c) (by rfl) (by rfl) ?_
 simp only [tZ,↓un_u,simprocAttr,bne_iff_ne,bne_eq_false_iff_eq]
 refine ⟨fun h=>?_,fun h=>?_⟩
 ·rw [hN,if_pos h]
  exact .oA [] []
 rw [if_neg (by rw [h];simp)] at hN
 have hnk:=(ji7 h).nk
 have har:=jt8 c.op
 rw [hN]
 refine qu mixm (α:=Nat) [18] (fun i=>i≤c.kids.length∧(yM s (c.kids.take i) = 0)) (fun i=>[(18,vI i)]) (fun i=>[(4096,.arr 2 [schT s] false)]) (fun i=>c.kids.length - i) 0 ⟨by omega,?_⟩ ?_ fun i hi=>?_
 ·rfl
 ·exact .oA [(4096,some 4096)] []
 simp only [tZ,↓un_u,simprocAttr,decide_eq_true_eq,decide_eq_false_iff_not]
 refine ⟨fun h=>?_,fun h=>?_⟩
 ·have hi2:i < c.kids.length:=by omega
  have hi2:i < c.kids.length:=by omega
  have hwi:=qh (i:=i) (by omega)
  simp only [tZ,↓un_u,simprocAttr,Int.toNat_natCast,qe hi2,hwi,zX]
  refine ⟨by omega,?_⟩
  refine C1.im (ih _ (List.getElem_mem hi2)) (by rfl) (by rfl) ?_
  simp only [tZ,↓un_u,simprocAttr,bne_iff_ne,bne_eq_false_iff_eq]
  refine ⟨fun h6=>?_,fun h6=>?_⟩
  ·rw [qf8 hi2 hi.2 h6]
   exact .oA [] []
  ·refine ⟨i + 1,⟨by omega,by rw [qY hi2];exact qr8 hi.2 h6⟩,by omega,?_⟩
   exact .oA [(4096,some 4096)] []
 ·have hi2:i = c.kids.length:=by omega
  subst hi2
  rw [List.take_of_length_le (by omega)] at hi
  rw [hi.2]
  exact .oA [] []
theorem kT (s:Sch) (hs:Ze s) (c:Cnd):Spc Tryz.prog zI [schT s,cnT c] [] (vI (chkC s c)) []:=by
 refine qd qj9 mixm (by simp) fun e _ hst=>qg ?_
 unfold yw
 refine sW ?_
 refine C1.im (jY s hs.2.1 hs.1) (by rfl) (by rfl) ?_
 simp only [tZ,↓un_u,simprocAttr,bne_iff_ne,bne_eq_false_iff_eq]
 refine ⟨fun h=>?_,fun h=>?_⟩
 ·rw [chkC,if_pos h]
  exact .oA [] []
 have hok:=qZ h
 refine C1.im (qs2 c 40 (by omega) (by omega)) (by rfl) (by rfl) ?_
 rw [show (40:Int) + 1 = 41 from rfl]
 refine sD ?_
 refine ⟨fun h2=>?_,fun h2=>?_⟩
 ·rw [chkC,if_neg (by rw [h];simp),if_pos h2]
  exact .oA [] []
 refine C1.im (qx2 c 41 (by omega) (by omega) (by omega)) (by rfl) (by rfl) ?_
 refine sD ?_
 refine ⟨fun h3=>?_,fun h3=>?_⟩
 ·rw [chkC,if_neg (by rw [h];simp),if_neg h2,if_pos (by omega)]
  exact .oA [] []
 rw [chkC,if_neg (by rw [h];simp),if_neg h2,if_neg (by omega)]
 refine C1.im (qb2 s hok c) (by rfl) (by rfl) ?_
 refine sW ?_
 exact .oA [] []
theorem Qq (b:Bool):Spc Tryz.prog jz [vB b] [] (vI (tf b)) []:=by
 refine qd ql5 mixm (by simp) fun e _ hst=>qg ?_
 unfold yF
 refine sW ?_
 cases b
 ·refine sW ?_
  exact .oA [] []
 ·refine sW ?_
  exact .oA [] []
theorem Wn (s:Sch) (hok:SchOk s) (c:Cnd) (hc:NdOk s c) (ha:isAt c = true) (v:Int):Spc Tryz.prog jU [schT s,cnT c,vI v] [] (vI (wt s c v)) []:=by
 have hn0:=hok.nl
 have hn1:=hok.nc
 have hA:wt s c v = if c.op = 2 then tf (qu0 (qM s c.col.toNat) v c.code)
 else if c.op = 3 then (if v = qf5 then 0 else tf (decide (c.lo≤v) && decide (v≤c.hi)))
 else if c.op = 4 then tf (v == qf5) else -1:=rfl
 rw [hA]
 by_cases h2:c.op = 2
 ·obtain ⟨b,b4,b5⟩:=hc.under h2
  obtain ⟨b1,b2,b3⟩:=zP.1 b
  obtain ⟨i,hci⟩:=Int.eq_ofNat_of_zero_le b1
  rw [hci] at b2 b5
  rw [hci,Int.toNat_natCast] at b3
  rw [Int.toNat_natCast] at b5
  have hil:i < s.cols.length:=by omega
  have hat:qj s i = s.cols[i]:=by rw [qj,qk hil]
  have hcd:=hok.cdl hil b3
  have hcd2:=(zf (hok.cs i hil)).2.2.2.1 b3
  have hcl:qM s i = s.lists.getD s.cols[i].list.toNat default:=by rw [qM,hat]
  rw [hat] at hcd hcd2
  rw [if_pos h2,hci,Int.toNat_natCast]
  rw [hcl,qk hcd.1] at hcd ⊢
  have q:(c.op == 2) = true:=beq_iff_eq.2 h2
  refine qd Qj mixm (by simp) fun e _ hst=>qg ?_
  unfold jC
  simp only [tZ,↓un_u,simprocAttr,q,hci,Int.toNat_natCast,qe hil,qe hcd.1]
  refine ⟨by omega,by omega,?_⟩
  refine C1.im (qV0 _ v c.code) (by rfl) (by rfl) ?_
  refine sW ?_
  repeat (first | refine ⟨by omega,?_⟩ | refine ⟨by kernel_rfl,?_⟩)
  refine C1.im (Qq _) (by rfl) (by rfl) ?_
  refine sW ?_
  repeat (first | refine ⟨by omega,?_⟩ | refine ⟨by kernel_rfl,?_⟩)
  exact .oA [] []
 have q:(c.op == 2) = false:=beq_eq_false_iff_ne.2 h2
 rw [if_neg h2]
 by_cases h4:c.op = 4
 ·have q4:(c.op == 4) = true:=beq_iff_eq.2 h4
  rw [if_neg (by omega),if_pos h4]
  refine qd Qj mixm (by simp) fun e _ hst=>qg ?_
  unfold jC
  simp only [tZ,↓un_u,simprocAttr,q,q4]
  rw [show (-1099511627776:Int) = qf5 from rfl]
  refine C1.im (Qq _) (by rfl) (by rfl) ?_
  refine sW ?_
  exact .oA [] []
 have q4:(c.op == 4) = false:=beq_eq_false_iff_ne.2 h4
 have h3:c.op = 3:=by
  unfold isAt at ha
  rw [q,q4] at ha
  simpa using ha
 rw [if_pos h3]
 refine qd Qj mixm (by simp) fun e _ hst=>qg ?_
 unfold jC
 simp only [tZ,↓un_u,simprocAttr,q,q4,beq_iff_eq,beq_eq_false_iff_ne]
 rw [show (-1099511627776:Int) = qf5 from rfl]
 refine ⟨fun h=>?_,fun h=>?_⟩
 ·rw [if_pos h]
  exact .oA [] []
 ·rw [if_neg h]
  refine C1.im (Qq _) (by rfl) (by rfl) ?_
  refine sW ?_
  exact .oA [] []
theorem Kp:∀ (c:Cnd) (m:Int),1≤m→m≤1000→cntC c m < m→Spc Tryz.prog jx [cnT c] [] (vCs (atsC c)) []:=by
 refine Cnd.ind' fun c ih m hm hm2 hc=>?_
 have hal:=qU2 c m hm hc
 rw [Wa] at hc hal
 obtain ⟨hk1,hk2⟩:=qy4 (by omega) hc
 have hi:isAt c = ((c.op == 2) || (c.op == 3) || (c.op == 4)):=rfl
 refine qd qk9 mixm (by simp) fun e _ hst=>qg ?_
 unfold yC
 refine sW ?_
 rw [← hi]
 refine ⟨fun h=>?_,fun h=>?_⟩
 ·rw [qT7,if_pos h]
  show ZD [] _ _ (.sl 6 [cndT c]) []
  rw [zX]
  exact .oA [] [12292]
 ·rw [qT7,if_neg (by rw [h];simp)] at hal ⊢
  refine qu mixm (α:=Nat) [3,24,18] (fun i=>i≤c.kids.length) (fun i=>[(3,.asl 1 (Kk (c.kids.take i)).length),(24,vI i)]) (fun i=>[(1,.arr 6 ((Kk (c.kids.take i)).map cndT) false)]) (fun i=>c.kids.length - i) 0 (by omega) ?_ fun i hi2=>?_
  ·exact .oA [(1,none)] []
  have htl:=Wd c.kids i
  refine sD ?_
  refine ⟨fun h5=>?_,fun h5=>?_⟩
  ·have hi2:i < c.kids.length:=by omega
   have hwi:=qh (i:=i) (by omega)
   obtain ⟨m',a1,a2,a3⟩:=hk2 _ (List.getElem_mem hi2)
   have htl2:=Wd c.kids (i + 1)
   rw [qY hi2,qr5,List.length_append] at htl2
   simp only [tZ,↓un_u,simprocAttr,Int.toNat_natCast,qe hi2,zX]
   refine ⟨by omega,?_⟩
   refine C1.im (ih _ (List.getElem_mem hi2) m' a1 (by omega) a3) (by rfl) (by rfl) ?_
   simp only [tZ,↓un_u,simprocAttr,hwi]
   refine ⟨by omega,i + 1,by omega,by omega,?_⟩
   rw [qY hi2,qr5,List.map_append]
   refine .of [(1,some 1)] [] rfl (by first | rfl | (rw [hst];rfl)) ?_ ?_
   all_goals (try simp only [tL,simprocAttr,List.map_append,List.map_cons,List.map_nil,List.cons_append,List.nil_append,List.append_assoc])
   all_goals (try (repeat' (first | exact qR | (apply zd;intro _;exact ⟨rfl,rfl⟩) | (apply qz;intro _;exact ⟨rfl,rfl⟩) | with_reducible apply qG | with_reducible refine qE ⟨rfl,rfl⟩ ?_ | exact qO | with_reducible apply qA | with_reducible refine qJ ⟨rfl,rfl,?_⟩ ?_ | with_reducible apply And.intro | exact qD rfl | exact qD (by assumption) | (refine ⟨⟨?_,rfl,?_,rfl,?_⟩,trivial⟩ <;> first | (simp;done) | (apply qz;intro _;exact ⟨rfl,rfl⟩)) | trivial | rfl | (rw [qh (by omega)]) | omega)))
   all_goals first | exact zR7 _ | exact zR6 _
  ·have hil:i = c.kids.length:=by omega
   subst hil
   rw [List.take_length]
   refine .of [] [1] rfl (by first | rfl | (rw [hst];rfl)) ?_ ?_
   all_goals (try simp only [tL,simprocAttr,List.map_append,List.map_cons,List.map_nil,List.cons_append,List.nil_append,List.append_assoc])
   all_goals (try (repeat' (first | exact qR | (apply zd;intro _;exact ⟨rfl,rfl⟩) | (apply qz;intro _;exact ⟨rfl,rfl⟩) | with_reducible apply qG | with_reducible refine qE ⟨rfl,rfl⟩ ?_ | exact qO | with_reducible apply qA | with_reducible refine qJ ⟨rfl,rfl,?_⟩ ?_ | with_reducible apply And.intro | exact qD rfl | exact qD (by assumption) | (refine ⟨⟨?_,rfl,?_,rfl,?_⟩,trivial⟩ <;> first | (simp;done) | (apply qz;intro _;exact ⟨rfl,rfl⟩)) | trivial | rfl | (rw [qh (by omega)]) | omega)))
   all_goals first | exact zR7 _ | exact zR6 _
end Go.Proofs
namespace Go.Proofs
open Go Go.TL
set_option maxRecDepth 4000
set_option maxHeartbeats 8000000
theorem Wo (n w:Int) (hw:0 < w∧w≤1000000) (hn : -4611686018427387904 < n∧n < 4611686018427387904):Spc Tryz.prog wB [vI n,vI w] [] (vI (qK n w * w)) []:=by
 rw [zm8 hw.1]
 have h2:=Int.tmod_lt_of_pos n hw.1
 have h3:=Int.lt_tmod_of_pos n hw.1
 have w1:IntKind.i64.wrap (n.tmod w) = n.tmod w:=IntWalk.i64_in _ (by omega)
 have w2:IntKind.i64.wrap (n.tmod w + w) = n.tmod w + w:=IntWalk.i64_in _ (by omega)
 have w3:IntKind.i64.wrap (n - n.tmod w) = n - n.tmod w:=IntWalk.i64_in _ (by omega)
 have w4:IntKind.i64.wrap (n - (n.tmod w + w)) = n - (n.tmod w + w):=IntWalk.i64_in _ (by omega)
 refine qd qq8 mixm (by simp) fun e _ hst=>qg ?_
 unfold Qk
 simp only [tZ,↓un_u,simprocAttr,w1,w2,w3,w4,tD]
 refine ⟨by omega,fun h=>?_,fun h=>?_⟩
 ·rw [if_pos h]
  exact .oA [] []
 ·rw [if_neg h]
  exact .oA [] []
theorem qs3 (c:Col) (lev:Int) (h1:1≤lev∧lev≤c.widths.length) (h2:c.widths.length < 4611686018427387904):Spc Tryz.prog yW [colT c,vI lev] [] (vI (zm c lev)) []:=by
 have hw:IntKind.i64.wrap ((c.widths.length:Int) - lev) = (c.widths.length:Int) - lev:=IntWalk.i64_in _ (by omega)
 have hk:((c.widths.length:Int) - lev).toNat < c.widths.length:=by omega
 refine qd ql3 mixm (by simp) fun e _ hst=>qg ?_
 unfold yE
 simp only [tZ,↓un_u,simprocAttr,hw,qe hk]
 rw [zm,qk hk]
 refine ⟨by omega,?_⟩
 exact .oA [] []
theorem qn5 (k k' v:Int):∀ l:List (Int×Int),TL.look TL.eqI k (TL.asg TL.eqI k' v l) = if k = k' then some v else TL.look TL.eqI k l
 | []=>by
   simp only [TL.asg,TL.look,TL.eqI,beq_iff_eq]
 | (a,b) :: r=>by
   have ih:=qn5 k k' v r
   simp only [TL.asg,TL.eqI,beq_iff_eq] at ih ⊢
   by_cases h:k' = a
   ·subst h
    rw [if_pos rfl]
    simp only [TL.look,TL.eqI,beq_iff_eq]
    split <;> rfl
   ·rw [if_neg h]
    simp only [TL.look,TL.eqI,beq_iff_eq]
    rw [ih]
    by_cases h2:k = a
    ·subst h2
     rw [if_pos rfl,if_neg (fun e=>h e.symm),if_pos rfl]
    ·rw [if_neg h2,if_neg h2]
theorem zh4 {n w:Int} (hw:0 < w):(qK n w * w == n) = (n.tmod w == 0):=by
 rw [zm8 hw,Bool.eq_iff_iff,beq_iff_eq,beq_iff_eq]
 have h2:=Int.tmod_lt_of_pos n hw
 have h3:=Int.lt_tmod_of_pos n hw
 split <;> omega
theorem qb3 (s:Sch) (hE:schE s = 0) (c:Cnd) (hnd:NdOk s c) (ha:isAt c = true) (lev:Nat) (hl:(lev:Int)≤finI s c.col):Spc Tryz.prog kZ [schT s,cnT c,vI lev] [] (vB (decB s c lev)) []:=by
 have hok:=qZ hE
 have hn0:=hok.nl
 have hn1:=hok.nc
 obtain ⟨_,c1,c2,hfin⟩:=Wb (s:=s) (c:=c.col) (by omega)
 obtain ⟨i,hci⟩:=Int.eq_ofNat_of_zero_le (show 0≤c.col by omega)
 have hcn:c.col.toNat = i:=by omega
 have hil:i < s.cols.length:=by omega
 have hat:qj s i = s.cols[i]:=by rw [qj,qk hil]
 have hcd:=fun e=>hok.cdl hil e
 have hcd2:=(zf (hok.cs i hil)).2.2.2.1
 have hwd:=fun e l=>hok.wid hil (by omega) e (lev:=l)
 have hll:=zB5 hok hil
 have hcl:qM s i = s.lists.getD s.cols[i].list.toNat default:=by rw [qM,hat]
 have hlh:=fun h2 v=>Ki (s:=s) (i:=i) h2 (v:=v)
 have hfi:∀ h2:(qj s i).kind = 2,finI s c.col = zi (qM s i) - 1:=fun h2=>by rw [hfin,hcn,if_pos h2]
 have hco:∀ h2:(qj s i).kind = 2,∀ v∈qS s i,qT s c.col lev v = upC (qM s i) v lev:=fun h2 v hv=>by
  have:=Ki h2 (hcd h2).2 hv
  rw [qT,if_neg (by rw [Bool.not_eq_false,Yy];omega),hcn,if_pos h2,if_neg (by rw [this];simp)]
 rw [hcn,hat] at hfin
 rw [hat] at hwd hll hcd hcd2 hfi hco
 have hD:decB s c lev = if c.op = 2 then qF3 (qS s i).length (decP s c lev)
 else if c.op = 4 then decide (0 < lev)
 else if lev = 0 then !s.cols[i].opt && !(decide (s.cols[i].low < c.lo) && decide (c.lo≤s.cols[i].high)) && !(decide (s.cols[i].low≤c.hi) && decide (c.hi < s.cols[i].high))
  else (!(decide (s.cols[i].low < c.lo) && decide (c.lo≤s.cols[i].high)) || (c.lo.tmod (zm s.cols[i] lev) == 0)) && (!(decide (s.cols[i].low≤c.hi) && decide (c.hi < s.cols[i].high)) || ((c.hi + 1).tmod (zm s.cols[i] lev) == 0)):=by
  rw [decB,hcn,hat]
 have hk2:c.op = 2→s.cols[i].kind = 2:=fun h=>by
  have:=(zP.1 (hnd.under h).1).2.2
  rw [hcn,hat] at this;exact this
 have hk3:c.op = 3→s.cols[i].kind = 3:=fun h=>by
  have:=(zP.1 (hnd.between h).1).2.2
  rw [hcn,hat] at this;exact this
 have hm4:c.op = 4→s.cols[i].opt = true:=fun h=>by
  have:=(hnd.miss h).2
  rw [hcn,hat] at this;exact this
 have hPd:∀ L,qS s i = L→∀ j k,decP s c lev j k = !((qT s c.col lev (L.getD j 0) == qT s c.col lev (L.getD k 0)) && !(wt s c (L.getD j 0) == wt s c (L.getD k 0))):=fun L hL j k=>by rw [decP,hcn,hL]
 have hlv:qS s i = atL (qM s i) (zi (qM s i) - 1):=rfl
 rw [hD]
 rw [hcl] at hcd hco hlv
 refine qd Yr mixm (by simp) fun e _ hst=>qg ?_
 unfold kF
 simp only [tZ,↓un_u,simprocAttr,hcn,qe hil]
 have hmw:s.cols[i].kind = 3→1≤s.cols[i].widths.length:=fun h=>by
  have:=(zf (hok.cs i hil)).2.2.2.2 (by rw [hat];exact h)
  rw [hat] at this
  unfold measE at this
  grind
 generalize s.cols[i] = x at hmw hwd hfin hll hk2 hk3 hm4 hcd hcd2 hco hlv ⊢
 simp only [tZ,↓un_u,simprocAttr,beq_iff_eq,beq_eq_false_iff_ne]
 refine ⟨by omega,fun h2=>?_,fun h2=>?_⟩
 ·rw [if_pos h2]
  obtain ⟨d1,d2⟩:=hcd (hk2 h2)
  obtain ⟨d3,d4⟩:=hcd2 (hk2 h2)
  have hco:=hco (hk2 h2)
  have hll:=hll (hk2 h2)
  have hPd:=hPd _ rfl
  rw [qk d1] at d2 hco hlv
  rw [hlv] at hco hll hPd ⊢
  have hAt:=Wn s hok c hnd ha
  simp only [tZ,↓un_u,simprocAttr,qe d1]
  refine ⟨by omega,?_⟩
  generalize s.lists[x.list.toNat] = l at d2 hco hll hPd ⊢
  have hlvl:=qF2 (l:=l)
  have hw2:IntKind.i64.wrap (zi l - 1) = zi l - 1:=IntWalk.i64_in _ (by omega)
  refine C1.im (JS l) (by rfl) (by rfl) ?_
  simp only [tZ,↓un_u,simprocAttr,hw2]
  refine C1.im (qs1 l (zi l - 1)) (by rfl) (by rfl) ?_
  refine sW ?_
  repeat (first | refine ⟨by omega,?_⟩ | refine ⟨by kernel_rfl,?_⟩)
  generalize atL l (zi l - 1) = L at hco hll hPd ⊢
  refine qu mixm (α:=Nat×List (Int×Int)) [41] (fun y=>y.1≤L.length∧qF3 y.1 (decP s c lev) = true∧(∀ a,a < y.1→TL.look TL.eqI (upC l (L.getD a 0) lev) y.2 = some (wt s c (L.getD a 0)))∧∀ k v,TL.look TL.eqI k y.2 = some v→∃ a,a < y.1∧upC l (L.getD a 0) lev = k∧wt s c (L.getD a 0) = v) (fun y=>[(41,vI y.1)]) (fun y=>[(4096,.arr 2 [schT s] false),(4100,.arr 6 [cnT c] false),(16408,.arr 2 [cdlT l] false),(20480,.mp (.ii y.2))]) (fun y=>L.length - y.1) (0,[]) ⟨by simp,rfl,by simp,by simp [TL.look]⟩ ?_ fun y hy=>?_
  ·exact .oA [(4096,some 4096),(4100,some 4100),(16408,some 16408),(20480,some 20480)] []
  obtain ⟨j,M⟩:=y
  obtain ⟨y1,y2,y3,y4⟩:=hy
  dsimp only at y1 y2 y3 y4
  refine sD ?_
  refine ⟨fun h3=>?_,fun h3=>?_⟩
  ·have hj2:j < L.length:=by omega
   have hwj:=qh (i:=j) (by omega)
   have hgj:L.getD j 0 = L[j]:=qk hj2
   have hP:∀ a,a < j→decP s c lev j a = !((upC l L[j] lev == upC l (L.getD a 0) lev) && !(wt s c L[j] == wt s c (L.getD a 0))):=fun a ha=>by
    rw [hPd,hgj,hco L[j] (List.getElem_mem hj2),hco (L.getD a 0) (by rw [qk (show a < L.length by omega)];exact List.getElem_mem _)]
   have hlk:=qn5
   simp only [tZ,↓un_u,simprocAttr,Int.toNat_natCast,qe hj2]
   refine ⟨by omega,?_⟩
   refine C1.im (YR l L[j] lev) (by rfl) (by rfl) ?_
   refine sW ?_
   refine C1.im (hAt L[j]) (by rfl) (by rfl) ?_
   refine sW ?_
   repeat (first | refine ⟨by omega,?_⟩ | refine ⟨by kernel_rfl,?_⟩)
   have hfin:∀ v,(∀ w,TL.look TL.eqI (upC l L[j] lev) M = some w→w = wt s c L[j])→v = wt s c L[j]→(j + 1≤L.length∧qF3 (j + 1) (decP s c lev) = true∧(∀ a,a < j + 1→TL.look TL.eqI (upC l (L.getD a 0) lev) (TL.asg TL.eqI (upC l L[j] lev) v M) = some (wt s c (L.getD a 0)))∧∀ k w,TL.look TL.eqI k (TL.asg TL.eqI (upC l L[j] lev) v M) = some w→∃ a,a < j + 1∧upC l (L.getD a 0) lev = k∧wt s c (L.getD a 0) = w):=fun v hv e=>by
    subst e
    have hsame:∀ a,a < j→upC l (L.getD a 0) lev = upC l L[j] lev→wt s c (L.getD a 0) = wt s c L[j]:=fun a ha he=>by
     have:=y3 a ha
     rw [he] at this
     exact hv _ this
    refine ⟨by omega,?_,fun a h5=>?_,fun k w h5=>?_⟩
    ·rw [zB3,y2,Bool.true_and,List.all_eq_true]
     intro a ha
     rw [List.mem_range] at ha
     rw [hP a ha]
     by_cases q:upC l (L.getD a 0) lev = upC l L[j] lev
     ·rw [hsame a ha q];simp
     ·rw [beq_eq_false_iff_ne.2 (fun e=>q e.symm)];rfl
    ·rw [qn5]
     by_cases q:a = j
     ·subst q;rw [hgj,if_pos rfl]
     ·split
      ·rename_i q2;rw [hsame a (by omega) q2]
      ·exact y3 a (by omega)
    ·rw [qn5] at h5
     split at h5
     ·rename_i q
      exact ⟨j,by omega,by rw [hgj,q],by rw [hgj];simpa using h5⟩
     ·obtain ⟨a,a1,a2,a3⟩:=y4 k w h5
      exact ⟨a,by omega,a2,a3⟩
   cases hf:TL.look TL.eqI (upC l L[j] lev) M with
   | none=>
     simp only [tZ,↓un_u,simprocAttr,hf,Option.isSome_none,hwj]
     refine ⟨fun h=>by simp at h,fun _=>⟨(j + 1,_),hfin _ (fun w h=>by rw [hf] at h;cases h) rfl,by dsimp only;omega,?_⟩⟩
     exact .oA [(4096,some 4096),(4100,some 4100),(16408,some 16408),(20480,some 20480)] []
   | some w=>
     simp only [tZ,↓un_u,simprocAttr,hf,Option.isSome_some,Option.getD_some,bne_iff_ne,bne_eq_false_iff_eq,hwj]
     refine ⟨fun h5=>?_,fun h5=>?_⟩
     ·obtain ⟨a,a1,a2,a3⟩:=y4 _ _ hf
      rw [jb0 hj2 a1 (by rw [hP a a1,a2,a3,beq_self_eq_true,beq_eq_false_iff_ne.2 (fun e=>h5 e.symm)];rfl)]
      exact .oA [] []
     ·refine ⟨(j + 1,_),hfin _ (fun w' h=>by rw [hf] at h;cases h;exact h5) rfl,by dsimp only;omega,?_⟩
      exact .oA [(4096,some 4096),(4100,some 4100),(16408,some 16408),(20480,some 20480)] []
  ·have hjl:j = L.length:=by omega
   subst hjl
   rw [y2]
   exact .oA [] []
 rw [if_neg h2]
 by_cases h4:c.op = 4
 ·rw [if_pos h4]
  have ho:=hm4 h4
  by_cases hz:lev = 0
  ·subst hz
   simp only [tZ,↓un_u,simprocAttr,ho]
   exact .oA [] []
  ·have e0:((lev:Int) == 0) = false:=beq_eq_false_iff_ne.2 (by omega)
   simp only [tZ,↓un_u,simprocAttr,e0,beq_iff_eq,beq_eq_false_iff_ne]
   rw [decide_eq_true (show 0 < lev by omega)]
   refine ⟨fun h=>by simp at h,fun _=>⟨fun _=>?_,fun h=>absurd h4 h⟩⟩
   exact .oA [] []
 rw [if_neg h4]
 have h3:c.op = 3:=by
  unfold isAt at ha
  simp only [Bool.or_eq_true,beq_iff_eq] at ha
  omega
 have hk3:=hk3 h3
 have hb:=hnd.between h3
 rw [if_neg (by omega)] at hfin
 have q4:(c.op == 4) = false:=beq_eq_false_iff_ne.2 h4
 have hxw:=hmw hk3
 obtain ⟨_,_,_,x4,x5,x6,x7,_⟩:=hwd (by omega) 1 (by omega)
 by_cases hz:lev = 0
 ·subst hz
  simp only [tZ,↓un_u,simprocAttr,zx1,jj1,tD]
  refine ⟨fun h=>?_,fun h=>⟨fun k=>absurd k h4,fun _=>?_⟩⟩
  ·rw [h]
   exact .oA [] []
  ·rw [h]
   repeat (first | refine ⟨by omega,?_⟩ | refine ⟨by kernel_rfl,?_⟩)
   refine ⟨fun h5=>?_,fun h5=>?_⟩
   ·rw [show (!false && !(decide (x.low < c.lo) && decide (c.lo≤x.high)) && !(decide (x.low≤c.hi) && decide (c.hi < x.high))) = true by grind]
    exact .oA [] []
   ·rw [show (!false && !(decide (x.low < c.lo) && decide (c.lo≤x.high)) && !(decide (x.low≤c.hi) && decide (c.hi < x.high))) = ((max c.lo x.low == x.low) && (min c.hi x.high == x.high)) by grind]
    exact .oA [] []
 have e0:((lev:Int) == 0) = false:=beq_eq_false_iff_ne.2 (by omega)
 rw [if_neg hz]
 obtain ⟨w1,w2,_⟩:=hwd (by omega) lev (by omega)
 simp only [tZ,↓un_u,simprocAttr,e0,zx1,jj1,tD]
 refine fun _=>⟨fun k=>absurd k h4,fun _=>?_⟩
 repeat (first | refine ⟨by omega,?_⟩ | refine ⟨by kernel_rfl,?_⟩)
 refine ⟨fun h5=>?_,fun h5=>?_⟩
 ·rw [show ((!(decide (x.low < c.lo) && decide (c.lo≤x.high)) || (c.lo.tmod (zm x lev) == 0)) && (!(decide (x.low≤c.hi) && decide (c.hi < x.high)) || ((c.hi + 1).tmod (zm x lev) == 0))) = true by grind]
  exact .oA [] []
 refine ⟨fun h=>by omega,fun _=>?_⟩
 refine C1.im (qs3 x lev (by omega) (by omega)) (by rfl) (by rfl) ?_
 generalize zm x lev = w at w1 w2 ⊢
 have hF:((!(decide (x.low < c.lo) && decide (c.lo≤x.high)) || (c.lo.tmod w == 0)) && (!(decide (x.low≤c.hi) && decide (c.hi < x.high)) || ((c.hi + 1).tmod w == 0))) = (((max c.lo x.low == x.low) || (qK (max c.lo x.low) w * w == max c.lo x.low)) && ((min c.hi x.high == x.high) || (qK (min c.hi x.high + 1) w * w == min c.hi x.high + 1))):=by
  rw [zh4 (by omega),zh4 (by omega)]
  congr 1
  ·by_cases k:x.low < c.lo
   ·rw [show max c.lo x.low = c.lo by omega,decide_eq_true k,decide_eq_true (show c.lo≤x.high by omega),beq_eq_false_iff_ne.2 (show c.lo≠x.low by omega)]
    rfl
   ·rw [show max c.lo x.low = x.low by omega,decide_eq_false k,beq_self_eq_true]
    simp
  ·by_cases k:c.hi < x.high
   ·rw [show min c.hi x.high = c.hi by omega,decide_eq_true k,decide_eq_true (show x.low≤c.hi by omega),beq_eq_false_iff_ne.2 (show c.hi≠x.high by omega)]
    rfl
   ·rw [show min c.hi x.high = x.high by omega,decide_eq_false k,beq_self_eq_true]
    simp
 rw [hF]
 have hwm:IntKind.i64.wrap (min c.hi x.high + 1) = min c.hi x.high + 1:=IntWalk.i64_in _ (by omega)
 refine sW ?_
 refine C2.im (fun _=>Wo (max c.lo x.low) w (by omega) (by omega)) (fun _=>rfl) (by rfl) ?_
 simp only [tZ,↓un_u,simprocAttr,hwm]
 refine C2.im (fun _=>Wo (min c.hi x.high + 1) w (by omega) (by omega)) (fun _=>rfl) (by rfl) ?_
 simp only [tZ,↓un_u,simprocAttr,hwm]
 repeat (first | refine ⟨by omega,?_⟩ | refine ⟨by kernel_rfl,?_⟩)
 exact .oA [] []
end Go.Proofs
