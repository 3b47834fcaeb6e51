/- A part of the proof: trees of Go values, short forms, contracts. -/
import Derived.WalkKit
import Derived.Still
import Derived.MapKept
import GoSem.Builtin.Cap
import Derived.Laws.Externs
import GoSem.Extern.SlicesOverlaps
import Derived.Carry
import Derived.ProofKit
import Derived.OpenShut
import Derived.HandedShaped
import Derived.Lay
import Derived.LaidLaws
import Derived.MakeChecks
import Derived.SevenTiedAt
import Derived.Test.YtiddpnhnaooohaaGreatDoorChecked
import Derived.Test.YtiddpnhnaooohaaGreatDoorK22
set_option linter.unusedSimpArgs false
set_option linter.unusedVariables false
namespace Go.Proofs
open Go Go.TL
set_option maxRecDepth 4000
set_option maxHeartbeats 8000000
mutual
def sizC:Cnd→Nat
 | .mk _ _ _ _ _ ks=>qk6 ks + 1
def qk6:List Cnd→Nat
 | []=>0
 | k :: r=>sizC k + qk6 r
end
theorem qV0 (c:Cnd):sizC c = qk6 c.kids + 1:=by cases c;rw [sizC];rfl
theorem jl9:∀ c,∀ m,1≤m→cntC c m≤sizC c:=by
 refine Cnd.ind' fun c ih m hm=>?_
 rw [Qw,qV0]
 have key:∀ l:List Cnd,(∀ k∈l,k∈c.kids)→∀ n,n≤m→jV l m n≤n + qk6 l:=by
  intro l
  induction l with
  | nil=>intro _ n h;rw [jV,qk6];omega
  | cons k r ihl=>
    intro hk n h
    rw [jV,qk6]
    split
    ·have c1:=qr2 k (m - n) (by omega)
     have c2:=ih k (hk k (by simp)) (m - n) (by omega)
     have c3:=ihl (fun x hx=>hk x (List.mem_cons_of_mem _ hx)) (n + cntC k (m - n)) (by omega)
     omega
    ·omega
 have:=key c.kids (fun k hk=>hk) 1 (by omega)
 omega
structure CndOk (s:Sch) (n:Nat) (c:Cnd):Prop where
 ok:nodE s c = 0
 dep:depC c≤n + 1
 siz:sizC c + 1≤2 ^ (n + 1)
theorem CndOk.chk {s:Sch} {n:Nat} {c:Cnd} (h:CndOk s n c) (hE:schE s = 0) (hn:n≤3):chkC s c = 0:=by
 have h1:=jl9 c 41 (by omega)
 have h2:=h.siz
 have h3:=h.dep
 have h4:2 ^ (n + 1)≤2 ^ 4:=Nat.pow_le_pow_right (by omega) (by omega)
 rw [chkC,if_neg (by rw [hE];simp),if_neg (by omega),if_neg (by omega)]
 exact h.ok
theorem zm1 {s:Sch} {c:Cnd} (h1:ndE s c = 0) (h2:yq s c.kids = 0):nodE s c = 0:=by rw [qT1,if_neg (by rw [h1];simp)];exact h2
theorem Qy {s:Sch} {c:Cnd} (n:Nat) (h1:ndE s c = 0) (h2:c.kids = []):CndOk s n c:=by
 have h3:2 ^ 1≤2 ^ (n + 1):=Nat.pow_le_pow_right (by omega) (by omega)
 refine ⟨zm1 h1 (by rw [h2,yq]),by rw [qo4,h2,jG];omega,by rw [qV0,h2,qk6];omega⟩
theorem zS2 {s:Sch} {c:Cnd} (h1:¬ (c.op < 1∨7 < c.op)) (h2:¬ (c.kids.length≠arC c.op∨(c.op≠2∧c.op≠3∧c.op≠4∧c.col≠0)∨(c.op≠2∧c.code≠0)∨(c.op≠3∧(c.lo≠0∨c.hi≠0))))
 (h3:¬ ((c.op = 2∧isB s c.col 2 = false)∨(c.op = 3∧isB s c.col 3 = false)∨(c.op = 4∧(isB s c.col 3 = false∨(qh s c.col.toNat).opt = false))))
 (h4:¬ (c.op = 2∧(c.code < 0∨c.code≥(qH s c.col.toNat).codes.length))) (h5:¬ (c.op = 3∧(c.lo < -1000000∨c.hi > 1000000∨c.lo > c.hi))):ndE s c = 0:=by
 rw [ndE,if_neg h1,if_neg h2,if_neg h3,if_neg h4,if_neg h5]
theorem zw7 (s:Sch):ndE s (.mk 1 0 0 0 0 []) = 0:=zS2 (by simp [Cnd.op,Cnd.col,Cnd.code,Cnd.lo,Cnd.hi,Cnd.kids]) (by simp [arC,Cnd.op,Cnd.col,Cnd.code,Cnd.lo,Cnd.hi,Cnd.kids]) (by simp [Cnd.op,Cnd.col,Cnd.code,Cnd.lo,Cnd.hi,Cnd.kids]) (by simp [Cnd.op,Cnd.col,Cnd.code,Cnd.lo,Cnd.hi,Cnd.kids]) (by simp [Cnd.op,Cnd.col,Cnd.code,Cnd.lo,Cnd.hi,Cnd.kids])
theorem zw8 {s:Sch} {v:Nat} {k:Int} (h:isB s v 2 = true) (h1:0≤k) (h2:k < (qH s v).codes.length):ndE s (.mk 2 v k 0 0 []) = 0:=
 zS2 (by simp [Cnd.op,Cnd.col,Cnd.code,Cnd.lo,Cnd.hi,Cnd.kids]) (by simp [arC,Cnd.op,Cnd.col,Cnd.code,Cnd.lo,Cnd.hi,Cnd.kids]) (by simp [Cnd.op,Cnd.col,Cnd.code,Cnd.lo,Cnd.hi,Cnd.kids,h]) (by simp only [Cnd.op,Cnd.col,Cnd.code,Cnd.lo,Cnd.hi,Cnd.kids,Int.toNat_natCast];omega) (by simp [Cnd.op,Cnd.col,Cnd.code,Cnd.lo,Cnd.hi,Cnd.kids])
theorem Yx {s:Sch} {v:Nat} {a b:Int} (h:isB s v 3 = true) (h1 : -1000000≤a) (h2:b≤1000000) (h3:a≤b):ndE s (.mk 3 v 0 a b []) = 0:=
 zS2 (by simp [Cnd.op,Cnd.col,Cnd.code,Cnd.lo,Cnd.hi,Cnd.kids]) (by simp [arC,Cnd.op,Cnd.col,Cnd.code,Cnd.lo,Cnd.hi,Cnd.kids]) (by simp [Cnd.op,Cnd.col,Cnd.code,Cnd.lo,Cnd.hi,Cnd.kids,h]) (by simp [Cnd.op,Cnd.col,Cnd.code,Cnd.lo,Cnd.hi,Cnd.kids]) (by simp only [Cnd.op,Cnd.col,Cnd.code,Cnd.lo,Cnd.hi,Cnd.kids];omega)
theorem zS3 {s:Sch} {v:Nat} (h:isB s v 3 = true) (h1:(qh s v).opt = true):ndE s (.mk 4 v 0 0 0 []) = 0:=
 zS2 (by simp [Cnd.op,Cnd.col,Cnd.code,Cnd.lo,Cnd.hi,Cnd.kids]) (by simp [arC,Cnd.op,Cnd.col,Cnd.code,Cnd.lo,Cnd.hi,Cnd.kids]) (by simp only [Cnd.op,Cnd.col,Cnd.code,Cnd.lo,Cnd.hi,Cnd.kids,Int.toNat_natCast,h,h1];simp) (by simp [Cnd.op,Cnd.col,Cnd.code,Cnd.lo,Cnd.hi,Cnd.kids]) (by simp [Cnd.op,Cnd.col,Cnd.code,Cnd.lo,Cnd.hi,Cnd.kids])
theorem zS4 {s:Sch} {op:Int} {ks:List Cnd} (h:op = 5∨op = 6∨op = 7) (hk:ks.length = arC op):ndE s (.mk op 0 0 0 0 ks) = 0:=
 zS2 (by simp only [Cnd.op,Cnd.col,Cnd.code,Cnd.lo,Cnd.hi,Cnd.kids];omega) (by simp [Cnd.op,Cnd.col,Cnd.code,Cnd.lo,Cnd.hi,Cnd.kids,hk]) (by simp only [Cnd.op,Cnd.col,Cnd.code,Cnd.lo,Cnd.hi,Cnd.kids];omega) (by simp only [Cnd.op,Cnd.col,Cnd.code,Cnd.lo,Cnd.hi,Cnd.kids];omega) (by simp only [Cnd.op,Cnd.col,Cnd.code,Cnd.lo,Cnd.hi,Cnd.kids];omega)
theorem jr1 {s:Sch} {n:Nat} {c:Cnd} (h:CndOk s n c):CndOk s (n + 1) (.mk 7 0 0 0 0 [c]):=by
 have h1:=h.dep
 have h2:=h.siz
 have h3:2 ^ (n + 1 + 1) = 2 * 2 ^ (n + 1):=by rw [Nat.pow_succ];omega
 refine ⟨zm1 (zS4 (.inr (.inr rfl)) rfl) ?_,?_,?_⟩
 ·show yq s [c] = 0
  rw [yq,if_neg (by rw [h.ok];simp),yq]
 ·rw [qo4];show jG [c] + 1≤_
  rw [jG,jG];omega
 ·rw [qV0];show qk6 [c] + 1 + 1≤_
  rw [qk6,qk6];omega
theorem jh1 {s:Sch} {n:Nat} {c d:Cnd} {op:Int} (ho:op = 5∨op = 6) (h:CndOk s n c) (g:CndOk s n d):CndOk s (n + 1) (.mk op 0 0 0 0 [c,d]):=by
 have h1:=h.dep
 have h2:=h.siz
 have g1:=g.dep
 have g2:=g.siz
 have h3:2 ^ (n + 1 + 1) = 2 * 2 ^ (n + 1):=by rw [Nat.pow_succ];omega
 refine ⟨zm1 (zS4 (by omega) (by rcases ho with h | h <;> subst h <;> rfl)) ?_,?_,?_⟩
 ·show yq s [c,d] = 0
  rw [yq,if_neg (by rw [h.ok];simp),yq,if_neg (by rw [g.ok];simp),yq]
 ·rw [qo4];show jG [c,d] + 1≤_
  rw [jG,jG,jG];omega
 ·rw [qV0];show qk6 [c,d] + 1 + 1≤_
  rw [qk6,qk6,qk6];omega
theorem Kc (s:Sch) (hd:DrS s) (l:List UInt8) (hl:l.length≤400):∀ (n:Nat) (a:Nat),a≤l.length→n≤3→
 ∃ r:Cnd×Nat,(CndOk s n r.1∧r.2≤l.length)∧Spc Tryz.prog zb [.ptr 0 1 0 0,schT s,vI n] [(0,oC l a)] (cnT r.1) [(0,oC l r.2)]:=by
 have hE:=hd.ok
 have hok:=qZ hE
 have hnc:=hok.nc
 have hat:∀ i (h:i < s.cols.length),qh s i = s.cols[i]:=fun i h=>by rw [qh,qk h]
 have hnl:=hd.nl
 intro n
 induction n with
 | zero=>
   intro a ha _
   refine jY ZO mixm (fun r:Cnd×Nat=>cnT r.1) (fun r=>[(0,oC l r.2)]) (by simp) ?_
   unfold jU
   have hz:decide (((0:Nat):Int) > 0) = false:=rfl
   simp only [tZ,↓un_u,simprocAttr,hz]
   obtain ⟨b,hb2⟩:∃ b,b = a:=⟨_,rfl⟩
   rw [← hb2]
   have hb:b≤l.length:=by omega
   obtain ⟨j2,b2,u1,u2,hb2,sN2⟩:=ZD l b 5 hl hb (by omega)
   refine XE.mp (fun _ _=>C1.draw 0 l b _ sN2 rfl rfl rfl) ?_
   simp only [tZ,↓un_u,simprocAttr,beq_iff_eq,beq_eq_false_iff_ne]
   refine XE.brN (fun h1=>?_) (fun h1=>?_)
   ·obtain ⟨v,b3,hv,hb3,sV⟩:=zS1 s hd l b2 hl hb2
    obtain ⟨_,v2,v3⟩:=zQ.1 hv
    rw [Int.toNat_natCast] at v3
    have hil:v < s.cols.length:=by omega
    obtain ⟨d1,d2⟩:=hok.cdl hil v3
    obtain ⟨d3,d4⟩:=(za (hok.cs v hil)).2.2.2.1 v3
    have hcl:qH s v = s.lists.getD s.cols[v].list.toNat default:=by rw [qH,hat v hil]
    have hnd:=fun k=>zw8 (k:=k) hv
    rw [hat v hil] at d1 d3 d4
    rw [hcl,qk d1] at d2 hnd
    obtain ⟨_,d5,d6⟩:=zc d2
    obtain ⟨w,b4,w1,w2,hb4,sQ⟩:=ZD l b3 s.lists[s.cols[v].list.toNat].codes.length hl hb3 (by omega)
    refine XE.mp (fun _ _=>C1.draw 0 l b2 _ sV rfl rfl rfl) ?_
    simp only [tZ,↓un_u,simprocAttr,Int.toNat_natCast,qe hil,qe d1]
    refine XE.sd (by omega) (XE.sd (by omega) ?_)
    refine XE.mp (fun _ _=>C1.draw 0 l b3 _ sQ rfl rfl rfl) ?_
    refine sW ?_
    refine XE.sd (by kernel_rfl) ?_
    refine XE.fin (.mk 2 v w 0 0 [],b4) ⟨Qy _ (hnd w w1 w2) rfl,hb4⟩ fun e ⟨_,hst⟩=>?_
    exact .oA [(0,some 0)] []
   ·refine XE.brN (fun h2=>?_) (fun h2=>?_)
    ·refine XE.brN (fun _=>?_) (fun k=>absurd h2 k)
     obtain ⟨v,b3,hv,hb3,sV⟩:=yQ s hd l b2 hl hb2
     obtain ⟨_,v2,v3⟩:=zQ.1 hv
     rw [Int.toNat_natCast] at v3
     have hil:v < s.cols.length:=by omega
     obtain ⟨_,hM⟩:=hd.col hil v3
     have hlo:=hM.low
     rw [hat v hil] at hlo
     obtain ⟨w,b4,w1,w2,hb4,sQ⟩:=qp9 l b3 (-3) 40 hl hb3 (by omega) (by omega)
     obtain ⟨z,b5,z1,z2,hb5,sZ⟩:=ZD l b4 30 hl hb4 (by omega)
     have hw1:IntKind.i64.wrap (s.cols[v].low + w) = s.cols[v].low + w:=IntWalk.i64_in _ (by omega)
     have hw2:IntKind.i64.wrap (s.cols[v].low + w + z) = s.cols[v].low + w + z:=IntWalk.i64_in _ (by omega)
     refine XE.mp (fun _ _=>C1.draw 0 l b2 _ sV rfl rfl rfl) ?_
     simp only [tZ,↓un_u,simprocAttr,Int.toNat_natCast,qe hil]
     refine XE.sd (by omega) ?_
     refine XE.mp (fun _ _=>C1.draw 0 l b3 _ sQ rfl rfl rfl) ?_
     simp only [tZ,↓un_u,simprocAttr,hw1]
     refine XE.sd (by kernel_rfl) ?_
     refine XE.mp (fun _ _=>C1.draw 0 l b4 _ sZ rfl rfl rfl) ?_
     simp only [tZ,↓un_u,simprocAttr,hw2]
     refine XE.fin (.mk 3 v 0 (s.cols[v].low + w) (s.cols[v].low + w + z) [],b5) ⟨Qy _ (Yx hv (by omega) (by omega) (by omega)) rfl,hb5⟩ fun e ⟨_,hst⟩=>?_
     exact .oA [(0,some 0)] []
    ·refine XE.brN (fun h3=>?_) (fun h3=>?_)
     ·obtain ⟨v,b3,hv,hb3,sV⟩:=yQ s hd l b2 hl hb2
      obtain ⟨_,v2,v3⟩:=zQ.1 hv
      rw [Int.toNat_natCast] at v3
      have hil:v < s.cols.length:=by omega
      obtain ⟨_,hM⟩:=hd.col hil v3
      have hlo:=hM.low
      rw [hat v hil] at hlo
      obtain ⟨w,b4,w1,w2,hb4,sQ⟩:=qp9 l b3 (-3) 40 hl hb3 (by omega) (by omega)
      obtain ⟨z,b5,z1,z2,hb5,sZ⟩:=ZD l b4 30 hl hb4 (by omega)
      have hw1:IntKind.i64.wrap (s.cols[v].low + w) = s.cols[v].low + w:=IntWalk.i64_in _ (by omega)
      have hw2:IntKind.i64.wrap (s.cols[v].low + w + z) = s.cols[v].low + w + z:=IntWalk.i64_in _ (by omega)
      refine XE.mp (fun _ _=>C1.draw 0 l b2 _ sV rfl rfl rfl) ?_
      simp only [tZ,↓un_u,simprocAttr,Int.toNat_natCast,qe hil]
      refine XE.sd (by omega) ?_
      refine XE.mp (fun _ _=>C1.draw 0 l b3 _ sQ rfl rfl rfl) ?_
      simp only [tZ,↓un_u,simprocAttr,hw1]
      refine XE.sd (by kernel_rfl) ?_
      refine XE.mp (fun _ _=>C1.draw 0 l b4 _ sZ rfl rfl rfl) ?_
      simp only [tZ,↓un_u,simprocAttr,hw2]
      refine XE.fin (.mk 3 v 0 (s.cols[v].low + w) (s.cols[v].low + w + z) [],b5) ⟨Qy _ (Yx hv (by omega) (by omega) (by omega)) rfl,hb5⟩ fun e ⟨_,hst⟩=>?_
      exact .oA [(0,some 0)] []
     ·refine XE.brN (fun h4=>?_) (fun h4=>?_)
      ·obtain ⟨v,b3,hv,hb3,sV⟩:=yQ s hd l b2 hl hb2
       obtain ⟨_,v2,v3⟩:=zQ.1 hv
       rw [Int.toNat_natCast] at v3
       have hil:v < s.cols.length:=by omega
       refine XE.mp (fun _ _=>C1.draw 0 l b2 _ sV rfl rfl rfl) ?_
       simp only [tZ,↓un_u,simprocAttr,Int.toNat_natCast,qe hil]
       refine XE.sd (by omega) ?_
       refine XE.brB (fun h5=>?_) (fun h5=>?_)
       ·refine XE.fin (.mk 4 v 0 0 0 [],b3) ⟨Qy _ (zS3 hv (by rw [hat v hil];exact h5)) rfl,hb3⟩ fun e ⟨_,hst⟩=>?_
        exact .oA [(0,some 0)] []
       ·refine XE.fin (.mk 1 0 0 0 0 [],b3) ⟨Qy _ (zw7 s) rfl,hb3⟩ fun e ⟨_,hst⟩=>?_
        exact .oA [(0,some 0)] []
      ·refine XE.fin (.mk 1 0 0 0 0 [],b2) ⟨Qy _ (zw7 s) rfl,hb2⟩ fun e ⟨_,hst⟩=>?_
       exact .oA [(0,some 0)] []
 | succ n ih=>
   intro a ha hn
   have hz:decide (((n + 1:Nat):Int) > 0) = true:=decide_eq_true (by omega)
   have hwp:IntKind.i64.wrap (((n + 1:Nat):Int) - 1) = n:=by rw [IntWalk.i64_in _ (by omega)];omega
   obtain ⟨j,b,j1,j2,hb,sN⟩:=ZD l a 5 hl ha (by omega)
   obtain ⟨⟨c1,b1⟩,⟨hc1,hb1⟩,sC1⟩:=ih b hb (by omega)
   dsimp only at hc1 hb1 sC1
   obtain ⟨⟨c2,b2⟩,⟨hc2,hb2⟩,sC2⟩:=ih b1 hb1 (by omega)
   dsimp only at hc2 hb2 sC2
   refine jY ZO mixm (fun r:Cnd×Nat=>cnT r.1) (fun r=>[(0,oC l r.2)]) (by simp) ?_
   unfold jU
   simp only [tZ,↓un_u,simprocAttr,hz]
   refine XE.mp (fun _ _=>C1.draw 0 l a _ sN rfl rfl rfl) ?_
   simp only [tZ,↓un_u,simprocAttr,hwp,beq_iff_eq,beq_eq_false_iff_ne]
   refine XE.brN (fun h2=>?_) (fun h2=>XE.brN (fun h3=>?_) (fun h3=>XE.brN (fun h4=>?_) (fun h4=>?_)))
   ·refine XE.mp (fun _ _=>C1.draw 0 l b _ sC1 rfl rfl rfl) ?_
    refine sW ?_
    refine XE.fin (.mk 7 0 0 0 0 [c1],b1) ⟨jr1 hc1,hb1⟩ fun e ⟨_,hst⟩=>?_
    show Qd _ _ _ (.agg [vI 7,vI 0,vI 0,vI 0,vI 0,.sl 6 [cndT c1]]) _
    rw [zg]
    exact .oA [(0,some 0)] [20500]
   ·refine XE.mp (fun _ _=>C1.draw 0 l b _ sC1 rfl rfl rfl) ?_
    simp only [tZ,↓un_u,simprocAttr,hwp]
    refine XE.mp (fun _ _=>C1.draw 0 l b1 _ sC2 rfl rfl rfl) ?_
    refine sW ?_
    refine XE.sd (by kernel_rfl) ?_
    refine XE.fin (.mk 5 0 0 0 0 [c1,c2],b2) ⟨jh1 (by omega) hc1 hc2,hb2⟩ fun e ⟨_,hst⟩=>?_
    show Qd _ _ _ (.agg [vI 5,vI 0,vI 0,vI 0,vI 0,.sl 6 [cndT c1,cndT c2]]) _
    rw [zg,zg]
    exact .oA [(0,some 0)] [28712]
   ·refine XE.mp (fun _ _=>C1.draw 0 l b _ sC1 rfl rfl rfl) ?_
    simp only [tZ,↓un_u,simprocAttr,hwp]
    refine XE.mp (fun _ _=>C1.draw 0 l b1 _ sC2 rfl rfl rfl) ?_
    refine sW ?_
    refine XE.sd (by kernel_rfl) ?_
    refine XE.fin (.mk 6 0 0 0 0 [c1,c2],b2) ⟨jh1 (by omega) hc1 hc2,hb2⟩ fun e ⟨_,hst⟩=>?_
    show Qd _ _ _ (.agg [vI 6,vI 0,vI 0,vI 0,vI 0,.sl 6 [cndT c1,cndT c2]]) _
    rw [zg,zg]
    exact .oA [(0,some 0)] [36904]
   ·obtain ⟨j2,b2,u1,u2,hb2,sN2⟩:=ZD l b 5 hl hb (by omega)
    refine XE.mp (fun _ _=>C1.draw 0 l b _ sN2 rfl rfl rfl) ?_
    simp only [tZ,↓un_u,simprocAttr,beq_iff_eq,beq_eq_false_iff_ne]
    refine XE.brN (fun h1=>?_) (fun h1=>?_)
    ·obtain ⟨v,b3,hv,hb3,sV⟩:=zS1 s hd l b2 hl hb2
     obtain ⟨_,v2,v3⟩:=zQ.1 hv
     rw [Int.toNat_natCast] at v3
     have hil:v < s.cols.length:=by omega
     obtain ⟨d1,d2⟩:=hok.cdl hil v3
     obtain ⟨d3,d4⟩:=(za (hok.cs v hil)).2.2.2.1 v3
     have hcl:qH s v = s.lists.getD s.cols[v].list.toNat default:=by rw [qH,hat v hil]
     have hnd:=fun k=>zw8 (k:=k) hv
     rw [hat v hil] at d1 d3 d4
     rw [hcl,qk d1] at d2 hnd
     obtain ⟨_,d5,d6⟩:=zc d2
     obtain ⟨w,b4,w1,w2,hb4,sQ⟩:=ZD l b3 s.lists[s.cols[v].list.toNat].codes.length hl hb3 (by omega)
     refine XE.mp (fun _ _=>C1.draw 0 l b2 _ sV rfl rfl rfl) ?_
     simp only [tZ,↓un_u,simprocAttr,Int.toNat_natCast,qe hil,qe d1]
     refine XE.sd (by omega) (XE.sd (by omega) ?_)
     refine XE.mp (fun _ _=>C1.draw 0 l b3 _ sQ rfl rfl rfl) ?_
     refine sW ?_
     refine XE.sd (by kernel_rfl) ?_
     refine XE.fin (.mk 2 v w 0 0 [],b4) ⟨Qy _ (hnd w w1 w2) rfl,hb4⟩ fun e ⟨_,hst⟩=>?_
     exact .oA [(0,some 0)] []
    ·refine XE.brN (fun h2=>?_) (fun h2=>?_)
     ·refine XE.brN (fun _=>?_) (fun k=>absurd h2 k)
      obtain ⟨v,b3,hv,hb3,sV⟩:=yQ s hd l b2 hl hb2
      obtain ⟨_,v2,v3⟩:=zQ.1 hv
      rw [Int.toNat_natCast] at v3
      have hil:v < s.cols.length:=by omega
      obtain ⟨_,hM⟩:=hd.col hil v3
      have hlo:=hM.low
      rw [hat v hil] at hlo
      obtain ⟨w,b4,w1,w2,hb4,sQ⟩:=qp9 l b3 (-3) 40 hl hb3 (by omega) (by omega)
      obtain ⟨z,b5,z1,z2,hb5,sZ⟩:=ZD l b4 30 hl hb4 (by omega)
      have hw1:IntKind.i64.wrap (s.cols[v].low + w) = s.cols[v].low + w:=IntWalk.i64_in _ (by omega)
      have hw2:IntKind.i64.wrap (s.cols[v].low + w + z) = s.cols[v].low + w + z:=IntWalk.i64_in _ (by omega)
      refine XE.mp (fun _ _=>C1.draw 0 l b2 _ sV rfl rfl rfl) ?_
      simp only [tZ,↓un_u,simprocAttr,Int.toNat_natCast,qe hil]
      refine XE.sd (by omega) ?_
      refine XE.mp (fun _ _=>C1.draw 0 l b3 _ sQ rfl rfl rfl) ?_
      simp only [tZ,↓un_u,simprocAttr,hw1]
      refine XE.sd (by kernel_rfl) ?_
      refine XE.mp (fun _ _=>C1.draw 0 l b4 _ sZ rfl rfl rfl) ?_
      simp only [tZ,↓un_u,simprocAttr,hw2]
      refine XE.fin (.mk 3 v 0 (s.cols[v].low + w) (s.cols[v].low + w + z) [],b5) ⟨Qy _ (Yx hv (by omega) (by omega) (by omega)) rfl,hb5⟩ fun e ⟨_,hst⟩=>?_
      exact .oA [(0,some 0)] []
     ·refine XE.brN (fun h3=>?_) (fun h3=>?_)
      ·obtain ⟨v,b3,hv,hb3,sV⟩:=yQ s hd l b2 hl hb2
       obtain ⟨_,v2,v3⟩:=zQ.1 hv
       rw [Int.toNat_natCast] at v3
       have hil:v < s.cols.length:=by omega
       obtain ⟨_,hM⟩:=hd.col hil v3
       have hlo:=hM.low
       rw [hat v hil] at hlo
       obtain ⟨w,b4,w1,w2,hb4,sQ⟩:=qp9 l b3 (-3) 40 hl hb3 (by omega) (by omega)
       obtain ⟨z,b5,z1,z2,hb5,sZ⟩:=ZD l b4 30 hl hb4 (by omega)
       have hw1:IntKind.i64.wrap (s.cols[v].low + w) = s.cols[v].low + w:=IntWalk.i64_in _ (by omega)
       have hw2:IntKind.i64.wrap (s.cols[v].low + w + z) = s.cols[v].low + w + z:=IntWalk.i64_in _ (by omega)
       refine XE.mp (fun _ _=>C1.draw 0 l b2 _ sV rfl rfl rfl) ?_
       simp only [tZ,↓un_u,simprocAttr,Int.toNat_natCast,qe hil]
       refine XE.sd (by omega) ?_
       refine XE.mp (fun _ _=>C1.draw 0 l b3 _ sQ rfl rfl rfl) ?_
       simp only [tZ,↓un_u,simprocAttr,hw1]
       refine XE.sd (by kernel_rfl) ?_
       refine XE.mp (fun _ _=>C1.draw 0 l b4 _ sZ rfl rfl rfl) ?_
       simp only [tZ,↓un_u,simprocAttr,hw2]
       refine XE.fin (.mk 3 v 0 (s.cols[v].low + w) (s.cols[v].low + w + z) [],b5) ⟨Qy _ (Yx hv (by omega) (by omega) (by omega)) rfl,hb5⟩ fun e ⟨_,hst⟩=>?_
       exact .oA [(0,some 0)] []
      ·refine XE.brN (fun h4=>?_) (fun h4=>?_)
       ·obtain ⟨v,b3,hv,hb3,sV⟩:=yQ s hd l b2 hl hb2
        obtain ⟨_,v2,v3⟩:=zQ.1 hv
        rw [Int.toNat_natCast] at v3
        have hil:v < s.cols.length:=by omega
        refine XE.mp (fun _ _=>C1.draw 0 l b2 _ sV rfl rfl rfl) ?_
        simp only [tZ,↓un_u,simprocAttr,Int.toNat_natCast,qe hil]
        refine XE.sd (by omega) ?_
        refine XE.brB (fun h5=>?_) (fun h5=>?_)
        ·refine XE.fin (.mk 4 v 0 0 0 [],b3) ⟨Qy _ (zS3 hv (by rw [hat v hil];exact h5)) rfl,hb3⟩ fun e ⟨_,hst⟩=>?_
         exact .oA [(0,some 0)] []
        ·refine XE.fin (.mk 1 0 0 0 0 [],b3) ⟨Qy _ (zw7 s) rfl,hb3⟩ fun e ⟨_,hst⟩=>?_
         exact .oA [(0,some 0)] []
       ·refine XE.fin (.mk 1 0 0 0 0 [],b2) ⟨Qy _ (zw7 s) rfl,hb2⟩ fun e ⟨_,hst⟩=>?_
        exact .oA [(0,some 0)] []
end Go.Proofs
namespace Go.Proofs
open Go Go.TL
set_option maxRecDepth 4000
set_option maxHeartbeats 8000000
theorem qD2 (s:Sch) (kind:Int):(JF s kind).Nodup:=by
 unfold JF KS
 show List.Pairwise (·≠·) _
 rw [List.pairwise_map]
 exact ((List.nodup_range).filter _).imp fun h e=>h (by omega)
theorem DrS.code2 {s:Sch} (h:DrS s):(JF s 2).length≤2:=by
 obtain ⟨ms,hc,h1,h3⟩:=h.cs
 have key:∀ (pre:List Col) (n:Nat),s.cols = pre ++ ms→(∀ j (hj:j < ms.length),DrM (n + j) ms[j])→(JF s 2).length = (KS s 2 pre.length).length:=by
  intro pre n he hm
  unfold JF
  have k2:∀ m,pre.length + m≤s.cols.length→(KS s 2 (pre.length + m)).length = (KS s 2 pre.length).length:=by
   intro m
   induction m with
   | zero=>intro _;rfl
   | succ m ih=>
     intro hle
     have hl:m < ms.length:=by rw [he,List.length_append] at hle;omega
     have hk:(qh s (pre.length + m)).kind = 3:=by
      rw [qh,he,List.getD_eq_getElem?_getD,List.getElem?_append_right (by omega),Nat.add_sub_cancel_left,List.getElem?_eq_getElem hl]
      exact (hm m hl).kind
     rw [← Nat.add_assoc,jL,if_neg (by rw [hk];decide),List.append_nil]
     exact ih (by omega)
  have:=k2 ms.length (by rw [he,List.length_append];omega)
  rw [← List.length_append,← he] at this
  exact this
 rcases hc with ⟨hc,hm⟩ | ⟨hc,hm⟩
 ·rw [key [whoC,sexC] 2 (by rw [hc];rfl) hm]
  have:=jL s 2 1
  have h0:=jL s 2 0
  have e0:(qh s 0).kind = 1:=by rw [qh,hc];rfl
  rw [e0] at h0
  show (KS s 2 (1 + 1)).length≤2
  have:=qk5 s 2 2
  omega
 ·rw [key [whoC,sexC,jobC] 3 (by rw [hc];rfl) hm]
  have h2:=jL s 2 2
  have h1:=jL s 2 1
  have h0:=jL s 2 0
  have e0:(qh s 0).kind = 1:=by rw [qh,hc];rfl
  have e1:(qh s 1).kind = 2:=by rw [qh,hc];rfl
  have e2:(qh s 2).kind = 2:=by rw [qh,hc];rfl
  rw [e0,if_neg (by decide)] at h0
  rw [e1,if_pos rfl] at h1
  rw [e2,if_pos rfl] at h2
  show (KS s 2 (2 + 1)).length≤2
  rw [h2,h1,h0]
  simp [KS]
structure DimOk (s:Sch) (L:List Int) (l:List Pk):Prop where
 cols:l.map (·.col) = L
 pick:∀ p∈l,QR s p = 0
theorem DimOk.dims {s:Sch} {L:List Int} {l:List Pk} (h:DimOk s L l) (h1:1≤L.length) (h2:L.length≤3) (hn:L.Nodup) (hc:∀ v∈L,isB s v 2 = true):QS s l = 0:=by
 have hl:l.length = L.length:=by rw [← h.cols,List.length_map]
 rw [QS,if_neg (by omega)]
 refine qC0 fun i hi=>?_
 have hpi:pkAt l i = l[i]:=by rw [pkAt,qk hi]
 have hm:l[i]∈l:=List.getElem_mem hi
 rw [dimE,hpi,if_neg (by rw [h.pick _ hm];simp),if_neg (by rw [hc _ (by rw [← h.cols];exact List.mem_map_of_mem hm)];simp),if_neg]
 intro k
 obtain ⟨x,hx,e⟩:=List.any_eq_true.1 k
 obtain ⟨j,hj,rfl⟩:=List.mem_take_iff_getElem.1 hx
 rw [← h.cols] at hn
 have:=List.pairwise_iff_getElem.1 hn j i (by simp;omega) (by simp;omega) (by omega)
 simp only [List.getElem_map] at this
 exact this (beq_iff_eq.1 e)
theorem jm0 {s:Sch} (hE:schE s = 0) {v:Nat} (h:isB s v 2 = true∨isB s v 3 = true):1≤v∧v < s.cols.length∧0≤finI s v∧finI s v≤59:=by
 have hok:=qZ hE
 have hb:∃ k,2≤k∧isB s v k = true:=by rcases h with h | h <;> exact ⟨_,by omega,h⟩
 obtain ⟨k,hk,hb⟩:=hb
 obtain ⟨_,b2,b3⟩:=zQ.1 hb
 rw [Int.toNat_natCast] at b3
 have hv:v≠0:=fun e=>by subst e;have:=hok.c0;omega
 refine ⟨by omega,by omega,?_,qT4 hE⟩
 rw [finI,if_neg (by omega),Int.toNat_natCast]
 split
 ·rename_i h2
  have:=qj1 (hok.cdl (by omega) h2).2
  omega
 ·omega
theorem kG (s:Sch) (hd:DrS s) (l:List UInt8) (a:Nat) (hl:l.length≤400) (ha:a≤l.length) :
 ∃ r:List Pk×Nat,(QS s r.1 = 0∧r.2≤l.length)∧Spc Tryz.prog yw [.ptr 0 1 0 0,schT s] [(0,oC l a)] (vPs r.1) [(0,oC l r.2)]:=by
 have hE:=hd.ok
 have hok:=qZ hE
 have hnc:=hok.nc
 have hc:=yV s 2 (by omega)
 have hm:=fun v=>(ZE (s:=s) (kind:=2) (v:=v)).1
 have hnd:=qD2 s 2
 have hc2:=hd.code2
 obtain ⟨k1,k2⟩:=hd.code
 generalize JF s 2 = L at hc hm hnd hc2 k1 k2
 obtain ⟨o,a1,ha1,sO⟩:=jl7 l a 2 hl ha (by omega)
 obtain ⟨j,a2,j1,j2,ha2,sN⟩:=ZD l a1 L.length hl ha1 (by omega)
 obtain ⟨m,rfl⟩:=Int.eq_ofNat_of_zero_le j1
 refine jY qg9 mixm (fun r:List Pk×Nat=>vPs r.1) (fun r=>[(0,oC l r.2)]) (by simp) ?_
 unfold ye
 refine sW ?_
 refine XE.mp (fun _ _=>C1.im hc (by rfl) (by rfl)) ?_
 refine sW ?_
 refine XE.mp (fun _ _=>C1.draw 0 l a _ sO rfl rfl rfl) ?_
 refine sW ?_
 refine XE.brB (fun ho=>?_) (fun ho=>?_)
 focus
  refine XE.mp (fun _ _=>C1.draw 0 l a1 _ sN rfl rfl rfl) ?_
  simp only [tZ,↓un_u,simprocAttr,qa4,zX2]
  have hmd:∀ v∈L.drop m,isB s v 2 = true:=fun v hv=>hm v (List.mem_of_mem_drop hv)
  have hnd2:(L.drop m).Nodup:=hnd.sublist (List.drop_sublist m L)
  have hl2:1≤(L.drop m).length∧(L.drop m).length≤2:=by rw [List.length_drop];omega
  generalize L.drop m = M at hmd hnd2 hl2 ⊢
  obtain ⟨b,hb⟩:∃ b,b = a2:=⟨_,rfl⟩
  rw [← hb]
  have hb:b≤l.length:=by omega
  refine XE.sd (by omega) ?_
 rotate_left
 focus
  have hmd:=hm
  have hnd2:=hnd
  have hl2:1≤L.length∧L.length≤2:=by omega
  obtain ⟨M,hM⟩:∃ M,M = L:=⟨_,rfl⟩
  rw [← hM] at hmd hnd2 hl2 ⊢
  obtain ⟨b,hb⟩:∃ b,b = a1:=⟨_,rfl⟩
  rw [← hb]
  have hb:b≤l.length:=by omega
 all_goals (
  refine XE.loopF mixm [5,20] (fun y:List Pk×Nat=>y.1.length≤M.length∧DimOk s (M.take y.1.length) y.1∧y.2≤l.length) (fun y=>[(5,.asl 1 y.1.length),(20,vI y.1.length)]) (fun y=>[(0,oC l y.2),(4096,.arr 2 [schT s] false),(1,.arr 2 (y.1.map pkT) false)]) (fun y=>M.length - y.1.length) ([],b) ⟨by simp,⟨rfl,by simp⟩,hb⟩ (fun e ⟨_,hst⟩=>?_) fun T' y hy ih=>?_
  ·exact .oA [(0,some 0),(4096,some 4096),(1,none)] []
  obtain ⟨ps,a4⟩:=y
  obtain ⟨y1,y2,y3⟩:=hy
  dsimp only at y1 y2 y3
  simp only [tZ,↓un_u,simprocAttr,decide_eq_true_eq,decide_eq_false_iff_not]
  refine XE.brN (fun h4=>?_) (fun h4=>?_)
  ·have hi2:ps.length < M.length:=by omega
   have hwi:=qj (i:=ps.length) (by omega)
   have hiB:=hmd _ (List.getElem_mem hi2)
   have htk:=qR hi2
   obtain ⟨v,hv⟩:=Int.eq_ofNat_of_zero_le (zQ.1 hiB).1
   have hgv:(M.map vI).getD ps.length .junk = vI v:=by rw [qe hi2,hv]
   rw [hv] at hiB htk
   obtain ⟨f1,f2,f3,f4⟩:=jm0 hE (.inl hiB)
   have hFin:=Jy s hok.sm v
   obtain ⟨w,a5,w1,w2,hw,sQ⟩:=ZD l a4 (finI s v + 1) hl y3 (by omega)
   have hwf:IntKind.i64.wrap (finI s v + 1) = finI s v + 1:=IntWalk.i64_in _ (by omega)
   simp only [tZ,↓un_u,simprocAttr,Int.toNat_natCast,hgv]
   refine XE.sd (by omega) (XE.sd (by omega) ?_)
   refine XE.mp (fun _ _=>C1.im hFin (by rfl) (by rfl)) ?_
   simp only [tZ,↓un_u,simprocAttr,hwf]
   refine XE.mp (fun _ _=>C1.draw 0 l a4 _ sQ rfl rfl rfl) ?_
   simp only [tZ,↓un_u,simprocAttr,hwi]
   refine XE.sd (by omega) (XE.sd (by kernel_rfl) ?_)
   refine XE.next ih (ps ++ [⟨v,w⟩],a5) ⟨by simp;omega,⟨?_,fun p hp=>?_⟩,hw⟩ (by simp;omega) fun e ⟨_,hst⟩=>?_
   ·dsimp only
    rw [List.length_append,List.map_append,y2.cols]
    exact htk.symm
   ·rcases List.mem_append.1 hp with hp | hp
    ·exact y2.pick p hp
    ·rw [List.mem_singleton.1 hp,QR,if_neg (by rw [hE];simp),if_neg (by dsimp only;omega),if_neg]
     rw [Bool.not_eq_false,QA]
     dsimp only;omega
   ·exact .oA [(0,some 0),(4096,some 4096),(1,some 1)] []
  ·have hil:ps.length = M.length:=by omega
   rw [hil,List.take_length] at y2
   refine XE.fin (ps,a4) ⟨y2.dims hl2.1 (by omega) hnd2 hmd,y3⟩ fun e ⟨_,hst⟩=>?_
   exact .oA [(0,some 0)] [1]
  )
end Go.Proofs
namespace Go.Proofs
open Go Go.TL
set_option maxRecDepth 4000
set_option maxHeartbeats 8000000
theorem DrS.meas3 {s:Sch} (h:DrS s):(JF s 3).length≤3:=by
 obtain ⟨ms,hc,h1,h3⟩:=h.cs
 have key:∀ n,(KS s 3 n).length≤n - 2:=by
  have e0:(qh s 0).kind = 1:=by rcases hc with ⟨hc,_⟩ | ⟨hc,_⟩ <;> (rw [qh,hc];rfl)
  have e1:(qh s 1).kind = 2:=by rcases hc with ⟨hc,_⟩ | ⟨hc,_⟩ <;> (rw [qh,hc];rfl)
  intro n
  induction n with
  | zero=>simp [KS]
  | succ n ih=>
    rw [jL,List.length_append]
    by_cases k0:n = 0
    ·subst k0;rw [e0,if_neg (by decide),List.length_nil];omega
    ·by_cases k1:n = 1
     ·subst k1;rw [e1,if_neg (by decide),List.length_nil];omega
     ·split <;> simp <;> omega
 rcases hc with ⟨hc,hm⟩ | ⟨hc,hm⟩
 ·have:=key s.cols.length
  have hl:s.cols.length = ms.length + 2:=by rw [hc];rfl
  unfold JF;omega
 ·have e2:(qh s 2).kind = 2:=by rw [qh,hc];rfl
  have k2:∀ n,3≤n→(KS s 3 n).length≤n - 3:=by
   intro n hn
   induction n with
   | zero=>omega
   | succ n ih=>
     by_cases k:n = 2
     ·subst k
      rw [jL,e2,if_neg (by decide),List.append_nil]
      have:=key 2;omega
     ·rw [jL,List.length_append]
      have:=ih (by omega)
      split <;> simp <;> omega
  have hl:s.cols.length = ms.length + 3:=by rw [hc];rfl
  have:=k2 s.cols.length (by omega)
  unfold JF;omega
theorem ja4 {s:Sch} {m:Int} {ts:List Int} (h1:1≤ts.length) (h2:ts.length≤3) (h3:∀ v∈ts,isB s v 3 = true∧v≠m) (h4:ts.Nodup):kI s m ts = 0:=by
 rw [kI,if_neg (by omega)]
 refine qC0 fun i hi=>?_
 have hpi:ts.getD i 0 = ts[i]:=qk hi
 obtain ⟨a,b⟩:=h3 _ (List.getElem_mem hi)
 rw [qC2,hpi,if_neg (by rw [a];simp),if_neg]
 rintro (k | k)
 ·exact b k
 ·obtain ⟨j,hj,e⟩:=List.mem_take_iff_getElem.1 (List.contains_iff_mem.1 k)
  exact List.pairwise_iff_getElem.1 h4 j i (by omega) hi (by omega) e
theorem qk7 (s:Sch) (hd:DrS s) (m:Int) (l:List UInt8) (a:Nat) (hl:l.length≤400) (ha:a≤l.length) :
 ∃ r:List Int×Nat,((r.1.length≤3∧(0 < r.1.length→kI s m r.1 = 0))∧r.2≤l.length)∧Spc Tryz.prog wN [.ptr 0 1 0 0,schT s,vI m] [(0,oC l a)] (vIs r.1) [(0,oC l r.2)]:=by
 have hE:=hd.ok
 have hnc:=(qZ hE).nc
 have hc:=yV s 3 (by omega)
 have hm:=fun v=>(ZE (s:=s) (kind:=3) (v:=v)).1
 have hnd:=qD2 s 3
 have hc3:=hd.meas3
 generalize JF s 3 = L at hc hm hnd hc3
 refine jY qb1 mixm (fun r:List Int×Nat=>vIs r.1) (fun r=>[(0,oC l r.2)]) (by simp) ?_
 unfold wx
 refine sW ?_
 refine XE.mp (fun _ _=>C1.im hc (by rfl) (by rfl)) ?_
 refine sW ?_
 refine XE.loopF mixm [7,14] (fun y:Nat×List Int×Nat=>y.1≤L.length∧y.2.1.Sublist (L.take y.1)∧(∀ v∈y.2.1,v≠m)∧y.2.2≤l.length) (fun y=>[(7,.asl 1 y.2.1.length),(14,vI y.1)]) (fun y=>[(0,oC l y.2.2),(4096,.arr 2 [schT s] false),(1,.arr 1 (y.2.1.map vI) false)]) (fun y=>L.length - y.1) (0,[],a) ⟨by simp,by simp,by simp,ha⟩ (fun e ⟨_,hst⟩=>?_) fun T' y hy ih=>?_
 ·exact .oA [(0,some 0),(4096,some 4096),(1,none)] []
 obtain ⟨i,ts,a1⟩:=y
 obtain ⟨y1,y2,y3,y4⟩:=hy
 dsimp only at y1 y2 y3 y4
 have hsl:=y2.length_le
 rw [List.length_take] at hsl
 simp only [tZ,↓un_u,simprocAttr,decide_eq_true_eq,decide_eq_false_iff_not]
 refine XE.brN (fun h4=>?_) (fun h4=>?_)
 ·have hi2:i < L.length:=by omega
  have hwi:=qj (i:=i) (by omega)
  have htk:=qR hi2
  have hsub:ts.Sublist (L.take (i + 1)):=by rw [htk];exact y2.trans (List.sublist_append_left _ _)
  have hsub2:(ts ++ [L[i]]).Sublist (L.take (i + 1)):=by rw [htk];exact y2.append (List.Sublist.refl _)
  have hgi:(L.map vI).getD i .junk = vI L[i]:=qe hi2
  obtain ⟨o,a2,ha2,sO⟩:=jl7 l a1 2 hl y4 (by omega)
  generalize L[i] = v at hgi hsub2
  simp only [tZ,↓un_u,simprocAttr,Int.toNat_natCast,hgi]
  refine XE.sd (by omega) ?_
  by_cases hv:v = m
  ·have q:(v != m) = false:=bne_eq_false_iff_eq.2 hv
   simp only [tZ,↓un_u,simprocAttr,q]
   refine XE.mp (fun _ _=>C2.no (by simp)) ?_
   simp only [tZ,↓un_u,simprocAttr,hwi]
   refine XE.next ih (i + 1,ts,a1) ⟨by dsimp only;omega,hsub,y3,y4⟩ (by dsimp only;omega) fun e ⟨_,hst⟩=>?_
   exact .oA [(0,some 0),(4096,some 4096),(1,some 1)] []
  ·have q:(v != m) = true:=bne_iff_ne.2 hv
   have hin:∀ u∈ts ++ [v],u≠m:=fun u hu=>by
    rcases List.mem_append.1 hu with h | h
    ·exact y3 u h
    ·rw [List.mem_singleton.1 h];exact hv
   by_cases hts:ts.length = 0
   ·have q2:((ts.length:Int) == 0) = true:=beq_iff_eq.2 (by omega)
    simp only [tZ,↓un_u,simprocAttr,q,q2]
    refine XE.mp (fun _ _=>C2.no (by simp)) ?_
    simp only [tZ,↓un_u,simprocAttr,Int.toNat_natCast,hgi,hwi]
    refine XE.sd (by omega) (XE.sd (by omega) ?_)
    refine XE.next ih (i + 1,ts ++ [v],a1) ⟨by dsimp only;omega,hsub2,hin,y4⟩ (by dsimp only;omega) fun e ⟨_,hst⟩=>?_
    exact .oA [(0,some 0),(4096,some 4096),(1,some 1)] []
   ·have q2:((ts.length:Int) == 0) = false:=beq_eq_false_iff_ne.2 (by omega)
    simp only [tZ,↓un_u,simprocAttr,q,q2]
    refine XE.mp (fun _ _=>C2.one (by trivial)) ?_
    refine XE.mp (fun _ _=>C1.draw 0 l a1 _ sO rfl rfl rfl) ?_
    simp only [tZ,↓un_u,simprocAttr,Int.toNat_natCast,hgi,hwi]
    refine XE.brB (fun h5=>?_) (fun h5=>?_)
    ·refine XE.sd (by omega) (XE.sd (by omega) ?_)
     refine XE.next ih (i + 1,ts ++ [v],a2) ⟨by dsimp only;omega,hsub2,hin,ha2⟩ (by dsimp only;omega) fun e ⟨_,hst⟩=>?_
     exact .oA [(0,some 0),(4096,some 4096),(1,some 1)] []
    ·refine XE.next ih (i + 1,ts,a2) ⟨by dsimp only;omega,hsub,y3,ha2⟩ (by dsimp only;omega) fun e ⟨_,hst⟩=>?_
     exact .oA [(0,some 0),(4096,some 4096),(1,some 1)] []
 ·have hil:i = L.length:=by omega
  rw [hil,List.take_length] at y2
  refine XE.fin (ts,a1) ⟨⟨by dsimp only;omega,fun h=>ja4 h (by dsimp only;omega) (fun v hv=>⟨hm v (y2.subset hv),y3 v hv⟩) (hnd.sublist y2)⟩,y4⟩ fun e ⟨_,hst⟩=>?_
  exact .oA [(0,some 0)] [1]
end Go.Proofs
namespace Go.Proofs
open Go Go.TL
set_option maxRecDepth 4000
set_option maxHeartbeats 8000000
theorem jr2:JA cnd0 cnd0 = true:=by decide +kernel
theorem qu9 {s:Sch} {nm:ByteArray} {c:Cnd} {ds:List Pk} {m:Int} (hE:schE s = 0) (h1:ko nm = true) (h2:chkC s c = 0) (h3:QS s ds = 0) (h4:m = -1∨isB s m 3 = true):qstE s ⟨nm,1,c,ds,m,[],cnd0⟩ = 0:=by
 have hp:jI s ⟨nm,1,c,ds,m,[],cnd0⟩ = 0:=by
  rw [jI,if_pos rfl,if_neg (by rw [h3];simp),if_neg]
  rintro ⟨a,b⟩
  rcases h4 with h | h
  ·exact a h
  ·rw [h] at b;cases b
 rw [qstE,if_neg (by rw [hE];simp),if_neg (by rw [h1];simp),if_neg (by simp),if_neg (by rw [h2];simp),if_neg (by rw [hp];simp),if_neg (by rw [jr2];simp)]
theorem ja5 {s:Sch} {nm:ByteArray} {c:Cnd} {ts:List Int} {m:Int} (hE:schE s = 0) (h1:ko nm = true) (h2:chkC s c = 0) (h3:kI s m ts = 0) (h4:isB s m 3 = true):qstE s ⟨nm,2,c,[],m,ts,cnd0⟩ = 0:=by
 have hp:jI s ⟨nm,2,c,[],m,ts,cnd0⟩ = 0:=by
  rw [jI,if_neg (by simp),if_pos rfl,if_neg (by rw [h4];simp)]
  exact h3
 rw [qstE,if_neg (by rw [hE];simp),if_neg (by rw [h1];simp),if_neg (by simp),if_neg (by rw [h2];simp),if_neg (by rw [hp];simp),if_neg (by rw [jr2];simp)]
theorem ja6 {s:Sch} {nm:ByteArray} {c d:Cnd} {m:Int} (hE:schE s = 0) (h1:ko nm = true) (h2:chkC s c = 0) (h3:chkC s d = 0) (h4:isB s m 3 = true) (h5:0≤(qh s m.toNat).low):qstE s ⟨nm,3,c,[],m,[],d⟩ = 0:=by
 have hp:jI s ⟨nm,3,c,[],m,[],d⟩ = 0:=by
  rw [jI,if_neg (by simp),if_neg (by simp),if_neg (by rw [h4];simp),if_neg (by dsimp only;omega)]
  exact h3
 rw [qstE,if_neg (by rw [hE];simp),if_neg (by rw [h1];simp),if_neg (by simp),if_neg (by rw [h2];simp),if_neg (by rw [hp];simp),if_neg (by simp)]
theorem CndOk.mono {s:Sch} {n m:Nat} {c:Cnd} (h:CndOk s n c) (hn:n≤m):CndOk s m c:=by
 have h1:=h.dep
 have h2:=h.siz
 have h3:2 ^ (n + 1)≤2 ^ (m + 1):=Nat.pow_le_pow_right (by omega) (by omega)
 exact ⟨h.ok,by omega,by omega⟩
theorem Wq (s:Sch) (hd:DrS s) (nm:ByteArray) (hnm:ko nm = true) (l:List UInt8) (a:Nat) (hl:l.length≤400) (ha:a≤l.length) :
 ∃ r:Qst×Nat,((qstE s r.1 = 0∧r.1.name = nm∧CndOk s 2 r.1.filt)∧r.2≤l.length)∧Spc Tryz.prog zu [.ptr 0 1 0 0,schT s,vS nm] [(0,oC l a)] (qstT r.1) [(0,oC l r.2)]:=by
 have hE:=hd.ok
 have hok:=qZ hE
 have hnc:=hok.nc
 have hat:∀ i (h:i < s.cols.length),qh s i = s.cols[i]:=fun i h=>by rw [qh,qk h]
 obtain ⟨j,a1,j1,j2,ha1,sN⟩:=ZD l a 3 hl ha (by omega)
 obtain ⟨D,rfl⟩:=Int.eq_ofNat_of_zero_le j1
 obtain ⟨⟨c,a2⟩,⟨hc,ha2⟩,sC⟩:=Kc s hd l hl D a1 ha1 (by omega)
 dsimp only at hc ha2 sC
 have hcf:=hc.chk hE (by omega)
 have hcm:=hc.mono (m:=2) (by omega)
 obtain ⟨v,a3,hv,ha3,sV⟩:=yQ s hd l a2 hl ha2
 obtain ⟨_,v2,v3⟩:=zQ.1 hv
 rw [Int.toNat_natCast] at v3
 have hil:v < s.cols.length:=by omega
 obtain ⟨w,a4,w1,w2,ha4,sK⟩:=ZD l a3 4 hl ha3 (by omega)
 refine jY We mixm (fun r:Qst×Nat=>qstT r.1) (fun r=>[(0,oC l r.2)]) (by simp) ?_
 unfold jO
 refine sW ?_
 refine XE.mp (fun _ _=>C1.draw 0 l a _ sN rfl rfl rfl) ?_
 refine sW ?_
 refine XE.mp (fun _ _=>C1.draw 0 l a1 _ sC rfl rfl rfl) ?_
 refine sW ?_
 refine XE.sd (by kernel_rfl) ?_
 refine XE.mp (fun _ _=>C1.draw 0 l a2 _ sV rfl rfl rfl) ?_
 refine sW ?_
 refine XE.mp (fun _ _=>C1.draw 0 l a3 _ sK rfl rfl rfl) ?_
 simp only [tZ,↓un_u,simprocAttr,beq_iff_eq,beq_eq_false_iff_ne]
 refine XE.brN (fun h1=>?_) (fun h1=>XE.brN (fun h2=>?_) (fun h2=>XE.brN (fun h3=>?_) (fun h3=>?_)))
 ·obtain ⟨⟨ds,b2⟩,⟨hds,hb2⟩,sQ⟩:=kG s hd l a4 hl ha4
  dsimp only at hds hb2 sQ
  refine XE.mp (fun _ _=>C1.draw 0 l a4 _ sQ rfl rfl rfl) ?_
  refine sW ?_
  refine XE.fin (⟨nm,1,c,ds,v,[],cnd0⟩,b2) ⟨⟨qu9 hE hnm hcf hds (.inr hv),rfl,hcm⟩,hb2⟩ fun e ⟨_,hst⟩=>?_
  exact .oA [(0,some 0)] []
 ·obtain ⟨⟨ts,a5⟩,⟨⟨ht1,ht2⟩,ha5⟩,sT⟩:=qk7 s hd v l a4 hl ha4
  dsimp only at ht1 ht2 ha5 sT
  refine XE.mp (fun _ _=>C1.draw 0 l a4 _ sT rfl rfl rfl) ?_
  simp only [tZ,↓un_u,simprocAttr,decide_eq_true_eq,decide_eq_false_iff_not]
  refine XE.brN (fun h3=>?_) (fun h3=>?_)
  ·refine XE.fin (⟨nm,2,c,[],v,ts,cnd0⟩,a5) ⟨⟨ja5 hE hnm hcf (ht2 (by omega)) hv,rfl,hcm⟩,ha5⟩ fun e ⟨_,hst⟩=>?_
   exact .oA [(0,some 0)] []
  ·obtain ⟨⟨ds,b2⟩,⟨hds,hb2⟩,sQ⟩:=kG s hd l a5 hl ha5
   dsimp only at hds hb2 sQ
   refine XE.mp (fun _ _=>C1.draw 0 l a5 _ sQ rfl rfl rfl) ?_
   refine sW ?_
   refine XE.fin (⟨nm,1,c,ds,-1,[],cnd0⟩,b2) ⟨⟨qu9 hE hnm hcf hds (.inl rfl),rfl,hcm⟩,hb2⟩ fun e ⟨_,hst⟩=>?_
   exact .oA [(0,some 0)] []
 ·simp only [tZ,↓un_u,simprocAttr,Int.toNat_natCast,qe hil,decide_eq_true_eq,decide_eq_false_iff_not]
  refine XE.sd (by omega) ?_
  refine XE.brN (fun h4=>?_) (fun h4=>?_)
  ·obtain ⟨⟨d,a5⟩,⟨hdc,ha5⟩,sE⟩:=Kc s hd l hl 1 a4 ha4 (by omega)
   dsimp only at hdc ha5 sE
   refine XE.mp (fun _ _=>C1.draw 0 l a4 _ sE rfl rfl rfl) ?_
   refine sW ?_
   refine XE.fin (⟨nm,3,c,[],v,[],d⟩,a5) ⟨⟨ja6 hE hnm hcf (hdc.chk hE (by omega)) hv (by rw [Int.toNat_natCast,hat v hil];omega),rfl,hcm⟩,ha5⟩ fun e ⟨_,hst⟩=>?_
   exact .oA [(0,some 0)] []
  ·obtain ⟨⟨ds,b2⟩,⟨hds,hb2⟩,sQ⟩:=kG s hd l a4 hl ha4
   dsimp only at hds hb2 sQ
   refine XE.mp (fun _ _=>C1.draw 0 l a4 _ sQ rfl rfl rfl) ?_
   refine sW ?_
   refine XE.fin (⟨nm,1,c,ds,-1,[],cnd0⟩,b2) ⟨⟨qu9 hE hnm hcf hds (.inl rfl),rfl,hcm⟩,hb2⟩ fun e ⟨_,hst⟩=>?_
   exact .oA [(0,some 0)] []
 ·obtain ⟨⟨ds,b2⟩,⟨hds,hb2⟩,sQ⟩:=kG s hd l a4 hl ha4
  dsimp only at hds hb2 sQ
  refine XE.mp (fun _ _=>C1.draw 0 l a4 _ sQ rfl rfl rfl) ?_
  refine sW ?_
  refine XE.fin (⟨nm,1,c,ds,-1,[],cnd0⟩,b2) ⟨⟨qu9 hE hnm hcf hds (.inl rfl),rfl,hcm⟩,hb2⟩ fun e ⟨_,hst⟩=>?_
  exact .oA [(0,some 0)] []
theorem Yj (s:Sch) (hd:DrS s) (nm:ByteArray) (hnm:ko nm = true) (l:List UInt8) (a:Nat) (hl:l.length≤400) (ha:a≤l.length) :
 ∃ r:Qst×Nat,((qstE s r.1 = 0∧r.1.name = nm)∧r.2≤l.length)∧Spc Tryz.prog zu [.ptr 0 1 0 0,schT s,vS nm] [(0,oC l a)] (qstT r.1) [(0,oC l r.2)]:=by
 obtain ⟨r,⟨⟨h1,h2,_⟩,h3⟩,h⟩:=Wq s hd nm hnm l a hl ha
 exact ⟨r,⟨⟨h1,h2⟩,h3⟩,h⟩
end Go.Proofs
namespace Go.Proofs
open Go Go.TL
set_option maxRecDepth 4000
set_option maxHeartbeats 8000000
def awL:CodL:=⟨⟨#[108]⟩,[⟨⟨#[97]⟩,-1⟩,⟨⟨#[98]⟩,0⟩,⟨⟨#[99]⟩,0⟩,⟨⟨#[100]⟩,1⟩,⟨⟨#[101]⟩,2⟩]⟩
def awS9:Sch:=⟨[awL],[⟨⟨#[119,104,111]⟩,1,0,0,0,[],false⟩,⟨⟨#[115,101,120]⟩,2,0,0,0,[],false⟩]⟩
def awQ9:Qst:=⟨⟨#[113]⟩,1,.mk 1 0 0 0 0 [],[⟨1,2⟩],-1,[],cnd0⟩
theorem qV1:QO awS9:=⟨by decide,by decide,by decide⟩
theorem qk8:Spc Tryz.prog QE [] [] (vB true) []:=by
 have hN:=Ka awS9 qV1 awQ9
 rw [show qC3 awS9 awQ9 = [⟨1,1⟩] by kernel_rfl] at hN
 have hP:=qo5 [⟨1,1⟩] [⟨1,1⟩] (by decide)
 rw [show qB2 [⟨1,1⟩] [⟨1,1⟩] = true by kernel_rfl] at hP
 have hS1:=ZC awS9 qV1 awQ9 [⟨1,1⟩] (by decide)
 rw [show sufB awS9 awQ9 [⟨1,1⟩] = true by kernel_rfl] at hS1
 have hS2:=ZC awS9 qV1 awQ9 [] (by decide)
 rw [show sufB awS9 awQ9 [] = false by kernel_rfl] at hS2
 have hT:=JZ awS9 qV1 awQ9 1 3 4
 rw [show Yi awS9 awQ9 1 3 4 = true by kernel_rfl] at hT
 refine qd qE0 mixm (by simp) fun e _ hst=>qg ?_
 unfold ZW
 refine sW ?_
 refine C1.shutD [8212,8220,8232,12296] hN ?_ (by rfl) rfl ?_
 ·simp [ptw,ltAD,ltD,TL.get,T.cells,imT,imL,awS9,awQ9,awL]
  all_goals (try (repeat' apply And.intro))
  all_goals (try rfl)
 refine sW ?_
 refine C1.lendD [20488] hP ?_ (by rfl) (by rfl) ?_
 ·simp [ptw,ltAD,ltD,TL.get,T.cells,imT,imL]
  all_goals (try (repeat' apply And.intro))
  all_goals (try rfl)
 refine sW ?_
 refine C2.lendD [8212,8220,8232,12296] (fun _=>hS1) (fun _=>?_) (by rfl) (by rfl) ?_
 ·simp [ptw,ltAD,ltD,TL.get,T.cells,imT,imL,awS9,awQ9,awL]
  all_goals (try (repeat' apply And.intro))
  all_goals (try rfl)
 refine sW ?_
 refine C2.lendD [8212,8220,8232,12296] (fun _=>hS2) (fun _=>?_) (by rfl) (by rfl) ?_
 ·simp [ptw,ltAD,ltD,TL.get,T.cells,imT,imL,awS9,awQ9,awL]
  all_goals (try (repeat' apply And.intro))
  all_goals (try rfl)
 refine sW ?_
 refine C2.lendD [8212,8220,8232,12296] (fun _=>hT) (fun _=>?_) (by rfl) (by rfl) ?_
 ·simp [ptw,ltAD,ltD,TL.get,T.cells,imT,imL,awS9,awQ9,awL]
  all_goals (try (repeat' apply And.intro))
  all_goals (try rfl)
 refine sW ?_
 exact .oA [] []
end Go.Proofs
namespace Go.Proofs
open Go Go.TL
set_option maxRecDepth 4000
set_option maxHeartbeats 8000000
end Go.Proofs
namespace Go.Proofs
open Go Go.TL
set_option maxRecDepth 4000
set_option maxHeartbeats 8000000
theorem DrS.nl0 {s:Sch} (h:DrS s):0 < s.lists.length:=by
 obtain ⟨a,b,e,_⟩:=h.ls
 rw [e];simp
theorem x_SQ (l:List UInt8) (hl:l.length≤400):∃ (s:Sch) (q:Qst) (a1 a2:Nat),DrS s∧qstE s q = 0∧a1≤l.length∧a2≤l.length∧schE s = 0∧QO s∧0 < s.lists.length∧1≤s.cols.length∧s.cols.length≤8∧
 Spc Tryz.prog ju [.ptr 0 1 0 0] [(0,oC l 0)] (schT s) [(0,oC l a1)]∧Spc Tryz.prog zu [.ptr 0 1 0 0,schT s,vS ⟨#[113]⟩] [(0,oC l a1)] (qstT q) [(0,oC l a2)]:=by
 obtain ⟨⟨s,a1⟩,⟨hD,ha1⟩,sS⟩:=qd6 l 0 hl (by omega)
 dsimp only at hD ha1 sS
 obtain ⟨⟨q,a2⟩,⟨⟨hq,_⟩,ha2⟩,sQ⟩:=Yj s hD ⟨#[113]⟩ (by kernel_rfl) l a1 hl ha1
 have hE:=hD.ok
 have hn:=(qZ hE).nc
 exact ⟨s,q,a1,a2,hD,hq,ha1,ha2,hE,(qZ hE).sm,hD.nl0,by omega,by omega,sS,sQ⟩
theorem Yk (bs:List UInt8) (q0:Qst) (col a b:Int):Spc Tryz.prog yZ [vL bs,qstT q0,vI col,vI a,vI b] [] (vB true) []:=by
 have hl4:(bs.take 400).length≤400:=by rw [List.length_take];omega
 obtain ⟨s,q,a1,a2,hD,hq,ha1,ha2,hE,hs,hL,hc1,hc8,sS,sQ⟩:=x_SQ (bs.take 400) hl4
 have w1:IntKind.i64.wrap (a.tmod 60) = a.tmod 60:=IntWalk.i64_in _ (by have:=Int.tmod_lt_of_pos a (b:=60) (by decide);have:=Int.lt_tmod_of_pos a (b:=60) (by decide);omega)
 have w2:IntKind.i64.wrap (b.tmod 60) = b.tmod 60:=IntWalk.i64_in _ (by have:=Int.tmod_lt_of_pos b (b:=60) (by decide);have:=Int.lt_tmod_of_pos b (b:=60) (by decide);omega)
 have hT:=fun q k a b=>JZ s hs q k a b
 have hR:=fun q k a b=>qU9 s hs hL q k a b
 refine qd Wc mixm (by simp) fun e _ hst=>qg ?_
 unfold jN
 refine sW ?_
 refine sD ?_
 refine ⟨fun h2=>?_,fun h2=>?_⟩
 ·refine C1.im qk8 (by rfl) (by rfl) ?_
  refine sW ?_
  exact .oA [] []
 refine C1.newdraw 16388 (zA1 bs) rfl rfl ?_
 generalize bs.take 400 = m at hl4 sS sQ ha1 ha2 ⊢
 refine sW ?_
 refine C1.draw 16388 m 0 _ sS rfl rfl rfl ?_
 refine sW ?_
 refine C1.draw 16388 m a1 _ sQ rfl rfl rfl ?_
 refine sW ?_
 refine qw mixm (α:=Nat×Nat) [14] (fun y=>y.1≤s.cols.length + 2∧y.2≤m.length) (fun y=>[(14,vI ((y.1:Int) - 1))]) (fun y=>[(4096,.arr 17 [qstT q0] false),(16388,oC m y.2),(20488,.arr 2 [schT s] false),(24588,.arr 17 [qstT q] false)]) (fun y=>s.cols.length + 2 - y.1) (0,a2) ⟨by dsimp only;omega,ha2⟩ ?_ fun y hy=>?_
 ·exact .oA [(4096,some 4096),(16388,some 16388),(20488,some 20488),(24588,some 24588)] []
 obtain ⟨i,a3⟩:=y
 obtain ⟨y1,y2⟩:=hy
 dsimp only at y1 y2
 refine sD ?_
 refine ⟨fun h3=>?_,fun h3=>?_⟩
 ·have hwi:IntKind.i64.wrap ((i:Int) - 1 + 1) = ((i + 1:Nat):Int) - 1:=by rw [IntWalk.i64_in _ (by omega)];omega
  refine ⟨fun h4=>?_,fun h4=>?_⟩
  ·obtain ⟨k,hk⟩:∃ k:Nat,(i:Int) - 1 = k:=⟨i - 1,by omega⟩
   rw [hk] at h4 hwi ⊢
   obtain ⟨⟨x,a4⟩,⟨_,ha4⟩,sX⟩:=ZS s hD k (by omega) m a3 hl4 y2
   dsimp only at ha4 sX
   obtain ⟨⟨y,a5⟩,⟨_,ha5⟩,sY⟩:=ZS s hD k (by omega) m a4 hl4 ha4
   dsimp only at ha5 sY
   refine C1.draw 16388 m a3 _ sX rfl rfl rfl ?_
   refine sW ?_
   refine C1.draw 16388 m a4 _ sY rfl rfl rfl ?_
   refine sW ?_
   refine ⟨by kernel_rfl,?_⟩
   refine C1.im (hT q (k) (x) (y)) (by rfl) (by rfl) ?_
   refine sW ?_
   refine C1.im (hR q (k) (x) (y)) (by rfl) (by rfl) ?_
   simp only [tZ,↓un_u,simprocAttr,bne_self_eq_false]
   refine C2.im (fun _=>hT q (k) a b) (fun _=>rfl) (by rfl) ?_
   refine sW ?_
   refine C2.im (fun _=>hR q (k) a b) (fun _=>rfl) (by rfl) ?_
   simp only [tZ,↓un_u,simprocAttr,bne_self_eq_false,hwi]
   refine ⟨by kernel_rfl,(i + 1,a5),⟨by dsimp only;omega,by dsimp only;omega⟩,by dsimp only;omega,?_⟩
   exact .oA [(4096,some 4096),(16388,some 16388),(20488,some 20488),(24588,some 24588)] []
  ·refine C1.im (hT q ((i:Int) - 1) (a.tmod 60) (b.tmod 60)) (by rfl) (by rfl) ?_
   refine sW ?_
   refine C1.im (hR q ((i:Int) - 1) (a.tmod 60) (b.tmod 60)) (by rfl) (by rfl) ?_
   simp only [tZ,↓un_u,simprocAttr,bne_self_eq_false]
   refine C2.im (fun _=>hT q ((i:Int) - 1) a b) (fun _=>rfl) (by rfl) ?_
   refine sW ?_
   refine C2.im (fun _=>hR q ((i:Int) - 1) a b) (fun _=>rfl) (by rfl) ?_
   simp only [tZ,↓un_u,simprocAttr,bne_self_eq_false,hwi]
   refine ⟨by kernel_rfl,(i + 1,a3),⟨by dsimp only;omega,by dsimp only;omega⟩,by dsimp only;omega,?_⟩
   exact .oA [(4096,some 4096),(16388,some 16388),(20488,some 20488),(24588,some 24588)] []
 ·refine C1.im (hT q0 col a b) (by rfl) (by rfl) ?_
  refine sW ?_
  refine C1.im (hR q0 col a b) (by rfl) (by rfl) ?_
  simp only [tZ,↓un_u,simprocAttr,beq_self_eq_true]
  refine C2.im (fun _=>hT q col a b) (fun _=>rfl) (by rfl) ?_
  refine sW ?_
  refine C2.im (fun _=>hR q col a b) (fun _=>rfl) (by rfl) ?_
  simp only [tZ,↓un_u,simprocAttr,beq_self_eq_true]
  refine C2.im (fun _=>qk8) (fun _=>rfl) (by rfl) ?_
  refine sW ?_
  repeat (first | refine ⟨by omega,?_⟩ | refine ⟨by kernel_rfl,?_⟩)
  exact .oA [] []
end Go.Proofs
namespace Go.Proofs
open Go Go.TL
def cndE:List T→Prop:=fun ts=>∃ c:Cnd,ts = (cndT c).cells
abbrev shPk:Sr:=.st (.fcons 1 (.int .i64) (.fcons 1 (.int .i64) .fnil))
abbrev shCn:Sr:=.fcons 1 (.int .i64) (.fcons 1 (.int .i64) (.fcons 1 (.int .i64) (.fcons 1 (.int .i64) (.fcons 1 (.int .i64) (.fcons 1 (.sl 6 64 .tie) .fnil)))))
abbrev shQ:Sr:=.st (.fcons 1 .str (.fcons 1 (.int .i64) (.fcons 6 .tie (.fcons 1 (.sl 2 16 shPk) (.fcons 1 (.int .i64) (.fcons 1 (.sl 1 8 (.int .i64)) (.fcons 6 .tie .fnil)))))))
theorem qk9 (c:Cnd):(cndT c).cells = [vI c.op,vI c.col,vI c.code,vI c.lo,vI c.hi,vCs c.kids]:=by rw [zg];rfl
theorem jm1 (c:Cnd):T.agg (cndT c).cells = cndT c:=by rw [zg];rfl
theorem jm2 {P:Program} {tR:TypeId} {fs:Array Field} (hu:P.underlying tR = some (.struct fs)) (hs:zc9 P (shR P tR 30) 0 fs.toList = some shCn) (hc:P.cellsOf tR = 6):RecOk P tR cndE:=by
 refine ⟨?_,fs,30,shCn,hu,hs,hc,?_⟩
 ·rintro ts ⟨c,rfl⟩ x hx
  rw [qk9] at hx
  simp only [List.mem_cons,List.not_mem_nil,or_false] at hx
  rcases hx with e | e | e | e | e | e <;> (rw [e];rfl)
 ·rintro ts ⟨_,_,rfl,_,⟨a,rfl,_⟩,_,_,rfl,_,⟨b,rfl,_⟩,_,_,rfl,_,⟨c,rfl,_⟩,_,_,rfl,_,⟨d,rfl,_⟩,_,_,rfl,_,⟨e,rfl,_⟩,_,_,rfl,_,hk,rfl⟩
  obtain ⟨ks,rfl,_⟩:=Ys cndT (fun _=>True) (fun x hx=>by
   obtain ⟨c,rfl⟩:=hx
   exact ⟨c,jm1 c,trivial⟩) hk
  exact ⟨.mk a b c d e ks,by rw [qk9];rfl⟩
theorem ja7 {t:List T} (h:ZF cndE (.sl 2 16 shPk) t):∃ l:List Pk,t = [vPs l]∧l.length * 16≤140737488351232:=by
 obtain ⟨l,h1,h2,_⟩:=Ys pkT (fun _=>True) (fun x hx=>by
  obtain ⟨_,_,rfl,_,⟨a,rfl,_⟩,_,_,rfl,_,⟨b,rfl,_⟩,rfl⟩:=hx
  exact ⟨⟨a,b⟩,rfl,trivial⟩) h
 exact ⟨l,h1,h2⟩
theorem ja8 {t:List T} (h:ZF cndE shQ t):∃ q:Qst,kp shQ t = qstT q:=by
 obtain ⟨_,_,rfl,_,⟨nm,rfl,_⟩,_,_,rfl,_,⟨k,rfl,_⟩,_,_,rfl,_,⟨f,rfl⟩,_,_,rfl,_,hd,_,_,rfl,_,⟨m,rfl,_⟩,_,_,rfl,_,ht,_,_,rfl,_,⟨e,rfl⟩,rfl⟩:=h
 obtain ⟨ds,rfl,_⟩:=ja7 hd
 obtain ⟨ts,rfl,_⟩:=zA0 ht
 refine ⟨⟨nm,k,f,ds,m,ts,e⟩,?_⟩
 rw [qk9,qk9]
 rfl
end Go.Proofs
