/- A part of the proof: trees of Go values, short forms, contracts. -/
import Derived.WalkKit
import Derived.Still
import Derived.MapKept
import GoSem.Builtin.Cap
import Derived.Laws.Externs
import GoSem.Extern.SlicesOverlaps
import Derived.Carry
import Derived.ProofKit
import Derived.OpenShut
import Derived.HandedShaped
import Derived.Lay
import Derived.LaidLaws
import Derived.MakeChecks
import Derived.SevenTiedAt
import Derived.Test.YtpmgddadeedmbaaGreatDoorChecked
import Derived.Test.YtpmgddadeedmbaaGreatDoorK17
set_option linter.unusedSimpArgs false
set_option linter.unusedVariables false
namespace Go.Proofs
open Go Go.TL
set_option maxRecDepth 4000
set_option maxHeartbeats 8000000
mutual
def sizC:Cnd→Nat
 | .mk _ _ _ _ _ ks=>qm9 ks + 1
def qm9:List Cnd→Nat
 | []=>0
 | k :: r=>sizC k + qm9 r
end
theorem qU6 (c:Cnd):sizC c = qm9 c.kids + 1:=by cases c;rw [sizC];rfl
theorem jo0:∀ c,∀ m,1≤m→cntC c m≤sizC c:=by
 refine Cnd.ind' fun c ih m hm=>?_
 rw [Wa,qU6]
 have key:∀ l:List Cnd,(∀ k∈l,k∈c.kids)→∀ n,n≤m→kJ l m n≤n + qm9 l:=by
  intro l
  induction l with
  | nil=>intro _ n h;rw [kJ,qm9];omega
  | cons k r ihl=>
    intro hk n h
    rw [kJ,qm9]
    split
    ·have c1:=qu2 k (m - n) (by omega)
     have c2:=ih k (hk k (by simp)) (m - n) (by omega)
     have c3:=ihl (fun x hx=>hk x (List.mem_cons_of_mem _ hx)) (n + cntC k (m - n)) (by omega)
     omega
    ·omega
 have:=key c.kids (fun k hk=>hk) 1 (by omega)
 omega
structure CndOk (s:Sch) (n:Nat) (c:Cnd):Prop where
 ok:nodE s c = 0
 dep:depC c≤n + 1
 siz:sizC c + 1≤2 ^ (n + 1)
theorem CndOk.chk {s:Sch} {n:Nat} {c:Cnd} (h:CndOk s n c) (hE:schE s = 0) (hn:n≤3):chkC s c = 0:=by
 have h1:=jo0 c 41 (by omega)
 have h2:=h.siz
 have h3:=h.dep
 have h4:2 ^ (n + 1)≤2 ^ 4:=Nat.pow_le_pow_right (by omega) (by omega)
 rw [chkC,if_neg (by rw [hE];simp),if_neg (by omega),if_neg (by omega)]
 exact h.ok
theorem zm5 {s:Sch} {c:Cnd} (h1:ndE s c = 0) (h2:yM s c.kids = 0):nodE s c = 0:=by rw [qT6,if_neg (by rw [h1];simp)];exact h2
theorem wP {s:Sch} {c:Cnd} (n:Nat) (h1:ndE s c = 0) (h2:c.kids = []):CndOk s n c:=by
 have h3:2 ^ 1≤2 ^ (n + 1):=Nat.pow_le_pow_right (by omega) (by omega)
 refine ⟨zm5 h1 (by rw [h2,yM]),by rw [qr4,h2,jV];omega,by rw [qU6,h2,qm9];omega⟩
theorem zS0 {s:Sch} {c:Cnd} (h1:¬ (c.op < 1∨7 < c.op)) (h2:¬ (c.kids.length≠arC c.op∨(c.op≠2∧c.op≠3∧c.op≠4∧c.col≠0)∨(c.op≠2∧c.code≠0)∨(c.op≠3∧(c.lo≠0∨c.hi≠0))))
 (h3:¬ ((c.op = 2∧isB s c.col 2 = false)∨(c.op = 3∧isB s c.col 3 = false)∨(c.op = 4∧(isB s c.col 3 = false∨(qj s c.col.toNat).opt = false))))
 (h4:¬ (c.op = 2∧(c.code < 0∨c.code≥(qM s c.col.toNat).codes.length))) (h5:¬ (c.op = 3∧(c.lo < -1000000∨c.hi > 1000000∨c.lo > c.hi))):ndE s c = 0:=by
 rw [ndE,if_neg h1,if_neg h2,if_neg h3,if_neg h4,if_neg h5]
theorem qG3 (s:Sch):ndE s (.mk 1 0 0 0 0 []) = 0:=zS0 (by simp [Cnd.op,Cnd.col,Cnd.code,Cnd.lo,Cnd.hi,Cnd.kids]) (by simp [arC,Cnd.op,Cnd.col,Cnd.code,Cnd.lo,Cnd.hi,Cnd.kids]) (by simp [Cnd.op,Cnd.col,Cnd.code,Cnd.lo,Cnd.hi,Cnd.kids]) (by simp [Cnd.op,Cnd.col,Cnd.code,Cnd.lo,Cnd.hi,Cnd.kids]) (by simp [Cnd.op,Cnd.col,Cnd.code,Cnd.lo,Cnd.hi,Cnd.kids])
theorem zw9 {s:Sch} {v:Nat} {k:Int} (h:isB s v 2 = true) (h1:0≤k) (h2:k < (qM s v).codes.length):ndE s (.mk 2 v k 0 0 []) = 0:=
 zS0 (by simp [Cnd.op,Cnd.col,Cnd.code,Cnd.lo,Cnd.hi,Cnd.kids]) (by simp [arC,Cnd.op,Cnd.col,Cnd.code,Cnd.lo,Cnd.hi,Cnd.kids]) (by simp [Cnd.op,Cnd.col,Cnd.code,Cnd.lo,Cnd.hi,Cnd.kids,h]) (by simp only [Cnd.op,Cnd.col,Cnd.code,Cnd.lo,Cnd.hi,Cnd.kids,Int.toNat_natCast];omega) (by simp [Cnd.op,Cnd.col,Cnd.code,Cnd.lo,Cnd.hi,Cnd.kids])
theorem YP {s:Sch} {v:Nat} {a b:Int} (h:isB s v 3 = true) (h1 : -1000000≤a) (h2:b≤1000000) (h3:a≤b):ndE s (.mk 3 v 0 a b []) = 0:=
 zS0 (by simp [Cnd.op,Cnd.col,Cnd.code,Cnd.lo,Cnd.hi,Cnd.kids]) (by simp [arC,Cnd.op,Cnd.col,Cnd.code,Cnd.lo,Cnd.hi,Cnd.kids]) (by simp [Cnd.op,Cnd.col,Cnd.code,Cnd.lo,Cnd.hi,Cnd.kids,h]) (by simp [Cnd.op,Cnd.col,Cnd.code,Cnd.lo,Cnd.hi,Cnd.kids]) (by simp only [Cnd.op,Cnd.col,Cnd.code,Cnd.lo,Cnd.hi,Cnd.kids];omega)
theorem zS1 {s:Sch} {v:Nat} (h:isB s v 3 = true) (h1:(qj s v).opt = true):ndE s (.mk 4 v 0 0 0 []) = 0:=
 zS0 (by simp [Cnd.op,Cnd.col,Cnd.code,Cnd.lo,Cnd.hi,Cnd.kids]) (by simp [arC,Cnd.op,Cnd.col,Cnd.code,Cnd.lo,Cnd.hi,Cnd.kids]) (by simp only [Cnd.op,Cnd.col,Cnd.code,Cnd.lo,Cnd.hi,Cnd.kids,Int.toNat_natCast,h,h1];simp) (by simp [Cnd.op,Cnd.col,Cnd.code,Cnd.lo,Cnd.hi,Cnd.kids]) (by simp [Cnd.op,Cnd.col,Cnd.code,Cnd.lo,Cnd.hi,Cnd.kids])
theorem zS2 {s:Sch} {op:Int} {ks:List Cnd} (h:op = 5∨op = 6∨op = 7) (hk:ks.length = arC op):ndE s (.mk op 0 0 0 0 ks) = 0:=
 zS0 (by simp only [Cnd.op,Cnd.col,Cnd.code,Cnd.lo,Cnd.hi,Cnd.kids];omega) (by simp [Cnd.op,Cnd.col,Cnd.code,Cnd.lo,Cnd.hi,Cnd.kids,hk]) (by simp only [Cnd.op,Cnd.col,Cnd.code,Cnd.lo,Cnd.hi,Cnd.kids];omega) (by simp only [Cnd.op,Cnd.col,Cnd.code,Cnd.lo,Cnd.hi,Cnd.kids];omega) (by simp only [Cnd.op,Cnd.col,Cnd.code,Cnd.lo,Cnd.hi,Cnd.kids];omega)
theorem jt3 {s:Sch} {n:Nat} {c:Cnd} (h:CndOk s n c):CndOk s (n + 1) (.mk 7 0 0 0 0 [c]):=by
 have h1:=h.dep
 have h2:=h.siz
 have h3:2 ^ (n + 1 + 1) = 2 * 2 ^ (n + 1):=by rw [Nat.pow_succ];omega
 refine ⟨zm5 (zS2 (.inr (.inr rfl)) rfl) ?_,?_,?_⟩
 ·show yM s [c] = 0
  rw [yM,if_neg (by rw [h.ok];simp),yM]
 ·rw [qr4];show jV [c] + 1≤_
  rw [jV,jV];omega
 ·rw [qU6];show qm9 [c] + 1 + 1≤_
  rw [qm9,qm9];omega
theorem ji9 {s:Sch} {n:Nat} {c d:Cnd} {op:Int} (ho:op = 5∨op = 6) (h:CndOk s n c) (g:CndOk s n d):CndOk s (n + 1) (.mk op 0 0 0 0 [c,d]):=by
 have h1:=h.dep
 have h2:=h.siz
 have g1:=g.dep
 have g2:=g.siz
 have h3:2 ^ (n + 1 + 1) = 2 * 2 ^ (n + 1):=by rw [Nat.pow_succ];omega
 refine ⟨zm5 (zS2 (by omega) (by rcases ho with h | h <;> subst h <;> rfl)) ?_,?_,?_⟩
 ·show yM s [c,d] = 0
  rw [yM,if_neg (by rw [h.ok];simp),yM,if_neg (by rw [g.ok];simp),yM]
 ·rw [qr4];show jV [c,d] + 1≤_
  rw [jV,jV,jV];omega
 ·rw [qU6];show qm9 [c,d] + 1 + 1≤_
  rw [qm9,qm9,qm9];omega
theorem Qp (s:Sch) (hd:DrS s) (l:List UInt8) (hl:l.length≤400):∀ (n:Nat) (a:Nat),a≤l.length→n≤3→
 ∃ r:Cnd×Nat,(CndOk s n r.1∧r.2≤l.length)∧Spc Tryz.prog qV [.ptr 0 1 0 0,schT s,vI n] [(0,oC l a)] (cnT r.1) [(0,oC l r.2)]:=by
 have hE:=hd.ok
 have hok:=qZ hE
 have hnc:=hok.nc
 have hat:∀ i (h:i < s.cols.length),qj s i = s.cols[i]:=fun i h=>by rw [qj,qk h]
 have hnl:=hd.nl
 intro n
 induction n with
 | zero=>
   intro a ha _
   refine jF Jp mixm (fun r:Cnd×Nat=>cnT r.1) (fun r=>[(0,oC l r.2)]) (by simp) ?_
   unfold kr
   have hz:decide (((0:Nat):Int) > 0) = false:=rfl
   simp only [tZ,↓un_u,simprocAttr,hz]
   obtain ⟨b,hb2⟩:∃ b,b = a:=⟨_,rfl⟩
   rw [← hb2]
   have hb:b≤l.length:=by omega
   obtain ⟨j2,b2,u1,u2,hb2,sN2⟩:=QD l b 5 hl hb (by omega)
   refine XE.mp (fun _ _=>C1.draw 0 l b _ sN2 rfl rfl rfl) ?_
   simp only [tZ,↓un_u,simprocAttr,beq_iff_eq,beq_eq_false_iff_ne]
   refine XE.brN (fun h1=>?_) (fun h1=>?_)
   ·obtain ⟨v,b3,hv,hb3,sV⟩:=zR9 s hd l b2 hl hb2
    obtain ⟨_,v2,v3⟩:=zP.1 hv
    rw [Int.toNat_natCast] at v3
    have hil:v < s.cols.length:=by omega
    obtain ⟨d1,d2⟩:=hok.cdl hil v3
    obtain ⟨d3,d4⟩:=(zf (hok.cs v hil)).2.2.2.1 v3
    have hcl:qM s v = s.lists.getD s.cols[v].list.toNat default:=by rw [qM,hat v hil]
    have hnd:=fun k=>zw9 (k:=k) hv
    rw [hat v hil] at d1 d3 d4
    rw [hcl,qk d1] at d2 hnd
    obtain ⟨_,d5,d6⟩:=zw d2
    obtain ⟨w,b4,w1,w2,hb4,sQ⟩:=QD l b3 s.lists[s.cols[v].list.toNat].codes.length hl hb3 (by omega)
    refine XE.mp (fun _ _=>C1.draw 0 l b2 _ sV rfl rfl rfl) ?_
    simp only [tZ,↓un_u,simprocAttr,Int.toNat_natCast,qe hil,qe d1]
    refine XE.sd (by omega) (XE.sd (by omega) ?_)
    refine XE.mp (fun _ _=>C1.draw 0 l b3 _ sQ rfl rfl rfl) ?_
    refine sW ?_
    refine XE.sd (by kernel_rfl) ?_
    refine XE.fin (.mk 2 v w 0 0 [],b4) ⟨wP _ (hnd w w1 w2) rfl,hb4⟩ fun e ⟨_,hst⟩=>?_
    exact .oA [(0,some 0)] []
   ·refine XE.brN (fun h2=>?_) (fun h2=>?_)
    ·refine XE.brN (fun _=>?_) (fun k=>absurd h2 k)
     obtain ⟨v,b3,hv,hb3,sV⟩:=Qo s hd l b2 hl hb2
     obtain ⟨_,v2,v3⟩:=zP.1 hv
     rw [Int.toNat_natCast] at v3
     have hil:v < s.cols.length:=by omega
     obtain ⟨_,hM⟩:=hd.col hil v3
     have hlo:=hM.low
     rw [hat v hil] at hlo
     obtain ⟨w,b4,w1,w2,hb4,sQ⟩:=Yz l b3 (-3) 40 hl hb3 (by omega) (by omega)
     obtain ⟨z,b5,z1,z2,hb5,sZ⟩:=QD l b4 30 hl hb4 (by omega)
     have hw1:IntKind.i64.wrap (s.cols[v].low + w) = s.cols[v].low + w:=IntWalk.i64_in _ (by omega)
     have hw2:IntKind.i64.wrap (s.cols[v].low + w + z) = s.cols[v].low + w + z:=IntWalk.i64_in _ (by omega)
     refine XE.mp (fun _ _=>C1.draw 0 l b2 _ sV rfl rfl rfl) ?_
     simp only [tZ,↓un_u,simprocAttr,Int.toNat_natCast,qe hil]
     refine XE.sd (by omega) ?_
     refine XE.mp (fun _ _=>C1.draw 0 l b3 _ sQ rfl rfl rfl) ?_
     simp only [tZ,↓un_u,simprocAttr,hw1]
     refine XE.sd (by kernel_rfl) ?_
     refine XE.mp (fun _ _=>C1.draw 0 l b4 _ sZ rfl rfl rfl) ?_
     simp only [tZ,↓un_u,simprocAttr,hw2]
     refine XE.fin (.mk 3 v 0 (s.cols[v].low + w) (s.cols[v].low + w + z) [],b5) ⟨wP _ (YP hv (by omega) (by omega) (by omega)) rfl,hb5⟩ fun e ⟨_,hst⟩=>?_
     exact .oA [(0,some 0)] []
    ·refine XE.brN (fun h3=>?_) (fun h3=>?_)
     ·obtain ⟨v,b3,hv,hb3,sV⟩:=Qo s hd l b2 hl hb2
      obtain ⟨_,v2,v3⟩:=zP.1 hv
      rw [Int.toNat_natCast] at v3
      have hil:v < s.cols.length:=by omega
      obtain ⟨_,hM⟩:=hd.col hil v3
      have hlo:=hM.low
      rw [hat v hil] at hlo
      obtain ⟨w,b4,w1,w2,hb4,sQ⟩:=Yz l b3 (-3) 40 hl hb3 (by omega) (by omega)
      obtain ⟨z,b5,z1,z2,hb5,sZ⟩:=QD l b4 30 hl hb4 (by omega)
      have hw1:IntKind.i64.wrap (s.cols[v].low + w) = s.cols[v].low + w:=IntWalk.i64_in _ (by omega)
      have hw2:IntKind.i64.wrap (s.cols[v].low + w + z) = s.cols[v].low + w + z:=IntWalk.i64_in _ (by omega)
      refine XE.mp (fun _ _=>C1.draw 0 l b2 _ sV rfl rfl rfl) ?_
      simp only [tZ,↓un_u,simprocAttr,Int.toNat_natCast,qe hil]
      refine XE.sd (by omega) ?_
      refine XE.mp (fun _ _=>C1.draw 0 l b3 _ sQ rfl rfl rfl) ?_
      simp only [tZ,↓un_u,simprocAttr,hw1]
      refine XE.sd (by kernel_rfl) ?_
      refine XE.mp (fun _ _=>C1.draw 0 l b4 _ sZ rfl rfl rfl) ?_
      simp only [tZ,↓un_u,simprocAttr,hw2]
      refine XE.fin (.mk 3 v 0 (s.cols[v].low + w) (s.cols[v].low + w + z) [],b5) ⟨wP _ (YP hv (by omega) (by omega) (by omega)) rfl,hb5⟩ fun e ⟨_,hst⟩=>?_
      exact .oA [(0,some 0)] []
     ·refine XE.brN (fun h4=>?_) (fun h4=>?_)
      ·obtain ⟨v,b3,hv,hb3,sV⟩:=Qo s hd l b2 hl hb2
       obtain ⟨_,v2,v3⟩:=zP.1 hv
       rw [Int.toNat_natCast] at v3
       have hil:v < s.cols.length:=by omega
       refine XE.mp (fun _ _=>C1.draw 0 l b2 _ sV rfl rfl rfl) ?_
       simp only [tZ,↓un_u,simprocAttr,Int.toNat_natCast,qe hil]
       refine XE.sd (by omega) ?_
       refine XE.brB (fun h5=>?_) (fun h5=>?_)
       ·refine XE.fin (.mk 4 v 0 0 0 [],b3) ⟨wP _ (zS1 hv (by rw [hat v hil];exact h5)) rfl,hb3⟩ fun e ⟨_,hst⟩=>?_
        exact .oA [(0,some 0)] []
       ·refine XE.fin (.mk 1 0 0 0 0 [],b3) ⟨wP _ (qG3 s) rfl,hb3⟩ fun e ⟨_,hst⟩=>?_
        exact .oA [(0,some 0)] []
      ·refine XE.fin (.mk 1 0 0 0 0 [],b2) ⟨wP _ (qG3 s) rfl,hb2⟩ fun e ⟨_,hst⟩=>?_
       exact .oA [(0,some 0)] []
 | succ n ih=>
   intro a ha hn
   have hz:decide (((n + 1:Nat):Int) > 0) = true:=decide_eq_true (by omega)
   have hwp:IntKind.i64.wrap (((n + 1:Nat):Int) - 1) = n:=by rw [IntWalk.i64_in _ (by omega)];omega
   obtain ⟨j,b,j1,j2,hb,sN⟩:=QD l a 5 hl ha (by omega)
   obtain ⟨⟨c1,b1⟩,⟨hc1,hb1⟩,sC1⟩:=ih b hb (by omega)
   dsimp only at hc1 hb1 sC1
   obtain ⟨⟨c2,b2⟩,⟨hc2,hb2⟩,sC2⟩:=ih b1 hb1 (by omega)
   dsimp only at hc2 hb2 sC2
   refine jF Jp mixm (fun r:Cnd×Nat=>cnT r.1) (fun r=>[(0,oC l r.2)]) (by simp) ?_
   unfold kr
   simp only [tZ,↓un_u,simprocAttr,hz]
   refine XE.mp (fun _ _=>C1.draw 0 l a _ sN rfl rfl rfl) ?_
   simp only [tZ,↓un_u,simprocAttr,hwp,beq_iff_eq,beq_eq_false_iff_ne]
   refine XE.brN (fun h2=>?_) (fun h2=>XE.brN (fun h3=>?_) (fun h3=>XE.brN (fun h4=>?_) (fun h4=>?_)))
   ·refine XE.mp (fun _ _=>C1.draw 0 l b _ sC1 rfl rfl rfl) ?_
    refine sW ?_
    refine XE.fin (.mk 7 0 0 0 0 [c1],b1) ⟨jt3 hc1,hb1⟩ fun e ⟨_,hst⟩=>?_
    show ZD _ _ _ (.agg [vI 7,vI 0,vI 0,vI 0,vI 0,.sl 6 [cndT c1]]) _
    rw [zX]
    exact .oA [(0,some 0)] [20500]
   ·refine XE.mp (fun _ _=>C1.draw 0 l b _ sC1 rfl rfl rfl) ?_
    simp only [tZ,↓un_u,simprocAttr,hwp]
    refine XE.mp (fun _ _=>C1.draw 0 l b1 _ sC2 rfl rfl rfl) ?_
    refine sW ?_
    refine XE.sd (by kernel_rfl) ?_
    refine XE.fin (.mk 5 0 0 0 0 [c1,c2],b2) ⟨ji9 (by omega) hc1 hc2,hb2⟩ fun e ⟨_,hst⟩=>?_
    show ZD _ _ _ (.agg [vI 5,vI 0,vI 0,vI 0,vI 0,.sl 6 [cndT c1,cndT c2]]) _
    rw [zX,zX]
    exact .oA [(0,some 0)] [28712]
   ·refine XE.mp (fun _ _=>C1.draw 0 l b _ sC1 rfl rfl rfl) ?_
    simp only [tZ,↓un_u,simprocAttr,hwp]
    refine XE.mp (fun _ _=>C1.draw 0 l b1 _ sC2 rfl rfl rfl) ?_
    refine sW ?_
    refine XE.sd (by kernel_rfl) ?_
    refine XE.fin (.mk 6 0 0 0 0 [c1,c2],b2) ⟨ji9 (by omega) hc1 hc2,hb2⟩ fun e ⟨_,hst⟩=>?_
    show ZD _ _ _ (.agg [vI 6,vI 0,vI 0,vI 0,vI 0,.sl 6 [cndT c1,cndT c2]]) _
    rw [zX,zX]
    exact .oA [(0,some 0)] [36904]
   ·obtain ⟨j2,b2,u1,u2,hb2,sN2⟩:=QD l b 5 hl hb (by omega)
    refine XE.mp (fun _ _=>C1.draw 0 l b _ sN2 rfl rfl rfl) ?_
    simp only [tZ,↓un_u,simprocAttr,beq_iff_eq,beq_eq_false_iff_ne]
    refine XE.brN (fun h1=>?_) (fun h1=>?_)
    ·obtain ⟨v,b3,hv,hb3,sV⟩:=zR9 s hd l b2 hl hb2
     obtain ⟨_,v2,v3⟩:=zP.1 hv
     rw [Int.toNat_natCast] at v3
     have hil:v < s.cols.length:=by omega
     obtain ⟨d1,d2⟩:=hok.cdl hil v3
     obtain ⟨d3,d4⟩:=(zf (hok.cs v hil)).2.2.2.1 v3
     have hcl:qM s v = s.lists.getD s.cols[v].list.toNat default:=by rw [qM,hat v hil]
     have hnd:=fun k=>zw9 (k:=k) hv
     rw [hat v hil] at d1 d3 d4
     rw [hcl,qk d1] at d2 hnd
     obtain ⟨_,d5,d6⟩:=zw d2
     obtain ⟨w,b4,w1,w2,hb4,sQ⟩:=QD l b3 s.lists[s.cols[v].list.toNat].codes.length hl hb3 (by omega)
     refine XE.mp (fun _ _=>C1.draw 0 l b2 _ sV rfl rfl rfl) ?_
     simp only [tZ,↓un_u,simprocAttr,Int.toNat_natCast,qe hil,qe d1]
     refine XE.sd (by omega) (XE.sd (by omega) ?_)
     refine XE.mp (fun _ _=>C1.draw 0 l b3 _ sQ rfl rfl rfl) ?_
     refine sW ?_
     refine XE.sd (by kernel_rfl) ?_
     refine XE.fin (.mk 2 v w 0 0 [],b4) ⟨wP _ (hnd w w1 w2) rfl,hb4⟩ fun e ⟨_,hst⟩=>?_
     exact .oA [(0,some 0)] []
    ·refine XE.brN (fun h2=>?_) (fun h2=>?_)
     ·refine XE.brN (fun _=>?_) (fun k=>absurd h2 k)
      obtain ⟨v,b3,hv,hb3,sV⟩:=Qo s hd l b2 hl hb2
      obtain ⟨_,v2,v3⟩:=zP.1 hv
      rw [Int.toNat_natCast] at v3
      have hil:v < s.cols.length:=by omega
      obtain ⟨_,hM⟩:=hd.col hil v3
      have hlo:=hM.low
      rw [hat v hil] at hlo
      obtain ⟨w,b4,w1,w2,hb4,sQ⟩:=Yz l b3 (-3) 40 hl hb3 (by omega) (by omega)
      obtain ⟨z,b5,z1,z2,hb5,sZ⟩:=QD l b4 30 hl hb4 (by omega)
      have hw1:IntKind.i64.wrap (s.cols[v].low + w) = s.cols[v].low + w:=IntWalk.i64_in _ (by omega)
      have hw2:IntKind.i64.wrap (s.cols[v].low + w + z) = s.cols[v].low + w + z:=IntWalk.i64_in _ (by omega)
      refine XE.mp (fun _ _=>C1.draw 0 l b2 _ sV rfl rfl rfl) ?_
      simp only [tZ,↓un_u,simprocAttr,Int.toNat_natCast,qe hil]
      refine XE.sd (by omega) ?_
      refine XE.mp (fun _ _=>C1.draw 0 l b3 _ sQ rfl rfl rfl) ?_
      simp only [tZ,↓un_u,simprocAttr,hw1]
      refine XE.sd (by kernel_rfl) ?_
      refine XE.mp (fun _ _=>C1.draw 0 l b4 _ sZ rfl rfl rfl) ?_
      simp only [tZ,↓un_u,simprocAttr,hw2]
      refine XE.fin (.mk 3 v 0 (s.cols[v].low + w) (s.cols[v].low + w + z) [],b5) ⟨wP _ (YP hv (by omega) (by omega) (by omega)) rfl,hb5⟩ fun e ⟨_,hst⟩=>?_
      exact .oA [(0,some 0)] []
     ·refine XE.brN (fun h3=>?_) (fun h3=>?_)
      ·obtain ⟨v,b3,hv,hb3,sV⟩:=Qo s hd l b2 hl hb2
       obtain ⟨_,v2,v3⟩:=zP.1 hv
       rw [Int.toNat_natCast] at v3
       have hil:v < s.cols.length:=by omega
       obtain ⟨_,hM⟩:=hd.col hil v3
       have hlo:=hM.low
       rw [hat v hil] at hlo
       obtain ⟨w,b4,w1,w2,hb4,sQ⟩:=Yz l b3 (-3) 40 hl hb3 (by omega) (by omega)
       obtain ⟨z,b5,z1,z2,hb5,sZ⟩:=QD l b4 30 hl hb4 (by omega)
       have hw1:IntKind.i64.wrap (s.cols[v].low + w) = s.cols[v].low + w:=IntWalk.i64_in _ (by omega)
       have hw2:IntKind.i64.wrap (s.cols[v].low + w + z) = s.cols[v].low + w + z:=IntWalk.i64_in _ (by omega)
       refine XE.mp (fun _ _=>C1.draw 0 l b2 _ sV rfl rfl rfl) ?_
       simp only [tZ,↓un_u,simprocAttr,Int.toNat_natCast,qe hil]
       refine XE.sd (by omega) ?_
       refine XE.mp (fun _ _=>C1.draw 0 l b3 _ sQ rfl rfl rfl) ?_
       simp only [tZ,↓un_u,simprocAttr,hw1]
       refine XE.sd (by kernel_rfl) ?_
       refine XE.mp (fun _ _=>C1.draw 0 l b4 _ sZ rfl rfl rfl) ?_
       simp only [tZ,↓un_u,simprocAttr,hw2]
       refine XE.fin (.mk 3 v 0 (s.cols[v].low + w) (s.cols[v].low + w + z) [],b5) ⟨wP _ (YP hv (by omega) (by omega) (by omega)) rfl,hb5⟩ fun e ⟨_,hst⟩=>?_
       exact .oA [(0,some 0)] []
      ·refine XE.brN (fun h4=>?_) (fun h4=>?_)
       ·obtain ⟨v,b3,hv,hb3,sV⟩:=Qo s hd l b2 hl hb2
        obtain ⟨_,v2,v3⟩:=zP.1 hv
        rw [Int.toNat_natCast] at v3
        have hil:v < s.cols.length:=by omega
        refine XE.mp (fun _ _=>C1.draw 0 l b2 _ sV rfl rfl rfl) ?_
        simp only [tZ,↓un_u,simprocAttr,Int.toNat_natCast,qe hil]
        refine XE.sd (by omega) ?_
        refine XE.brB (fun h5=>?_) (fun h5=>?_)
        ·refine XE.fin (.mk 4 v 0 0 0 [],b3) ⟨wP _ (zS1 hv (by rw [hat v hil];exact h5)) rfl,hb3⟩ fun e ⟨_,hst⟩=>?_
         exact .oA [(0,some 0)] []
        ·refine XE.fin (.mk 1 0 0 0 0 [],b3) ⟨wP _ (qG3 s) rfl,hb3⟩ fun e ⟨_,hst⟩=>?_
         exact .oA [(0,some 0)] []
       ·refine XE.fin (.mk 1 0 0 0 0 [],b2) ⟨wP _ (qG3 s) rfl,hb2⟩ fun e ⟨_,hst⟩=>?_
        exact .oA [(0,some 0)] []
end Go.Proofs
namespace Go.Proofs
open Go Go.TL
set_option maxRecDepth 4000
set_option maxHeartbeats 8000000
theorem qG4 (s:Sch) (kind:Int):(JQ s kind).Nodup:=by
 unfold JQ We
 show List.Pairwise (·≠·) _
 rw [List.pairwise_map]
 exact ((List.nodup_range).filter _).imp fun h e=>h (by omega)
theorem DrS.code2 {s:Sch} (h:DrS s):(JQ s 2).length≤2:=by
 obtain ⟨ms,hc,h1,h3⟩:=h.cs
 have key:∀ (pre:List Col) (n:Nat),s.cols = pre ++ ms→(∀ j (hj:j < ms.length),DrM (n + j) ms[j])→(JQ s 2).length = (We s 2 pre.length).length:=by
  intro pre n he hm
  unfold JQ
  have k2:∀ m,pre.length + m≤s.cols.length→(We s 2 (pre.length + m)).length = (We s 2 pre.length).length:=by
   intro m
   induction m with
   | zero=>intro _;rfl
   | succ m ih=>
     intro hle
     have hl:m < ms.length:=by rw [he,List.length_append] at hle;omega
     have hk:(qj s (pre.length + m)).kind = 3:=by
      rw [qj,he,List.getD_eq_getElem?_getD,List.getElem?_append_right (by omega),Nat.add_sub_cancel_left,List.getElem?_eq_getElem hl]
      exact (hm m hl).kind
     rw [← Nat.add_assoc,jX,if_neg (by rw [hk];decide),List.append_nil]
     exact ih (by omega)
  have:=k2 ms.length (by rw [he,List.length_append];omega)
  rw [← List.length_append,← he] at this
  exact this
 rcases hc with ⟨hc,hm⟩ | ⟨hc,hm⟩
 ·rw [key [whoC,sexC] 2 (by rw [hc];rfl) hm]
  have:=jX s 2 1
  have h0:=jX s 2 0
  have e0:(qj s 0).kind = 1:=by rw [qj,hc];rfl
  rw [e0] at h0
  show (We s 2 (1 + 1)).length≤2
  have:=qm8 s 2 2
  omega
 ·rw [key [whoC,sexC,jobC] 3 (by rw [hc];rfl) hm]
  have h2:=jX s 2 2
  have h1:=jX s 2 1
  have h0:=jX s 2 0
  have e0:(qj s 0).kind = 1:=by rw [qj,hc];rfl
  have e1:(qj s 1).kind = 2:=by rw [qj,hc];rfl
  have e2:(qj s 2).kind = 2:=by rw [qj,hc];rfl
  rw [e0,if_neg (by decide)] at h0
  rw [e1,if_pos rfl] at h1
  rw [e2,if_pos rfl] at h2
  show (We s 2 (2 + 1)).length≤2
  rw [h2,h1,h0]
  simp [We]
structure DimOk (s:Sch) (L:List Int) (l:List Pk):Prop where
 cols:l.map (·.col) = L
 pick:∀ p∈l,QC s p = 0
theorem DimOk.dims {s:Sch} {L:List Int} {l:List Pk} (h:DimOk s L l) (h1:1≤L.length) (h2:L.length≤3) (hn:L.Nodup) (hc:∀ v∈L,isB s v 2 = true):ZZ s l = 0:=by
 have hl:l.length = L.length:=by rw [← h.cols,List.length_map]
 rw [ZZ,if_neg (by omega)]
 refine Km fun i hi=>?_
 have hpi:pkAt l i = l[i]:=by rw [pkAt,qk hi]
 have hm:l[i]∈l:=List.getElem_mem hi
 rw [dimE,hpi,if_neg (by rw [h.pick _ hm];simp),if_neg (by rw [hc _ (by rw [← h.cols];exact List.mem_map_of_mem hm)];simp),if_neg]
 intro k
 obtain ⟨x,hx,e⟩:=List.any_eq_true.1 k
 obtain ⟨j,hj,rfl⟩:=List.mem_take_iff_getElem.1 hx
 rw [← h.cols] at hn
 have:=List.pairwise_iff_getElem.1 hn j i (by simp;omega) (by simp;omega) (by omega)
 simp only [List.getElem_map] at this
 exact this (beq_iff_eq.1 e)
theorem zS3 {s:Sch} (hE:schE s = 0) {v:Nat} (h:isB s v 2 = true∨isB s v 3 = true):1≤v∧v < s.cols.length∧0≤finI s v∧finI s v≤59:=by
 have hok:=qZ hE
 have hb:∃ k,2≤k∧isB s v k = true:=by rcases h with h | h <;> exact ⟨_,by omega,h⟩
 obtain ⟨k,hk,hb⟩:=hb
 obtain ⟨_,b2,b3⟩:=zP.1 hb
 rw [Int.toNat_natCast] at b3
 have hv:v≠0:=fun e=>by subst e;have:=hok.c0;omega
 refine ⟨by omega,by omega,?_,qf7 hE⟩
 rw [finI,if_neg (by omega),Int.toNat_natCast]
 split
 ·rename_i h2
  have:=zw1 (hok.cdl (by omega) h2).2
  omega
 ·omega
theorem kS (s:Sch) (hd:DrS s) (l:List UInt8) (a:Nat) (hl:l.length≤400) (ha:a≤l.length) :
 ∃ r:List Pk×Nat,(ZZ s r.1 = 0∧r.2≤l.length)∧Spc Tryz.prog yS [.ptr 0 1 0 0,schT s] [(0,oC l a)] (vPs r.1) [(0,oC l r.2)]:=by
 have hE:=hd.ok
 have hok:=qZ hE
 have hnc:=hok.nc
 have hc:=Qx s 2 (by omega)
 have hm:=fun v=>(Ja (s:=s) (kind:=2) (v:=v)).1
 have hnd:=qG4 s 2
 have hc2:=hd.code2
 obtain ⟨k1,k2⟩:=hd.code
 generalize JQ s 2 = L at hc hm hnd hc2 k1 k2
 obtain ⟨o,a1,ha1,sO⟩:=jb3 l a 2 hl ha (by omega)
 obtain ⟨j,a2,j1,j2,ha2,sN⟩:=QD l a1 L.length hl ha1 (by omega)
 obtain ⟨m,rfl⟩:=Int.eq_ofNat_of_zero_le j1
 refine jF qj7 mixm (fun r:List Pk×Nat=>vPs r.1) (fun r=>[(0,oC l r.2)]) (by simp) ?_
 unfold yv
 refine sW ?_
 refine XE.mp (fun _ _=>C1.im hc (by rfl) (by rfl)) ?_
 refine sW ?_
 refine XE.mp (fun _ _=>C1.draw 0 l a _ sO rfl rfl rfl) ?_
 refine sW ?_
 refine XE.brB (fun ho=>?_) (fun ho=>?_)
 focus
  refine XE.mp (fun _ _=>C1.draw 0 l a1 _ sN rfl rfl rfl) ?_
  simp only [tZ,↓un_u,simprocAttr,WX,zZ6]
  have hmd:∀ v∈L.drop m,isB s v 2 = true:=fun v hv=>hm v (List.mem_of_mem_drop hv)
  have hnd2:(L.drop m).Nodup:=hnd.sublist (List.drop_sublist m L)
  have hl2:1≤(L.drop m).length∧(L.drop m).length≤2:=by rw [List.length_drop];omega
  generalize L.drop m = M at hmd hnd2 hl2 ⊢
  obtain ⟨b,hb⟩:∃ b,b = a2:=⟨_,rfl⟩
  rw [← hb]
  have hb:b≤l.length:=by omega
  refine XE.sd (by omega) ?_
 rotate_left
 focus
  have hmd:=hm
  have hnd2:=hnd
  have hl2:1≤L.length∧L.length≤2:=by omega
  obtain ⟨M,hM⟩:∃ M,M = L:=⟨_,rfl⟩
  rw [← hM] at hmd hnd2 hl2 ⊢
  obtain ⟨b,hb⟩:∃ b,b = a1:=⟨_,rfl⟩
  rw [← hb]
  have hb:b≤l.length:=by omega
 all_goals (
  refine XE.loopF mixm [5,20] (fun y:List Pk×Nat=>y.1.length≤M.length∧DimOk s (M.take y.1.length) y.1∧y.2≤l.length) (fun y=>[(5,.asl 1 y.1.length),(20,vI y.1.length)]) (fun y=>[(0,oC l y.2),(4096,.arr 2 [schT s] false),(1,.arr 2 (y.1.map pkT) false)]) (fun y=>M.length - y.1.length) ([],b) ⟨by simp,⟨rfl,by simp⟩,hb⟩ (fun e ⟨_,hst⟩=>?_) fun T' y hy ih=>?_
  ·exact .oA [(0,some 0),(4096,some 4096),(1,none)] []
  obtain ⟨ps,a4⟩:=y
  obtain ⟨y1,y2,y3⟩:=hy
  dsimp only at y1 y2 y3
  simp only [tZ,↓un_u,simprocAttr,decide_eq_true_eq,decide_eq_false_iff_not]
  refine XE.brN (fun h4=>?_) (fun h4=>?_)
  ·have hi2:ps.length < M.length:=by omega
   have hwi:=qh (i:=ps.length) (by omega)
   have hiB:=hmd _ (List.getElem_mem hi2)
   have htk:=qY hi2
   obtain ⟨v,hv⟩:=Int.eq_ofNat_of_zero_le (zP.1 hiB).1
   have hgv:(M.map vI).getD ps.length .junk = vI v:=by rw [qe hi2,hv]
   rw [hv] at hiB htk
   obtain ⟨f1,f2,f3,f4⟩:=zS3 hE (.inl hiB)
   have hFin:=qc1 s hok.sm v
   obtain ⟨w,a5,w1,w2,hw,sQ⟩:=QD l a4 (finI s v + 1) hl y3 (by omega)
   have hwf:IntKind.i64.wrap (finI s v + 1) = finI s v + 1:=IntWalk.i64_in _ (by omega)
   simp only [tZ,↓un_u,simprocAttr,Int.toNat_natCast,hgv]
   refine XE.sd (by omega) (XE.sd (by omega) ?_)
   refine XE.mp (fun _ _=>C1.im hFin (by rfl) (by rfl)) ?_
   simp only [tZ,↓un_u,simprocAttr,hwf]
   refine XE.mp (fun _ _=>C1.draw 0 l a4 _ sQ rfl rfl rfl) ?_
   simp only [tZ,↓un_u,simprocAttr,hwi]
   refine XE.sd (by omega) (XE.sd (by kernel_rfl) ?_)
   refine XE.next ih (ps ++ [⟨v,w⟩],a5) ⟨by simp;omega,⟨?_,fun p hp=>?_⟩,hw⟩ (by simp;omega) fun e ⟨_,hst⟩=>?_
   ·dsimp only
    rw [List.length_append,List.map_append,y2.cols]
    exact htk.symm
   ·rcases List.mem_append.1 hp with hp | hp
    ·exact y2.pick p hp
    ·rw [List.mem_singleton.1 hp,QC,if_neg (by rw [hE];simp),if_neg (by dsimp only;omega),if_neg]
     rw [Bool.not_eq_false,Yy]
     dsimp only;omega
   ·exact .oA [(0,some 0),(4096,some 4096),(1,some 1)] []
  ·have hil:ps.length = M.length:=by omega
   rw [hil,List.take_length] at y2
   refine XE.fin (ps,a4) ⟨y2.dims hl2.1 (by omega) hnd2 hmd,y3⟩ fun e ⟨_,hst⟩=>?_
   exact .oA [(0,some 0)] [1]
  )
end Go.Proofs
namespace Go.Proofs
open Go Go.TL
theorem wU (s:ByteArray):Spc Tryz.prog jH [vS s] [] (vB (jh s)) []:=by
 refine qd qS3 mixm (by simp) fun e _ hst=>qg ?_
 unfold KO
 refine sW ?_
 refine ⟨fun h=>?_,fun h=>?_,fun h=>?_,fun h=>?_⟩
 ·simp at h
  omega
 ·simp at h
  omega
 ·have:jh s = false:=by unfold jh zm3;rw [h];rfl
  rw [this]
  exact .oA [] []
 have hd:zm3 s = false:=h
 have hs16:s.data.toList.length≤16:=by
  unfold zm3 at hd
  simp only [Bool.or_eq_false_iff,decide_eq_false_iff_not] at hd
  have:s.size = s.data.toList.length:=by rw [Array.length_toList];rfl
  omega
 refine qu mixm (α:=Nat) [26] (fun i=>i≤s.data.toList.length∧((s.data.toList.take i).any qE6 = false)) (fun i=>[(26,vI i)]) (fun i=>[]) (fun i=>s.data.toList.length - i) 0 ⟨by omega,?_⟩ ?_ fun i hi=>?_
 ·rfl
 ·exact .oA [] []
 refine sD ?_
 refine ⟨fun h5=>?_,fun h5=>?_⟩
 ·have hi2:i < s.data.toList.length:=by omega
  have hwi:=qh (i:=i) (by omega)
  simp only [tZ,↓un_u,simprocAttr,Int.toNat_natCast,qe hi2,hwi,yO]
  refine ⟨by omega,fun h6=>?_,fun h6=>?_⟩
  ·have hb:qE6 s.data.toList[i] = true:=h6
   have:jh s = false:=by
    unfold jh
    rw [show s.data.toList.any qE6 = true from List.any_eq_true.2 ⟨_,List.getElem_mem hi2,hb⟩]
    simp
   rw [this]
   exact .oA [] []
  ·have hb:qE6 s.data.toList[i] = false:=h6
   refine ⟨i + 1,⟨by omega,zQ hi2 hi.2 hb⟩,by omega,?_⟩
   exact .oA [] []
 ·have h3:=hi.2
  have:i = s.data.toList.length:=by omega
  rw [this,List.take_length] at h3
  have hn:jh s = !(resW.contains s.toList):=by unfold jh;rw [hd,h3];rfl
  rw [hn]
  simp only [resW,List.contains_cons,List.contains_nil]
  repeat' (first | with_reducible apply And.intro | with_reducible intro _)
  all_goals first
   | (exfalso;simp_all;done)
   | (simp only [*,Bool.true_or,Bool.or_true,Bool.false_or,Bool.or_false,Bool.not_true,Bool.not_false];exact .imR rfl rfl)
end Go.Proofs
namespace Go.Proofs
open Go Go.TL
set_option maxHeartbeats 8000000
def depL (cs:List Cod):List Int:=(List.range cs.length).map fun i=>(dep cs i:Int)
def depO (cs:List Cod) (i:Nat):List Int:=((List.range i).map fun i=>(dep cs i:Int)) ++ List.replicate (cs.length - i) 0
theorem YQ (cs:List Cod):(depL cs).length = cs.length:=by simp [depL]
theorem jb4 {cs:List Cod} {i:Nat} (h:i≤cs.length):(depO cs i).length = cs.length:=by simp [depO];omega
theorem zS4 (cs:List Cod):depO cs 0 = List.replicate cs.length 0:=by simp [depO]
theorem jb5 (cs:List Cod):depO cs cs.length = depL cs:=by simp [depO,depL]
theorem jb6 {cs:List Cod} {i:Nat} (h:i < cs.length) (v:Int) (hv:v = dep cs i):(depO cs i).set i v = depO cs (i + 1):=by
 unfold depO
 rw [List.set_append_right _ _ (by simp),List.length_map,List.length_range,Nat.sub_self,show cs.length - i = (cs.length - (i + 1)) + 1 by omega,List.replicate_succ,List.set_cons_zero,List.range_succ,List.map_append,List.append_assoc,hv]
 rfl
theorem zS5 {cs:List Cod} {i:Nat} (h:i < cs.length) (h0:dep cs i = 0):depO cs i = depO cs (i + 1):=by
 unfold depO
 rw [show cs.length - i = (cs.length - (i + 1)) + 1 by omega,List.replicate_succ,List.range_succ,List.map_append,List.append_assoc,List.map_cons,h0]
 rfl
theorem jo1 {cs:List Cod} {i k:Nat} (h:k < i) (hi:i≤cs.length):(depO cs i).getD k 0 = dep cs k:=by
 unfold depO
 rw [List.getD_eq_getElem?_getD,List.getElem?_append_left (by simp;omega),List.getElem?_map,List.getElem?_range (by omega)]
 rfl
theorem jj0 (n:Nat):List.replicate n (T.v (Value.int IntKind.i64 0)) = (List.replicate n (0:Int)).map vI:=by simp
structure ParR (cs:List Cod):Prop where
 ok:qE7 cs
 kid:∀ i,0 < i→i < cs.length→0≤parC cs i
 root:parC cs 0 < 0∨cs.length = 0
 len:cs.length≤60
theorem wx (l:CodL) (h:ParR l.codes):Spc Tryz.prog jj [cdlT l] [] (vIs (depL l.codes)) []:=by
 have hl:=h.len
 refine qd qE3 mixm (by simp) fun e _ hst=>qg ?_
 unfold ZX
 refine sW ?_
 refine ⟨by omega,?_⟩
 refine qu mixm (α:=Nat) [13] (fun i=>i≤l.codes.length) (fun i=>[(13,vI i)]) (fun i=>[(4096,.arr 2 [cdlT l] false),(8204,.arr 1 ((depO l.codes i).map vI) false)]) (fun i=>l.codes.length - i) 0 (by omega) ?_ fun i hi=>?_
 ·rw [zS4]
  refine .of [(4096,some 4096),(8204,some 8204)] [] rfl (by first | rfl | (rw [hst];rfl)) ?_ ?_
  all_goals (try simp only [tL,simprocAttr,List.map_append,List.map_cons,List.map_nil,List.cons_append,List.nil_append,Int.toNat_natCast,jj0])
  all_goals (try (repeat' (first | exact qR | (apply zd;intro _;exact ⟨rfl,rfl⟩) | (apply qz;intro _;exact ⟨rfl,rfl⟩) | with_reducible apply qG | with_reducible refine qE ⟨rfl,rfl⟩ ?_ | exact qO | with_reducible apply qA | with_reducible refine qJ ⟨rfl,rfl,?_⟩ ?_ | with_reducible apply And.intro | exact qD rfl | exact qD (by assumption) | (refine ⟨⟨?_,rfl,?_,rfl,?_⟩,trivial⟩ <;> first | (simp;done) | (apply qz;intro _;exact ⟨rfl,rfl⟩)) | trivial | rfl | (rw [qh (by omega)]) | omega)))
 have hol:=jb4 (cs:=l.codes) hi
 refine sD ?_
 refine ⟨fun h2=>?_,fun h2=>?_⟩
 ·have hi2:i < l.codes.length:=by omega
  have hwi:=qh (i:=i) (by omega)
  have hp:=h.ok i hi2
  have hat:cdAt l.codes i = l.codes[i]:=by rw [cdAt,qk hi2]
  have hpar:l.codes[i].par = parC l.codes i:=by rw [parC,hat]
  simp only [tZ,↓un_u,simprocAttr,Int.toNat_natCast,qe hi2,hpar,gt_iff_lt,tD]
  refine ⟨by omega,fun h4=>?_,fun h4=>?_⟩
  ·have hk:=h.kid i (by omega) hi2
   have hdk:=qr3 h.ok hi2 hk
   obtain ⟨q,hq⟩:=Int.eq_ofNat_of_zero_le hk
   have hqi:q < i:=by omega
   have hq3:q < (depO l.codes i).length:=by omega
   have hq4:(depO l.codes i)[q] = dep l.codes q:=by
    have:=jo1 (cs:=l.codes) hqi hi
    rw [qk hq3] at this
    exact this
   have hdl:=qt9 h.ok q (by omega)
   have hwd:=qh (i:=dep l.codes q) (by omega)
   rw [hq,Int.toNat_natCast] at hdk
   have hi3:i < (depO l.codes i).length:=by omega
   have hset:=jb6 hi2 ((dep l.codes q + 1:Nat):Int) (by rw [hdk])
   simp only [tZ,↓un_u,simprocAttr,hq,Int.toNat_natCast,qe hq3,qe hi3,hq4,hwd,hwi,show ∀ a b:Int,repl (vI a) 0 (vI b) = vI b from fun _ _=>rfl]
   refine ⟨by omega,by omega,by omega,by omega,i + 1,by omega,by omega,?_⟩
   rw [← List.map_set,hset]
   exact .oA [(4096,some 4096),(8204,some 8204)] []
  ·have hz:i = 0:=by omega
   subst hz
   have hr:=h.root.resolve_right (by omega)
   have hn:=zS5 hi2 (ql6 hr)
   simp only [tZ,↓un_u,simprocAttr,hwi]
   refine ⟨1,by omega,by omega,?_⟩
   rw [← hn]
   exact .oA [(4096,some 4096),(8204,some 8204)] []
 ·have hil:i = l.codes.length:=by omega
  subst hil
  rw [jb5,Int.toNat_natCast]
  have hdl:=YQ l.codes
  exact .oA [] [8204]
def aboL (cs:List Cod) (i:Nat):List Bool:=(List.range cs.length).map fun (k:Nat)=>(cs.take i).any fun x=>x.par == (k:Int)
theorem Wf (cs:List Cod) (i:Nat):(aboL cs i).length = cs.length:=by simp [aboL]
theorem zS6 (cs:List Cod):aboL cs 0 = List.replicate cs.length false:=by
 rw [List.eq_replicate_iff]
 refine ⟨Wf cs 0,fun b hb=>?_⟩
 obtain ⟨k,_,rfl⟩:=List.mem_map.1 hb
 simp
theorem qn0 {cs:List Cod} {i k:Nat} (h:k < (aboL cs i).length):(aboL cs i)[k] = (cs.take i).any fun x=>x.par == (k:Int):=by simp [aboL]
theorem zS7 {cs:List Cod} {i:Nat} (h:i < cs.length) (hp:cs[i].par < 0):aboL cs (i + 1) = aboL cs i:=by
 refine List.ext_getElem (by rw [Wf,Wf]) fun k h1 h2=>?_
 have h3:(cs[i].par == (k:Int)) = false:=beq_eq_false_iff_ne.2 (by omega)
 rw [qn0,qn0,qY h,List.any_append,List.any_cons,List.any_nil,h3]
 simp
theorem jb7 {cs:List Cod} {i p:Nat} (h:i < cs.length) (hp:cs[i].par = p):(aboL cs i).set p true = aboL cs (i + 1):=by
 refine List.ext_getElem (by rw [List.length_set,Wf,Wf]) fun k h1 h2=>?_
 rw [List.getElem_set,qn0,qn0,qY h,List.any_append,List.any_cons,List.any_nil,hp]
 by_cases e:p = k
 ·subst e;simp
 ·have:((p:Int) == (k:Int)) = false:=beq_eq_false_iff_ne.2 (by omega)
  rw [if_neg e,this]
  simp
theorem jb8 {cs:List Cod} {k:Nat} (h:k < (aboL cs cs.length).length):(aboL cs cs.length)[k] = !qf4 cs k:=by
 rw [qn0,List.take_length,qf4,Bool.not_not]
theorem jt4 (n:Nat):List.replicate n (T.v (Value.bool false)) = (List.replicate n false).map vB:=by simp
def zm6 (cs:List Cod):List (ByteArray×Bool):=cs.map fun c=>(c.name,true)
theorem zh1 {nm:ByteArray}:∀ {cs:List Cod},(TL.look TL.eqS nm (zm6 cs)).getD false = cs.any fun x=>eqB x.name nm
 | []=>rfl
 | c :: cs=>by
   have h:TL.eqS nm c.name = eqB c.name nm:=by
    rw [Bool.eq_iff_iff,TL.eqS,eqB,beq_iff_eq,beq_iff_eq]
    exact ⟨fun h=>h.symm,fun h=>h.symm⟩
   simp only [zm6,List.map_cons,TL.look,List.any_cons,h]
   cases eqB c.name nm with
   | true=>rfl
   | false=>rw [if_neg (by simp),Bool.false_or];exact zh1
theorem zx0 {c:Cod}:∀ {cs:List Cod},(cs.any fun x=>eqB x.name c.name) = false→TL.asg TL.eqS c.name true (zm6 cs) = zm6 (cs ++ [c])
 | [],_=>rfl
 | x :: cs,h=>by
   rw [List.any_cons,Bool.or_eq_false_iff] at h
   have h1:TL.eqS c.name x.name = eqB x.name c.name:=by
    rw [Bool.eq_iff_iff,TL.eqS,eqB,beq_iff_eq,beq_iff_eq]
    exact ⟨fun h=>h.symm,fun h=>h.symm⟩
   simp only [zm6,List.map_cons,TL.asg,h1,h.1,List.cons_append]
   rw [if_neg (by simp)]
   congr 1
   exact zx0 h.2
theorem jt5 {cs:List Cod} (h:cdEs cs cs.length = 0) (hl:cs.length≤60):ParR cs:=by
 refine ⟨ji6 h,fun i h0 hi=>(qT5 (ql7 h i hi)).2.2.2 h0,?_,hl⟩
 rcases Nat.eq_zero_or_pos cs.length with h0 | h0
 ·exact .inr h0
 ·have:=(qT5 (ql7 h 0 h0)).2.2.1 rfl
  exact .inl (by omega)
theorem qn1 {l:CodL} (h:lstE l = 0):ParR l.codes:=by
 obtain ⟨_,_,h3⟩:=zw h
 refine jt5 ?_ h3
 unfold lstE at h
 split at h
 ·cases h
 ·split at h
  ·cases h
  ·split at h
   ·cases h
   ·split at h
    ·rename_i h2;exact absurd h h2
    ·rename_i h4;exact Classical.byContradiction h4
theorem Zs (l:CodL):Spc Tryz.prog kR [cdlT l] [] (vI (lstE l)) []:=by
 refine qd qK4 mixm (by simp) fun e _ hst=>qg ?_
 unfold JJ
 refine sW ?_
 refine C1.im (wU l.name) (by rfl) (by rfl) ?_
 simp only [tZ,↓un_u,simprocAttr,Bool.not_eq_true',Bool.not_eq_false']
 refine ⟨fun h=>?_,fun h1=>?_⟩
 ·rw [lstE,if_pos h]
  exact .oA [] []
 simp only [tZ,↓un_u,simprocAttr,beq_iff_eq,beq_eq_false_iff_ne]
 refine ⟨fun h=>?_,fun h2=>?_⟩
 ·rw [lstE,if_neg (by rw [h1];simp),if_pos (by omega)]
  exact .oA [] []
 refine sD ?_
 refine ⟨fun h=>?_,fun h3=>?_⟩
 ·rw [lstE,if_neg (by rw [h1];simp),if_neg (by omega),if_pos (by omega)]
  exact .oA [] []
 have hE1:cdEs l.codes l.codes.length≠0→lstE l = cdEs l.codes l.codes.length:=fun h=>by
  rw [lstE,if_neg (by rw [h1];simp),if_neg (by omega),if_neg (by omega),if_pos h]
 have hE2:cdEs l.codes l.codes.length = 0→lvs l.codes l.codes.length = none→lstE l = 5:=fun h k=>by
  rw [lstE,if_neg (by rw [h1];simp),if_neg (by omega),if_neg (by omega),if_neg (by rw [h];simp),k]
 have hE3:∀ v,cdEs l.codes l.codes.length = 0→lvs l.codes l.codes.length = some v→lstE l = 0:=fun v h k=>by
  rw [lstE,if_neg (by rw [h1];simp),if_neg (by omega),if_neg (by omega),if_neg (by rw [h];simp),k]
 refine ⟨by omega,by kernel_rfl,?_⟩
 refine qu mixm (α:=Nat) [33] (fun i=>i≤l.codes.length∧cdEs l.codes i = 0) (fun i=>[(33,vI i)]) (fun i=>[(4096,.arr 2 [cdlT l] false),(32768,.mp (.sb (zm6 (l.codes.take i)))),(32784,.arr 1 ((aboL l.codes i).map vB) false)]) (fun i=>l.codes.length - i) 0 ⟨by omega,rfl⟩ ?_ fun i hi=>?_
 ·simp only [List.take_zero,zm6,List.map_nil,zS6]
  refine .of [(4096,some 4096),(32768,some 32768),(32784,some 32784)] [] rfl (by first | rfl | (rw [hst];rfl)) ?_ ?_
  all_goals (try simp only [tL,simprocAttr,List.map_append,List.map_cons,List.map_nil,List.cons_append,List.nil_append,Int.toNat_natCast,jt4])
  all_goals (try (repeat' (first | exact qR | (apply zd;intro _;exact ⟨rfl,rfl⟩) | (apply qz;intro _;exact ⟨rfl,rfl⟩) | with_reducible apply qG | with_reducible refine qE ⟨rfl,rfl⟩ ?_ | exact qO | with_reducible apply qA | with_reducible refine qJ ⟨rfl,rfl,?_⟩ ?_ | with_reducible apply And.intro | exact qD rfl | exact qD (by assumption) | (refine ⟨⟨?_,rfl,?_,rfl,?_⟩,trivial⟩ <;> first | (simp;done) | (apply qz;intro _;exact ⟨rfl,rfl⟩)) | trivial | rfl | (rw [qh (by omega)]) | omega)))
 obtain ⟨i1,i2⟩:=hi
 have hbl:=Wf l.codes i
 refine sD ?_
 refine ⟨fun h4=>?_,fun h4=>?_⟩
 ·have hi2:i < l.codes.length:=by omega
  have hwi:=qh (i:=i) (by omega)
  have hat:cdAt l.codes i = l.codes[i]:=by rw [cdAt,qk hi2]
  have hs:cdEs l.codes (i + 1) = cdE l.codes i:=by rw [cdEs,if_neg (by rw [i2];simp)]
  have hbad:cdE l.codes i≠0→lstE l = cdE l.codes i:=fun hb=>by
   have:=qP0 (by rw [hs];exact hb) l.codes.length (show i + 1≤l.codes.length by omega)
   rw [hE1 (by rw [this,hs];exact hb),this,hs]
  simp only [tZ,↓un_u,simprocAttr,Int.toNat_natCast,qe hi2]
  refine ⟨by omega,?_⟩
  refine C1.im (wU l.codes[i].name) (by rfl) (by rfl) ?_
  simp only [tZ,↓un_u,simprocAttr,Bool.not_eq_true',Bool.not_eq_false',zh1]
  refine ⟨fun h5=>?_,fun h5=>?_⟩
  ·have hc:cdE l.codes i = 3:=by rw [cdE,hat,if_pos h5]
   rw [hbad (by rw [hc];decide),hc]
   exact .oA [] []
  refine ⟨fun h6=>?_,fun h6=>?_⟩
  ·have hc:cdE l.codes i = 10:=by rw [cdE,hat,if_neg (by rw [h5];simp),if_pos h6]
   rw [hbad (by rw [hc];decide),hc]
   exact .oA [] []
  have hpar:l.codes[i].par = parC l.codes i:=by rw [parC,hat]
  have hcE:cdE l.codes i = if (i = 0∧parC l.codes i≠-1)∨(0 < i∧(parC l.codes i < 0∨parC l.codes i≥i)) then 6 else 0:=by
   rw [cdE,hat,if_neg (by rw [h5];simp),if_neg (by rw [h6];simp)]
  have hasg:=zx0 (c:=l.codes[i]) (cs:=l.codes.take i) h6
  rw [← qY hi2] at hasg
  simp only [tZ,↓un_u,simprocAttr,hasg,hpar,tD,beq_iff_eq,beq_eq_false_iff_ne,bne_iff_ne,bne_eq_false_iff_eq]
  refine ⟨fun h7=>?_,fun h7=>?_⟩
  ·have hc:cdE l.codes i = 6:=by rw [hcE,if_pos (by omega)]
   rw [hbad (by rw [hc];decide),hc]
   exact .oA [] []
  have hc0:cdEs l.codes (i + 1) = 0:=by rw [hs,hcE,if_neg (by omega)]
  refine ⟨fun h8=>?_,fun h8=>?_⟩
  ·obtain ⟨q,hq⟩:=Int.eq_ofNat_of_zero_le (show 0≤parC l.codes i by omega)
   have hq3:q < (aboL l.codes i).length:=by omega
   have hset:=jb7 (p:=q) hi2 (by rw [hpar,hq])
   simp only [hq,Int.toNat_natCast,qe hq3,show ∀ a b:Bool,repl (vB a) 0 (vB b) = vB b from fun _ _=>rfl,hwi]
   refine ⟨⟨by omega,by omega,by omega⟩,⟨by omega,by omega,rfl⟩,i + 1,⟨by omega,hc0⟩,by omega,?_⟩
   rw [← List.map_set,hset]
   exact .oA [(4096,some 4096),(32768,some 32768),(32784,some 32784)] []
  ·have hsk:=zS7 hi2 (by omega)
   simp only [hwi]
   refine ⟨i + 1,⟨by omega,hc0⟩,by omega,?_⟩
   rw [hsk]
   exact .oA [(4096,some 4096),(32768,some 32768),(32784,some 32784)] []
 ·have hil:i = l.codes.length:=by omega
  subst hil
  have hP:=jt5 i2 (by omega)
  have hdl:=YQ l.codes
  refine C1.im (wx l hP) (by rfl) (by rfl) ?_
  refine sW ?_
  have hbl:=Wf l.codes l.codes.length
  refine qu mixm (α:=Nat×Int) [7,84] (fun x=>x.1≤l.codes.length∧lvs l.codes x.1 = some x.2) (fun x=>[(7,vI x.2),(84,vI x.1)]) (fun x=>[(32784,.arr 1 ((aboL l.codes l.codes.length).map vB) false)]) (fun x=>l.codes.length - x.1) (0,-1) ⟨by simp,rfl⟩ ?_ fun x hx=>?_
  ·rw [Int.toNat_natCast]
   exact .oA [(32784,some 32784)] []
  obtain ⟨j,v⟩:=x
  obtain ⟨j1,j2⟩:=hx
  dsimp only at j1 j2
  refine sD ?_
  refine ⟨fun h5=>?_,fun h5=>?_⟩
  ·have hj2:j < l.codes.length:=by omega
   have hwj:=qh (i:=j) (by omega)
   have hs:=qy3 l.codes j
   rw [j2,lvS] at hs
   have hj3:j < (depL l.codes).length:=by omega
   have hj4:j < (aboL l.codes l.codes.length).length:=by omega
   have hd1:(depL l.codes)[j] = dep l.codes j:=by simp [depL]
   have ha1:=jb8 hj4
   simp only [tZ,↓un_u,simprocAttr,Int.toNat_natCast,qe hj3,qe hj4,hd1,ha1,hwj,Bool.not_eq_true',Bool.not_eq_false',tD,bne_iff_ne,bne_eq_false_iff_eq]
   refine ⟨by omega,by omega,by omega,fun h6=>?_,fun h6=>?_⟩
   ·rw [if_neg (by rw [h6];simp)] at hs
    refine ⟨(j + 1,v),⟨by dsimp only;omega,hs⟩,by dsimp only;omega,?_⟩
    exact .oA [(32784,some 32784)] []
   ·rw [if_pos h6] at hs
    refine ⟨fun h7=>?_,fun h7=>?_⟩
    ·rw [if_pos (by omega)] at hs
     rw [hE2 i2 (zw2 hs _ (by omega))]
     exact .oA [] []
    ·rw [if_neg (by omega)] at hs
     refine ⟨(j + 1,(dep l.codes j:Int)),⟨by dsimp only;omega,hs⟩,by dsimp only;omega,?_⟩
     exact .oA [(32784,some 32784)] []
  ·have hjl:j = l.codes.length:=by omega
   subst hjl
   rw [hE3 v i2 j2]
   exact .oA [] []
end Go.Proofs
