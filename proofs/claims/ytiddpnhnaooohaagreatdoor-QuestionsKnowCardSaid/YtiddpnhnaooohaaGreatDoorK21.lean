/- A part of the proof: trees of Go values, short forms, contracts. -/
import Derived.WalkKit
import Derived.Still
import Derived.MapKept
import GoSem.Builtin.Cap
import Derived.Laws.Externs
import GoSem.Extern.SlicesOverlaps
import Derived.Carry
import Derived.ProofKit
import Derived.OpenShut
import Derived.HandedShaped
import Derived.Lay
import Derived.LaidLaws
import Derived.MakeChecks
import Derived.SevenTiedAt
import Derived.Test.YtiddpnhnaooohaaGreatDoorChecked
import Derived.Test.YtiddpnhnaooohaaGreatDoorK20
set_option linter.unusedSimpArgs false
set_option linter.unusedVariables false
namespace Go.Proofs
open Go Go.TL
set_option maxRecDepth 4000
set_option maxHeartbeats 8000000
theorem Wk (n w:Int) (hw:0 < w∧w≤1000000) (hn : -4611686018427387904 < n∧n < 4611686018427387904):Spc Tryz.prog wt [vI n,vI w] [] (vI (qA n w * w)) []:=by
 rw [zp3 hw.1]
 have h2:=Int.tmod_lt_of_pos n hw.1
 have h3:=Int.lt_tmod_of_pos n hw.1
 have w1:IntKind.i64.wrap (n.tmod w) = n.tmod w:=IntWalk.i64_in _ (by omega)
 have w2:IntKind.i64.wrap (n.tmod w + w) = n.tmod w + w:=IntWalk.i64_in _ (by omega)
 have w3:IntKind.i64.wrap (n - n.tmod w) = n - n.tmod w:=IntWalk.i64_in _ (by omega)
 have w4:IntKind.i64.wrap (n - (n.tmod w + w)) = n - (n.tmod w + w):=IntWalk.i64_in _ (by omega)
 refine qd qp4 mixm (by simp) fun e _ hst=>qj ?_
 unfold yS
 simp only [tZ,↓un_u,simprocAttr,w1,w2,w3,w4,tD]
 refine ⟨by omega,fun h=>?_,fun h=>?_⟩
 ·rw [if_pos h]
  exact .oA [] []
 ·rw [if_neg h]
  exact .oA [] []
theorem qr2 (c:Col) (lev:Int) (h1:1≤lev∧lev≤c.widths.length) (h2:c.widths.length < 4611686018427387904):Spc Tryz.prog yI [colT c,vI lev] [] (vI (qE c lev)) []:=by
 have hw:IntKind.i64.wrap ((c.widths.length:Int) - lev) = (c.widths.length:Int) - lev:=IntWalk.i64_in _ (by omega)
 have hk:((c.widths.length:Int) - lev).toNat < c.widths.length:=by omega
 refine qd qj9 mixm (by simp) fun e _ hst=>qj ?_
 unfold yp
 simp only [tZ,↓un_u,simprocAttr,hw,qe hk]
 rw [qE,qh hk]
 refine ⟨by omega,?_⟩
 exact .oA [] []
theorem qm0 (k k' v:Int):∀ l:List (Int×Int),TL.look TL.eqI k (TL.asg TL.eqI k' v l) = if k = k' then some v else TL.look TL.eqI k l
 | []=>by
   simp only [TL.asg,TL.look,TL.eqI,beq_iff_eq]
 | (a,b) :: r=>by
   have ih:=qm0 k k' v r
   simp only [TL.asg,TL.eqI,beq_iff_eq] at ih ⊢
   by_cases h:k' = a
   ·subst h
    rw [if_pos rfl]
    simp only [TL.look,TL.eqI,beq_iff_eq]
    split <;> rfl
   ·rw [if_neg h]
    simp only [TL.look,TL.eqI,beq_iff_eq]
    rw [ih]
    by_cases h2:k = a
    ·subst h2
     rw [if_pos rfl,if_neg (fun e=>h e.symm),if_pos rfl]
    ·rw [if_neg h2,if_neg h2]
theorem zj5 {n w:Int} (hw:0 < w):(qA n w * w == n) = (n.tmod w == 0):=by
 rw [zp3 hw,Bool.eq_iff_iff,beq_iff_eq,beq_iff_eq]
 have h2:=Int.tmod_lt_of_pos n hw
 have h3:=Int.lt_tmod_of_pos n hw
 split <;> omega
theorem qa1 (s:Sch) (hE:schE s = 0) (c:Cnd) (hnd:NdOk s c) (ha:isAt c = true) (lev:Nat) (hl:(lev:Int)≤finI s c.col):Spc Tryz.prog kM [schT s,cnT c,vI lev] [] (vB (decB s c lev)) []:=by
 have hok:=qJ hE
 have hn0:=hok.nl
 have hn1:=hok.nc
 obtain ⟨_,c1,c2,hfin⟩:=kV (s:=s) (c:=c.col) (by omega)
 obtain ⟨i,hci⟩:=Int.eq_ofNat_of_zero_le (show 0≤c.col by omega)
 have hcn:c.col.toNat = i:=by omega
 have hil:i < s.cols.length:=by omega
 have hat:qg s i = s.cols[i]:=by rw [qg,qh hil]
 have hcd:=fun e=>hok.cdl hil e
 have hcd2:=(qU (hok.cs i hil)).2.2.2.1
 have hwd:=fun e l=>hok.wid hil (by omega) e (lev:=l)
 have hll:=Zj hok hil
 have hcl:qG s i = s.lists.getD s.cols[i].list.toNat default:=by rw [qG,hat]
 have hlh:=fun h2 v=>yV (s:=s) (i:=i) h2 (v:=v)
 have hfi:∀ h2:(qg s i).kind = 2,finI s c.col = zk (qG s i) - 1:=fun h2=>by rw [hfin,hcn,if_pos h2]
 have hco:∀ h2:(qg s i).kind = 2,∀ v∈qD s i,qr s c.col lev v = upC (qG s i) v lev:=fun h2 v hv=>by
  have:=yV h2 (hcd h2).2 hv
  rw [qr,if_neg (by rw [Bool.not_eq_false,jA];omega),hcn,if_pos h2,if_neg (by rw [this];simp)]
 rw [hcn,hat] at hfin
 rw [hat] at hwd hll hcd hcd2 hfi hco
 have hD:decB s c lev = if c.op = 2 then qk5 (qD s i).length (decP s c lev)
 else if c.op = 4 then decide (0 < lev)
 else if lev = 0 then !s.cols[i].opt && !(decide (s.cols[i].low < c.lo) && decide (c.lo≤s.cols[i].high)) && !(decide (s.cols[i].low≤c.hi) && decide (c.hi < s.cols[i].high))
  else (!(decide (s.cols[i].low < c.lo) && decide (c.lo≤s.cols[i].high)) || (c.lo.tmod (qE s.cols[i] lev) == 0)) && (!(decide (s.cols[i].low≤c.hi) && decide (c.hi < s.cols[i].high)) || ((c.hi + 1).tmod (qE s.cols[i] lev) == 0)):=by
  rw [decB,hcn,hat]
 have hk2:c.op = 2→s.cols[i].kind = 2:=fun h=>by
  have:=(zt.1 (hnd.under h).1).2.2
  rw [hcn,hat] at this;exact this
 have hk3:c.op = 3→s.cols[i].kind = 3:=fun h=>by
  have:=(zt.1 (hnd.between h).1).2.2
  rw [hcn,hat] at this;exact this
 have hm4:c.op = 4→s.cols[i].opt = true:=fun h=>by
  have:=(hnd.miss h).2
  rw [hcn,hat] at this;exact this
 have hPd:∀ L,qD s i = L→∀ j k,decP s c lev j k = !((qr s c.col lev (L.getD j 0) == qr s c.col lev (L.getD k 0)) && !(zH s c (L.getD j 0) == zH s c (L.getD k 0))):=fun L hL j k=>by rw [decP,hcn,hL]
 have hlv:qD s i = atL (qG s i) (zk (qG s i) - 1):=rfl
 rw [hD]
 rw [hcl] at hcd hco hlv
 refine qd Ya mixm (by simp) fun e _ hst=>qj ?_
 unfold kj
 simp only [tZ,↓un_u,simprocAttr,hcn,qe hil]
 have hmw:s.cols[i].kind = 3→1≤s.cols[i].widths.length:=fun h=>by
  have:=(qU (hok.cs i hil)).2.2.2.2 (by rw [hat];exact h)
  rw [hat] at this
  unfold measE at this
  grind
 generalize s.cols[i] = x at hmw hwd hfin hll hk2 hk3 hm4 hcd hcd2 hco hlv ⊢
 simp only [tZ,↓un_u,simprocAttr,beq_iff_eq,beq_eq_false_iff_ne]
 refine ⟨by omega,fun h2=>?_,fun h2=>?_⟩
 ·rw [if_pos h2]
  obtain ⟨d1,d2⟩:=hcd (hk2 h2)
  obtain ⟨d3,d4⟩:=hcd2 (hk2 h2)
  have hco:=hco (hk2 h2)
  have hll:=hll (hk2 h2)
  have hPd:=hPd _ rfl
  rw [qh d1] at d2 hco hlv
  rw [hlv] at hco hll hPd ⊢
  have hAt:=Wj s hok c hnd ha
  simp only [tZ,↓un_u,simprocAttr,qe d1]
  refine ⟨by omega,?_⟩
  generalize s.lists[x.list.toNat] = l at d2 hco hll hPd ⊢
  have hlvl:=qe0 (l:=l)
  have hw2:IntKind.i64.wrap (zk l - 1) = zk l - 1:=IntWalk.i64_in _ (by omega)
  refine C1.im (JR l) (by rfl) (by rfl) ?_
  simp only [tZ,↓un_u,simprocAttr,hw2]
  refine C1.im (qq9 l (zk l - 1)) (by rfl) (by rfl) ?_
  refine sW ?_
  repeat (first | refine ⟨by omega,?_⟩ | refine ⟨by kernel_rfl,?_⟩)
  generalize atL l (zk l - 1) = L at hco hll hPd ⊢
  refine qw mixm (α:=Nat×List (Int×Int)) [41] (fun y=>y.1≤L.length∧qk5 y.1 (decP s c lev) = true∧(∀ a,a < y.1→TL.look TL.eqI (upC l (L.getD a 0) lev) y.2 = some (zH s c (L.getD a 0)))∧∀ k v,TL.look TL.eqI k y.2 = some v→∃ a,a < y.1∧upC l (L.getD a 0) lev = k∧zH s c (L.getD a 0) = v) (fun y=>[(41,vI y.1)]) (fun y=>[(4096,.arr 2 [schT s] false),(4100,.arr 6 [cnT c] false),(16408,.arr 2 [cdlT l] false),(20480,.mp (.ii y.2))]) (fun y=>L.length - y.1) (0,[]) ⟨by simp,rfl,by simp,by simp [TL.look]⟩ ?_ fun y hy=>?_
  ·exact .oA [(4096,some 4096),(4100,some 4100),(16408,some 16408),(20480,some 20480)] []
  obtain ⟨j,M⟩:=y
  obtain ⟨y1,y2,y3,y4⟩:=hy
  dsimp only at y1 y2 y3 y4
  refine sD ?_
  refine ⟨fun h3=>?_,fun h3=>?_⟩
  ·have hj2:j < L.length:=by omega
   have hwj:=qk (i:=j) (by omega)
   have hgj:L.getD j 0 = L[j]:=qh hj2
   have hP:∀ a,a < j→decP s c lev j a = !((upC l L[j] lev == upC l (L.getD a 0) lev) && !(zH s c L[j] == zH s c (L.getD a 0))):=fun a ha=>by
    rw [hPd,hgj,hco L[j] (List.getElem_mem hj2),hco (L.getD a 0) (by rw [qh (show a < L.length by omega)];exact List.getElem_mem _)]
   have hlk:=qm0
   simp only [tZ,↓un_u,simprocAttr,Int.toNat_natCast,qe hj2]
   refine ⟨by omega,?_⟩
   refine C1.im (YK l L[j] lev) (by rfl) (by rfl) ?_
   refine sW ?_
   refine C1.im (hAt L[j]) (by rfl) (by rfl) ?_
   refine sW ?_
   repeat (first | refine ⟨by omega,?_⟩ | refine ⟨by kernel_rfl,?_⟩)
   have hfin:∀ v,(∀ w,TL.look TL.eqI (upC l L[j] lev) M = some w→w = zH s c L[j])→v = zH s c L[j]→(j + 1≤L.length∧qk5 (j + 1) (decP s c lev) = true∧(∀ a,a < j + 1→TL.look TL.eqI (upC l (L.getD a 0) lev) (TL.asg TL.eqI (upC l L[j] lev) v M) = some (zH s c (L.getD a 0)))∧∀ k w,TL.look TL.eqI k (TL.asg TL.eqI (upC l L[j] lev) v M) = some w→∃ a,a < j + 1∧upC l (L.getD a 0) lev = k∧zH s c (L.getD a 0) = w):=fun v hv e=>by
    subst e
    have hsame:∀ a,a < j→upC l (L.getD a 0) lev = upC l L[j] lev→zH s c (L.getD a 0) = zH s c L[j]:=fun a ha he=>by
     have:=y3 a ha
     rw [he] at this
     exact hv _ this
    refine ⟨by omega,?_,fun a h5=>?_,fun k w h5=>?_⟩
    ·rw [qQ5,y2,Bool.true_and,List.all_eq_true]
     intro a ha
     rw [List.mem_range] at ha
     rw [hP a ha]
     by_cases q:upC l (L.getD a 0) lev = upC l L[j] lev
     ·rw [hsame a ha q];simp
     ·rw [beq_eq_false_iff_ne.2 (fun e=>q e.symm)];rfl
    ·rw [qm0]
     by_cases q:a = j
     ·subst q;rw [hgj,if_pos rfl]
     ·split
      ·rename_i q2;rw [hsame a (by omega) q2]
      ·exact y3 a (by omega)
    ·rw [qm0] at h5
     split at h5
     ·rename_i q
      exact ⟨j,by omega,by rw [hgj,q],by rw [hgj];simpa using h5⟩
     ·obtain ⟨a,a1,a2,a3⟩:=y4 k w h5
      exact ⟨a,by omega,a2,a3⟩
   cases hf:TL.look TL.eqI (upC l L[j] lev) M with
   | none=>
     simp only [tZ,↓un_u,simprocAttr,hf,Option.isSome_none,hwj]
     refine ⟨fun h=>by simp at h,fun _=>⟨(j + 1,_),hfin _ (fun w h=>by rw [hf] at h;cases h) rfl,by dsimp only;omega,?_⟩⟩
     exact .oA [(4096,some 4096),(4100,some 4100),(16408,some 16408),(20480,some 20480)] []
   | some w=>
     simp only [tZ,↓un_u,simprocAttr,hf,Option.isSome_some,Option.getD_some,bne_iff_ne,bne_eq_false_iff_eq,hwj]
     refine ⟨fun h5=>?_,fun h5=>?_⟩
     ·obtain ⟨a,a1,a2,a3⟩:=y4 _ _ hf
      rw [zz6 hj2 a1 (by rw [hP a a1,a2,a3,beq_self_eq_true,beq_eq_false_iff_ne.2 (fun e=>h5 e.symm)];rfl)]
      exact .oA [] []
     ·refine ⟨(j + 1,_),hfin _ (fun w' h=>by rw [hf] at h;cases h;exact h5) rfl,by dsimp only;omega,?_⟩
      exact .oA [(4096,some 4096),(4100,some 4100),(16408,some 16408),(20480,some 20480)] []
  ·have hjl:j = L.length:=by omega
   subst hjl
   rw [y2]
   exact .oA [] []
 rw [if_neg h2]
 by_cases h4:c.op = 4
 ·rw [if_pos h4]
  have ho:=hm4 h4
  by_cases hz:lev = 0
  ·subst hz
   simp only [tZ,↓un_u,simprocAttr,ho]
   exact .oA [] []
  ·have e0:((lev:Int) == 0) = false:=beq_eq_false_iff_ne.2 (by omega)
   simp only [tZ,↓un_u,simprocAttr,e0,beq_iff_eq,beq_eq_false_iff_ne]
   rw [decide_eq_true (show 0 < lev by omega)]
   refine ⟨fun h=>by simp at h,fun _=>⟨fun _=>?_,fun h=>absurd h4 h⟩⟩
   exact .oA [] []
 rw [if_neg h4]
 have h3:c.op = 3:=by
  unfold isAt at ha
  simp only [Bool.or_eq_true,beq_iff_eq] at ha
  omega
 have hk3:=hk3 h3
 have hb:=hnd.between h3
 rw [if_neg (by omega)] at hfin
 have q4:(c.op == 4) = false:=beq_eq_false_iff_ne.2 h4
 have hxw:=hmw hk3
 obtain ⟨_,_,_,x4,x5,x6,x7,_⟩:=hwd (by omega) 1 (by omega)
 by_cases hz:lev = 0
 ·subst hz
  simp only [tZ,↓un_u,simprocAttr,qQ9,zA5,tD]
  refine ⟨fun h=>?_,fun h=>⟨fun k=>absurd k h4,fun _=>?_⟩⟩
  ·rw [h]
   exact .oA [] []
  ·rw [h]
   repeat (first | refine ⟨by omega,?_⟩ | refine ⟨by kernel_rfl,?_⟩)
   refine ⟨fun h5=>?_,fun h5=>?_⟩
   ·rw [show (!false && !(decide (x.low < c.lo) && decide (c.lo≤x.high)) && !(decide (x.low≤c.hi) && decide (c.hi < x.high))) = true by grind]
    exact .oA [] []
   ·rw [show (!false && !(decide (x.low < c.lo) && decide (c.lo≤x.high)) && !(decide (x.low≤c.hi) && decide (c.hi < x.high))) = ((max c.lo x.low == x.low) && (min c.hi x.high == x.high)) by grind]
    exact .oA [] []
 have e0:((lev:Int) == 0) = false:=beq_eq_false_iff_ne.2 (by omega)
 rw [if_neg hz]
 obtain ⟨w1,w2,_⟩:=hwd (by omega) lev (by omega)
 simp only [tZ,↓un_u,simprocAttr,e0,qQ9,zA5,tD]
 refine fun _=>⟨fun k=>absurd k h4,fun _=>?_⟩
 repeat (first | refine ⟨by omega,?_⟩ | refine ⟨by kernel_rfl,?_⟩)
 refine ⟨fun h5=>?_,fun h5=>?_⟩
 ·rw [show ((!(decide (x.low < c.lo) && decide (c.lo≤x.high)) || (c.lo.tmod (qE x lev) == 0)) && (!(decide (x.low≤c.hi) && decide (c.hi < x.high)) || ((c.hi + 1).tmod (qE x lev) == 0))) = true by grind]
  exact .oA [] []
 refine ⟨fun h=>by omega,fun _=>?_⟩
 refine C1.im (qr2 x lev (by omega) (by omega)) (by rfl) (by rfl) ?_
 generalize qE x lev = w at w1 w2 ⊢
 have hF:((!(decide (x.low < c.lo) && decide (c.lo≤x.high)) || (c.lo.tmod w == 0)) && (!(decide (x.low≤c.hi) && decide (c.hi < x.high)) || ((c.hi + 1).tmod w == 0))) = (((max c.lo x.low == x.low) || (qA (max c.lo x.low) w * w == max c.lo x.low)) && ((min c.hi x.high == x.high) || (qA (min c.hi x.high + 1) w * w == min c.hi x.high + 1))):=by
  rw [zj5 (by omega),zj5 (by omega)]
  congr 1
  ·by_cases k:x.low < c.lo
   ·rw [show max c.lo x.low = c.lo by omega,decide_eq_true k,decide_eq_true (show c.lo≤x.high by omega),beq_eq_false_iff_ne.2 (show c.lo≠x.low by omega)]
    rfl
   ·rw [show max c.lo x.low = x.low by omega,decide_eq_false k,beq_self_eq_true]
    simp
  ·by_cases k:c.hi < x.high
   ·rw [show min c.hi x.high = c.hi by omega,decide_eq_true k,decide_eq_true (show x.low≤c.hi by omega),beq_eq_false_iff_ne.2 (show c.hi≠x.high by omega)]
    rfl
   ·rw [show min c.hi x.high = x.high by omega,decide_eq_false k,beq_self_eq_true]
    simp
 rw [hF]
 have hwm:IntKind.i64.wrap (min c.hi x.high + 1) = min c.hi x.high + 1:=IntWalk.i64_in _ (by omega)
 refine sW ?_
 refine C2.im (fun _=>Wk (max c.lo x.low) w (by omega) (by omega)) (fun _=>rfl) (by rfl) ?_
 simp only [tZ,↓un_u,simprocAttr,hwm]
 refine C2.im (fun _=>Wk (min c.hi x.high + 1) w (by omega) (by omega)) (fun _=>rfl) (by rfl) ?_
 simp only [tZ,↓un_u,simprocAttr,hwm]
 repeat (first | refine ⟨by omega,?_⟩ | refine ⟨by kernel_rfl,?_⟩)
 exact .oA [] []
end Go.Proofs
namespace Go.Proofs
open Go Go.TL
set_option maxRecDepth 4000
set_option maxHeartbeats 8000000
def canF (f:Nat→Int):Nat→List Pk
 | 0=>[]
 | n + 1=>canF f n ++ (if 0 < f n then [⟨n,f n⟩] else [])
theorem Km {f g:Nat→Int}:∀ {n:Nat},(∀ k,k < n→f k = g k)→canF f n = canF g n
 | 0,_=>rfl
 | n + 1,h=>by rw [canF,canF,Km fun k hk=>h k (by omega),h n (by omega)]
theorem qY0 (f:Nat→Int):∀ n,(canF f n).length≤n
 | 0=>Nat.le_refl _
 | n + 1=>by
   have:=qY0 f n
   rw [canF,List.length_append]
   split <;> simp <;> omega
theorem qF8 {f:Nat→Int}:∀ {n:Nat},(∀ k,k < n→f k≤0)→canF f n = []
 | 0,_=>rfl
 | n + 1,h=>by
   have:=h n (by omega)
   rw [canF,qF8 fun k hk=>h k (by omega),if_neg (by omega)];rfl
theorem zj6 {f:Nat→Int} {n:Nat}:∀ d,(∀ k,n≤k→k < n + d→f k≤0)→canF f (n + d) = canF f n
 | 0,_=>rfl
 | d + 1,h=>by
   have:=h (n + d) (by omega) (by omega)
   rw [show n + (d + 1) = n + d + 1 from rfl,canF,if_neg (by omega),List.append_nil,zj6 d fun k h1 h2=>h k h1 (by omega)]
theorem We {f:Nat→Int} {p:Pk}:∀ {n:Nat},p∈canF f n↔∃ k,k < n∧0 < f k∧p = ⟨k,f k⟩
 | 0=>by simp [canF]
 | n + 1=>by
   rw [canF,List.mem_append,We]
   constructor
   ·rintro (⟨k,h1,h2,h3⟩ | h)
    ·exact ⟨k,by omega,h2,h3⟩
    ·split at h
     ·rename_i h2;exact ⟨n,by omega,h2,by simpa using h⟩
     ·simp at h
   ·rintro ⟨k,h1,h2,h3⟩
    by_cases e:k = n
    ·subst e;right;rw [if_pos h2];simpa using h3
    ·exact .inl ⟨k,by omega,h2,h3⟩
def upd (f:Nat→Int) (c:Nat) (v:Int):Nat→Int:=fun k=>if k = c then max (f k) v else f k
theorem qR0 {f:Nat→Int} (hf:∀ k,0≤f k) (c:Nat) (v:Int):∀ m,∀ x,(canF f m).foldl (WA c v) ([],decide (v≤0)) = x→
 (m≤c→x.2 = decide (v≤0))∧(x.2 = true→x.1 = canF (upd f c v) m)∧(x.2 = false→0 < v∧x.1 ++ (if c < m then [⟨c,v⟩] else []) = canF (upd f c v) m)
 | 0,x,h=>by
   subst h
   refine ⟨fun _=>rfl,fun _=>rfl,fun h=>⟨?_,by rw [if_neg (by omega)];rfl⟩⟩
   have:=of_decide_eq_false h
   omega
 | m + 1,x,h=>by
   rw [canF,List.foldl_append] at h
   obtain ⟨i1,i2,i3⟩:=qR0 hf c v m _ rfl
   generalize (canF f m).foldl (WA c v) ([],decide (v≤0)) = y at h i1 i2 i3
   obtain ⟨l,b⟩:=y
   dsimp only at i1 i2 i3
   have hm:=hf m
   by_cases h0:0 < f m
   ·rw [if_pos h0,List.foldl_cons,List.foldl_nil] at h
    unfold WA at h
    dsimp only at h
    rcases Nat.lt_trichotomy m c with q | q | q
    ·rw [if_neg (by omega),if_neg (by omega)] at h
     subst h
     have hu:upd f c v m = f m:=by rw [upd,if_neg (by omega)]
     refine ⟨fun _=>i1 (by omega),fun e=>?_,fun e=>⟨(i3 e).1,?_⟩⟩
     ·dsimp only at e ⊢
      rw [i2 e,canF,hu,if_pos h0]
     ·dsimp only at e ⊢
      have:=(i3 e).2
      rw [if_neg (by omega),List.append_nil] at this
      rw [if_neg (by omega),List.append_nil,this,canF,hu,if_pos h0]
    ·subst q
     rw [if_pos rfl,if_neg (show ¬ ((m:Int) > m∧b = false) from fun h=>by omega)] at h
     subst h
     have hu:upd f m v m = max (f m) v:=by rw [upd,if_pos rfl]
     refine ⟨fun e=>by omega,fun _=>?_,fun e=>by simp at e⟩
     dsimp only
     have:l = canF (upd f m v) m:=by
      cases b with
      | true=>exact i2 rfl
      | false=>
        have:=(i3 rfl).2
        rw [if_neg (by omega),List.append_nil] at this
        exact this
     rw [this,canF,hu,if_pos (by omega)]
    ·have hu:upd f c v m = f m:=by rw [upd,if_neg (by omega)]
     have hc:((m:Int) > (c:Int)):=by omega
     cases b with
     | true=>
       rw [if_neg (show ¬ ((m:Int) = c) by omega),if_neg (show ¬ ((m:Int) > c∧true = false) from fun h=>by simp at h)] at h
       subst h
       refine ⟨fun e=>by omega,fun _=>?_,fun e=>by simp at e⟩
       dsimp only
       rw [i2 rfl,canF,hu,if_pos h0]
     | false=>
       rw [if_neg (show ¬ ((m:Int) = c) by omega),if_pos ⟨hc,rfl⟩] at h
       subst h
       refine ⟨fun e=>by omega,fun _=>?_,fun e=>by simp at e⟩
       dsimp only
       have:=(i3 rfl).2
       rw [if_pos q] at this
       rw [this,canF,hu,if_pos h0]
   ·rw [if_neg h0,List.foldl_nil] at h
    subst h
    dsimp only
    have f0:f m = 0:=by omega
    by_cases q:m = c
    ·subst q
     have hu:upd f m v m = max 0 v:=by rw [upd,if_pos rfl,f0]
     refine ⟨fun e=>by omega,fun e=>?_,fun e=>⟨(i3 e).1,?_⟩⟩
     ·have hv:v≤0:=by
       have:=i1 (Nat.le_refl _)
       rw [e] at this
       exact of_decide_eq_true this.symm
      rw [i2 e,canF,hu,if_neg (by omega),List.append_nil]
     ·have:=(i3 e).2
      rw [if_neg (by omega),List.append_nil] at this
      have hv:=(i3 e).1
      rw [this,canF,hu,if_pos (by omega),if_pos (by omega),show max 0 v = v by omega]
    ·have hu:upd f c v m = f m:=by rw [upd,if_neg q]
     refine ⟨fun e=>i1 (by omega),fun e=>?_,fun e=>⟨(i3 e).1,?_⟩⟩
     ·rw [i2 e,canF,hu,if_neg h0,List.append_nil]
     ·have:=(i3 e).2
      rw [canF,hu,if_neg h0,List.append_nil,← this]
      by_cases q2:c < m
      ·rw [if_pos q2,if_pos (by omega)]
      ·rw [if_neg q2,if_neg (by omega)]
theorem qR1 {f:Nat→Int} (hf:∀ k,0≤f k) {c n:Nat} (hc:c < n) (v:Int):KX (canF f n) c v = canF (upd f c v) n:=by
 obtain ⟨_,i2,i3⟩:=qR0 hf c v n _ rfl
 unfold KX
 dsimp only
 split
 ·rename_i h;exact i2 h
 ·rename_i h
  have:=(i3 (by simpa using h)).2
  rw [if_pos hc] at this
  exact this
abbrev lvF (lv:List Int):Nat→Int:=fun k=>lv.getD k 0
theorem jr0 {lv:List Int} {c:Nat} (hc:c < lv.length) (v:Int):lvF (lv.set c (max lv[c] v)) = upd (lvF lv) c v:=by
 funext k
 unfold lvF upd
 simp only [List.getD_eq_getElem?_getD,List.getElem?_set]
 by_cases e:c = k
 ·subst e
  simp [hc]
 ·rw [if_neg e,if_neg (fun h=>e h.symm)]
theorem jr1 {lv:List Int} (h:∀ x∈lv,0≤x) (k:Nat):0≤lvF lv k:=by
 unfold lvF
 by_cases hk:k < lv.length
 ·rw [qh hk];exact h _ (List.getElem_mem hk)
 ·simp [List.getD,List.getElem?_eq_none (show lv.length≤k by omega)]
theorem je9 (n:Nat):canF (lvF (List.replicate n 0)) n = []:=qF8 fun k hk=>by
 unfold lvF
 rw [qh (by simpa using hk),List.getElem_replicate];omega
theorem qr3 (s:Sch) (hs:Qp s) (c:Cnd):Spc Tryz.prog yG [schT s,cnT c] [] (vPs (zO s c)) []:=by
 refine qd qi7 mixm (by simp) fun e _ hst=>qj ?_
 unfold yj
 refine sW ?_
 refine C1.im (yZ s hs c) (by rfl) (by rfl) ?_
 simp only [tZ,↓un_u,simprocAttr,bne_iff_ne,bne_eq_false_iff_eq]
 refine ⟨fun h=>?_,fun h=>?_⟩
 ·rw [zO,if_pos h]
  exact .oA [] []
 obtain ⟨hE,k2,k3,k4⟩:=KZ h
 have hok:=qJ hE
 have hnc:=hok.nc
 have hal:=qq5 c 41 (by omega) k2
 have hao:=qQ4 c k4
 have hN:zO s c = (atsC c).foldl (qv9 s) []:=by rw [zO,if_neg (by rw [h];simp)];rfl
 rw [hN]
 refine ⟨by omega,?_⟩
 refine C1.im (Kl c 41 (by omega) (by omega) k2) (by rfl) (by rfl) ?_
 generalize atsC c = L at hal hao ⊢
 refine sW ?_
 refine qw mixm (α:=Nat×List Int) [23] (fun y=>y.1≤L.length∧y.2.length = s.cols.length∧(∀ x∈y.2,0≤x)∧canF (lvF y.2) s.cols.length = (L.take y.1).foldl (qv9 s) []) (fun y=>[(23,vI y.1)]) (fun y=>[(4096,.arr 2 [schT s] false),(16396,.arr 1 (y.2.map vI) false)]) (fun y=>L.length - y.1) (0,List.replicate s.cols.length 0) ⟨by simp,by simp,fun x hx=>by rw [(List.mem_replicate.1 hx).2];omega,je9 _⟩ ?_ fun y hy=>?_
 ·rw [List.map_replicate]
  refine .of [(4096,some 4096),(16396,some 16396)] [] rfl (by first | rfl | (rw [hst];rfl)) ?_ ?_
  all_goals (try simp only [tL,simprocAttr,List.map_append,List.map_cons,List.map_nil,List.cons_append,List.nil_append,Int.toNat_natCast,jl7])
  all_goals (try (repeat' (first | exact zh | (apply zU;intro _;exact ⟨rfl,rfl⟩) | (apply qK;intro _;exact ⟨rfl,rfl⟩) | with_reducible apply qX | with_reducible refine qZ ⟨rfl,rfl⟩ ?_ | exact zn | with_reducible apply qR | with_reducible refine qQ ⟨rfl,rfl,?_⟩ ?_ | with_reducible apply And.intro | exact qS rfl | exact qS (by assumption) | (refine ⟨⟨?_,rfl,?_,rfl,?_⟩,trivial⟩ <;> first | (simp;done) | (apply qK;intro _;exact ⟨rfl,rfl⟩)) | trivial | rfl | (rw [qk (by omega)]) | omega)))
 obtain ⟨i,lv⟩:=y
 obtain ⟨y1,y2,y3,y4⟩:=hy
 dsimp only at y1 y2 y3 y4
 refine sD ?_
 refine ⟨fun h3=>?_,fun h3=>?_⟩
 ·have hi2:i < L.length:=by omega
  have hwi:=qk (i:=i) (by omega)
  obtain ⟨hnd,ha⟩:=hao _ (List.getElem_mem hi2)
  obtain ⟨n1,n2,n3⟩:=Ki hE hnd ha
  have h59:=qe4 (c:=L[i].col) hE
  obtain ⟨_,c1,c2,_⟩:=kV (s:=s) (c:=L[i].col) (by omega)
  have hstep:(L.take (i + 1)).foldl (qv9 s) [] = KX ((L.take i).foldl (qv9 s) []) L[i].col (decN s L[i]):=by
   rw [qM hi2,List.foldl_append];rfl
  simp only [tZ,↓un_u,simprocAttr,Int.toNat_natCast,qe hi2,zx]
  refine ⟨by omega,?_⟩
  generalize L[i] = a at hnd ha n1 n2 n3 h59 c1 c2 hstep ⊢
  refine qw mixm (α:=Nat) [8] (fun n=>n≤decN s a) (fun n=>[(8,vI n)]) (fun n=>[(4096,.arr 2 [schT s] false),(16396,.arr 1 (lv.map vI) false),(28680,.arr 6 [cnT a] false)]) (fun n=>decN s a - n) 0 (by omega) ?_ fun n hn=>?_
  ·exact .oA [(4096,some 4096),(16396,some 16396),(28680,some 28680)] []
  have hwn:=qk (i:=n) (by omega)
  refine sW ?_
  refine C1.im (qa1 s hE a hnd ha n (by omega)) (by rfl) (by rfl) ?_
  simp only [tZ,↓un_u,simprocAttr,Bool.not_eq_true',Bool.not_eq_false',hwn]
  refine ⟨fun h4=>?_,fun h4=>?_⟩
  ·have:n≠decN s a:=fun e=>by rw [e,n2] at h4;cases h4
   refine ⟨n + 1,by omega,by omega,?_⟩
   exact .oA [(4096,some 4096),(16396,some 16396),(28680,some 28680)] []
  ·have:n = decN s a:=by
    refine Nat.le_antisymm hn (Nat.le_of_not_lt fun e=>?_)
    rw [n3 n e] at h4;cases h4
   subst this
   obtain ⟨q,hq⟩:=Int.eq_ofNat_of_zero_le (show 0≤a.col by omega)
   have hq2:q < lv.length:=by omega
   simp only [tZ,↓un_u,simprocAttr,hq,Int.toNat_natCast,qe hq2,qQ9,hwi,show ∀ a b:Int,repl (vI a) 0 (vI b) = vI b from fun _ _=>rfl]
   repeat (first | refine ⟨by omega,?_⟩ | refine ⟨by kernel_rfl,?_⟩)
   refine ⟨(i + 1,lv.set q (max lv[q] (decN s a))),⟨by dsimp only;omega,by rw [List.length_set];exact y2,fun x hx=>?_,?_⟩,by dsimp only;omega,?_⟩
   ·rcases List.mem_or_eq_of_mem_set hx with h5 | h5
    ·exact y3 x h5
    ·rw [h5];omega
   ·dsimp only
    rw [hstep,← y4,hq,qR1 (jr1 y3) (by omega),jr0 hq2]
   ·rw [← List.map_set]
    exact .oA [(4096,some 4096),(16396,some 16396)] []
 ·have hil:i = L.length:=by omega
  subst hil
  rw [List.take_length] at y4
  rw [← y4]
  simp only [Int.toNat_natCast]
  refine ⟨y2,?_⟩
  rw [← y2]
  refine qw mixm (α:=Nat) [48,9] (fun i=>i≤lv.length) (fun i=>[(9,.asl 1 (canF (lvF lv) i).length),(48,vI i)]) (fun i=>[(16396,.arr 1 (lv.map vI) false),(1,.arr 2 ((canF (lvF lv) i).map pkT) false)]) (fun i=>lv.length - i) 0 (by omega) ?_ fun j hj=>?_
  ·exact .oA [(16396,some 16396),(1,none)] []
  have hcl:=qY0 (lvF lv) j
  refine sD ?_
  refine ⟨fun h5=>?_,fun h5=>?_⟩
  ·have hj2:j < lv.length:=by omega
   have hwj:=qk (i:=j) (by omega)
   have hg:lvF lv j = lv[j]:=qh hj2
   have hc:canF (lvF lv) (j + 1) = canF (lvF lv) j ++ (if 0 < lv[j] then [⟨(j:Nat),lv[j]⟩] else []):=by rw [canF,hg]
   simp only [tZ,↓un_u,simprocAttr,Int.toNat_natCast,qe hj2,hwj,gt_iff_lt,tD]
   refine ⟨by omega,by omega,fun h6=>?_,fun h6=>?_⟩
   ·rw [if_pos h6] at hc
    refine ⟨by omega,j + 1,by omega,by omega,?_⟩
    rw [hc,List.map_append,List.length_append]
    exact .oA [(16396,some 16396),(1,some 1)] []
   ·rw [if_neg h6,List.append_nil] at hc
    refine ⟨j + 1,by omega,by omega,?_⟩
    rw [hc]
    exact .oA [(16396,some 16396),(1,some 1)] []
  ·rw [show lv.length = j by omega]
   exact .oA [] [1]
theorem WC (p n:Pk):Spc Tryz.prog zV [pkT p,.ip (pkT n).cells] [] (vB ((p.col == n.col) && decide (p.lev≥n.lev))) []:=by
 refine qd KO mixm (by simp) fun e _ hst=>qj ?_
 unfold jL
 refine sW ?_
 exact .oA [] []
theorem Wf (p:Pk→Bool) (f:FuncId) (caps:List T) (hcap:imL caps = true) (l:List Pk) (hf:∀ y∈l,Spc Tryz.prog f (pkT y :: caps) [] (vB (p y)) []) (hl:l.length < 4611686018427387904) :
 Spc Tryz.prog jI [.sl 2 (l.map pkT),.clo f caps] [] (vI (idxI p l)) []:=by
 refine qd Kd mixm (by simp) fun e _ hst=>qj ?_
 unfold jw
 refine sW ?_
 refine qw mixm (α:=Nat) [8] (fun i=>i≤l.length∧((l.take i).any p = false)) (fun i=>[(8,vI i)]) (fun i=>[]) (fun i=>l.length - i) 0 ⟨by omega,?_⟩ ?_ fun i hi=>?_
 ·simp
 ·exact .oA [] []
 simp only [tZ,↓un_u,simprocAttr,decide_eq_true_eq,decide_eq_false_iff_not]
 refine ⟨fun h=>?_,fun h=>?_⟩
 ·have hi2:i < l.length:=by omega
  have hwi:=qk (i:=i) (by omega)
  simp only [tZ,↓un_u,simprocAttr,Int.toNat_natCast,qe hi2,hwi,qn3]
  refine ⟨by omega,?_⟩
  refine C1.im (hf l[i] (List.getElem_mem hi2)) (qg8 rfl hcap) rfl ?_
  refine sW ?_
  refine ⟨fun h3=>?_,fun h3=>⟨i + 1,⟨by omega,jB hi2 hi.2 h3⟩,by omega,?_⟩⟩
  ·rw [idxI,if_pos (qs9 hi2 h3),JX hi2 hi.2 h3]
   exact .imR rfl rfl
  ·exact .oA [] []
 ·have h2:i = l.length:=by omega
  have h3:=hi.2
  rw [h2,List.take_length] at h3
  rw [idxI,if_neg (by rw [h3];simp)]
  exact .imR rfl rfl
theorem zZ (p:Pk→Bool) (f:FuncId) (caps:List T) (hcap:imL caps = true) (l:List Pk) (hf:∀ y∈l,Spc Tryz.prog f (pkT y :: caps) [] (vB (p y)) []) (hl:l.length < 4611686018427387904) :
 Spc Tryz.prog zf [.sl 2 (l.map pkT),.clo f caps] [] (vB (l.any p)) []:=by
 refine qd ZF mixm (by simp) fun e _ hst=>qj ?_
 unfold zS
 refine sW ?_
 refine C1.im (Wf p f caps hcap l hf hl) (qx0 rfl hcap) rfl ?_
 refine sW ?_
 rw [show decide (idxI p l≥0) = l.any p from qT6 p l]
 exact .imR rfl rfl
theorem qa2 (n:Pk) (a:List Pk) (ha:a.length < 4611686018427387904):Spc Tryz.prog jl [pkT n,.ip [vPs a]] [] (vB (!(a.any fun y=>(y.col == n.col) && decide (y.lev≥n.lev)))) []:=by
 refine qd Yc mixm (by simp) fun e _ hst=>qj ?_
 unfold ko
 refine sW ?_
 have hCF:=zZ (fun y=>(y.col == n.col) && decide (y.lev≥n.lev)) zV [.ip (pkT n).cells] rfl a (fun y _=>WC y n) ha
 refine C1.lend [4096] hCF ?_ (by rfl) (by rfl) ?_
 ·all_goals (try simp only [tL,simprocAttr,List.map_append,List.map_cons,List.map_nil,List.cons_append,List.nil_append])
  all_goals (try (repeat' (first | exact zh | (apply zU;intro _;exact ⟨rfl,rfl⟩) | (apply qK;intro _;exact ⟨rfl,rfl⟩) | with_reducible apply qX | with_reducible refine qZ ⟨rfl,rfl⟩ ?_ | exact zn | with_reducible apply qR | with_reducible refine qQ ⟨rfl,rfl,?_⟩ ?_ | with_reducible apply And.intro | exact qS rfl | exact qS (by assumption) | (refine ⟨⟨?_,rfl,?_,rfl,?_⟩,trivial⟩ <;> first | (simp;done) | (apply qK;intro _;exact ⟨rfl,rfl⟩)) | trivial | rfl | (rw [qk (by omega)]) | omega)))
  simp only [ltP]
  exact ⟨rfl,by decide,rfl,qZ ⟨rfl,rfl⟩ zn⟩
 refine sW ?_
 exact .oA [] []
theorem qm1 (a b:List Pk) (ha:a.length < 4611686018427387904) (hb:b.length < 4611686018427387904):Spc Tryz.prog wR [vPs a,vPs b] [] (vB (covB b a)) []:=by
 refine qd qc5 mixm (by simp) fun e _ hst=>qj ?_
 unfold wA
 refine sW ?_
 have hCF:=zZ (fun n=>!(a.any fun y=>(y.col == n.col) && decide (y.lev≥n.lev))) jl [.ip [vPs a]] rfl b (fun n _=>qa2 n a ha) hb
 refine C1.lend [4096] hCF ?_ (by rfl) (by rfl) ?_
 ·all_goals (try simp only [tL,simprocAttr,List.map_append,List.map_cons,List.map_nil,List.cons_append,List.nil_append])
  all_goals (try (repeat' (first | exact zh | (apply zU;intro _;exact ⟨rfl,rfl⟩) | (apply qK;intro _;exact ⟨rfl,rfl⟩) | with_reducible apply qX | with_reducible refine qZ ⟨rfl,rfl⟩ ?_ | exact zn | with_reducible apply qR | with_reducible refine qQ ⟨rfl,rfl,?_⟩ ?_ | with_reducible apply And.intro | exact qS rfl | exact qS (by assumption) | (refine ⟨⟨?_,rfl,?_,rfl,?_⟩,trivial⟩ <;> first | (simp;done) | (apply qK;intro _;exact ⟨rfl,rfl⟩)) | trivial | rfl | (rw [qk (by omega)]) | omega)))
  simp only [ltP]
  exact ⟨rfl,by decide,rfl,qZ ⟨rfl,rfl⟩ zn⟩
 refine sW ?_
 rw [show (!(b.any fun n=>!(a.any fun y=>(y.col == n.col) && decide (y.lev≥n.lev)))) = covB b a by rw [covB,List.not_any_eq_all_not];simp]
 exact .oA [] []
end Go.Proofs
namespace Go.Proofs
open Go Go.TL
def ordB (l:List (List Int)):Bool:=(List.range l.length).all fun i=>decide (0 < (l.getD i []).length) && (decide (i = 0) || decide (hd (l.getD (i - 1) []) < hd (l.getD i [])))
def hasK (l:List (List Int)) (k:Int):Bool:=l.any fun r=>hd r == k
def appR (a:List (List Int)) (g:List Int) (rs:List (List Int)):List (List Int):=rs.foldl putR (a.filter fun r=>!g.contains (hd r))
def ascI (l:List Int):Bool:=(List.range l.length).all fun i=>asc2 l i
def appE (a:Ext) (c:Chg):Int:=
 if ordB a.rows = false∨ordB c.rows = false∨ascI c.gone = false∨(c.rows.any fun r=>decide (r.length≠a.picks.length + 1)) = true then 11
 else if (c.gone.any fun k=>!hasK a.rows k) = true then 21 else if (c.gone.any fun k=>hasK c.rows k) = true then 10 else 0
structure ExtOk (x:Ext):Prop where
 ord:ordB x.rows = true
 len:∀ r∈x.rows,r.length = x.picks.length + 1
end Go.Proofs
namespace Go.Proofs
open Go Go.TL
set_option maxRecDepth 4000
set_option maxHeartbeats 8000000
open So
def RwSm (l:List (List Int)):Prop:=l.length≤1000000∧∀ r∈l,r.length * 8≤140737488355328
structure ExtSm (x:Ext):Prop where
 rows:RwSm x.rows
 picks:x.picks.length * 16≤140737488355328
structure ChgSm (c:Chg):Prop where
 rows:RwSm c.rows
 gone:c.gone.length≤1000000
end Go.Proofs
namespace Go.Proofs
open Go Go.TL
set_option maxHeartbeats 8000000
open So
def idxN (n:Int):List Int→Nat
 | []=>0
 | x :: r=>if x = n then 0 else idxN n r + 1
theorem zW6 {n:Int}:∀ {l:List Int} {i:Nat} (h:i < l.length),n∉l.take i→l[i] = n→idxN n l = i
 | [],i,h,_,_=>by simp at h
 | x :: r,0,h,_,hp=>by simp at hp;simp [idxN,hp]
 | x :: r,i + 1,h,h1,hp=>by
   simp only [List.take_succ_cons,List.mem_cons,not_or] at h1
   simp only [idxN]
   rw [if_neg (fun e=>h1.1 e.symm),zW6 (l:=r) (i:=i) (by simpa using h) h1.2 (by simpa using hp)]
def zA8 (l:List Int) (n:Int):Int:=if n∈l then idxN n l else -1
theorem qm2 (l:List Int) (n:Int) (hl:l.length < 4611686018427387904):Spc Tryz.prog wZ [vIs l,vI n] [] (vI (zA8 l n)) []:=by
 refine qd qd4 mixm (by simp) fun e _ hst=>qj ?_
 unfold wC
 refine sW ?_
 refine qw mixm (α:=Nat) [8] (fun i=>i≤l.length∧(n∉l.take i)) (fun i=>[(8,vI i)]) (fun i=>[]) (fun i=>l.length - i) 0 ⟨by omega,?_⟩ ?_ fun i hi=>?_
 ·simp
 ·exact .oA [] []
 simp only [tZ,↓un_u,simprocAttr,decide_eq_true_eq,decide_eq_false_iff_not]
 refine ⟨fun h=>?_,fun h=>?_⟩
 ·have hi2:i < l.length:=by omega
  have hwi:=qk (i:=i) (by omega)
  simp only [tZ,↓un_u,simprocAttr,Int.toNat_natCast,qe hi2,hwi,beq_iff_eq,beq_eq_false_iff_ne]
  refine ⟨by omega,fun h3=>?_,fun h3=>⟨i + 1,⟨by omega,?_⟩,by omega,?_⟩⟩
  ·have hm:n∈l:=by rw [h3];exact List.getElem_mem hi2
   rw [zA8,if_pos hm,zW6 hi2 hi.2 h3.symm]
   exact .imR rfl rfl
  ·rw [qM hi2,List.mem_append]
   rintro (h4 | h4)
   ·exact hi.2 h4
   ·simp at h4;exact h3 h4
  ·exact .oA [] []
 ·have h2:i = l.length:=by omega
  have h3:=hi.2
  rw [h2,List.take_length] at h3
  rw [zA8,if_neg h3]
  exact .imR rfl rfl
theorem Qs (l:List Int) (n:Int) (hl:l.length < 4611686018427387904):Spc Tryz.prog jd [vIs l,vI n] [] (vB (l.contains n)) []:=by
 refine qd Wu mixm (by simp) fun e _ hst=>qj ?_
 unfold jX
 refine sW ?_
 refine C1.im (qm2 l n hl) rfl (by rfl) ?_
 refine sW ?_
 refine .imR ?_ rfl
 unfold zA8
 by_cases h:n∈l
 ·rw [if_pos h,List.contains_iff_mem.2 h];simp
 ·rw [if_neg h]
  cases hc:l.contains n
  ·simp
  ·exact absurd (List.contains_iff_mem.1 hc) h
end Go.Proofs
namespace Go.Proofs
open Go Go.TL
set_option maxRecDepth 4000
set_option maxHeartbeats 8000000
def kiI (s:Sch) (c:Int):Int:=if c < 0∨c≥s.cols.length then 0 else (qg s c.toNat).kind
theorem jm0 {s:Sch} {c k:Int} (hk:k≠0):(kiI s c == k) = isB s c k:=by
 rw [Bool.eq_iff_iff,beq_iff_eq,zt,kiI]
 split
 ·constructor
  ·intro h;omega
  ·intro h;omega
 ·constructor
  ·intro h;exact ⟨by omega,by omega,h⟩
  ·intro h;exact h.2.2
theorem zj7 {s:Sch} {c k:Int} (hk:k≠0):isB s c k = false↔kiI s c≠k:=by rw [← jm0 hk,beq_eq_false_iff_ne]
theorem jr2 {s:Sch} {c k:Int} (hk:k≠0):isB s c k = true↔kiI s c = k:=by rw [← jm0 hk,beq_iff_eq]
theorem zI (s:Sch) (c:Int):Spc Tryz.prog zg [schT s,vI c] [] (vI (kiI s c)) []:=by
 refine qd Yi mixm (by simp) fun e _ hst=>qj ?_
 unfold ku
 refine sD ?_
 refine ⟨fun h=>?_,fun h=>?_⟩
 ·rw [kiI,if_pos (by omega)]
  exact .oA [] []
 obtain ⟨i,rfl⟩:=Int.eq_ofNat_of_zero_le (show 0≤c by omega)
 have hi:i < s.cols.length:=by omega
 rw [kiI,if_neg (by omega),Int.toNat_natCast,qg,qh hi]
 simp only [tZ,↓un_u,simprocAttr,Int.toNat_natCast,qe hi]
 refine ⟨by omega,?_⟩
 exact .oA [] []
theorem empC (c:Cnd):((c.op == 0) && (c.col == 0) && (c.code == 0) && (c.lo == 0) && (c.hi == 0) && ((c.kids.length:Int) == 0)) = qe2 c cnd0:=by
 rw [jd5]
 show _ = ((c.op == 0) && (c.col == 0) && (c.code == 0) && (c.lo == 0) && (c.hi == 0) && zi2 c.kids [])
 congr 1
 cases c.kids with
 | nil=>rfl
 | cons x r=>
   rw [zi2]
   exact beq_eq_false_iff_ne.2 (by simp;omega)
theorem ZS (c:Cnd):Spc Tryz.prog jH [cnT c] [] (vB (qe2 c cnd0)) []:=by
 refine qd YX mixm (by simp) fun e _ hst=>qj ?_
 unfold kU
 refine sW ?_
 rw [← empC]
 exact .oA [] []
theorem Yu (x y:Pk):Spc Tryz.prog je [pkT x,.ip (pkT y).cells] [] (vB (x.col == y.col)) []:=by
 refine qd Ww mixm (by simp) fun e _ hst=>qj ?_
 unfold jY
 refine sW ?_
 exact .oA [] []
def tabE (s:Sch) (q:Qst):Int:=if JO s q.dims≠0 then JO s q.dims else if q.meas≠-1∧isB s q.meas 3 = false then 7 else if 0 < q.terms.length∨qe2 q.event cnd0 = false then 11 else 0
theorem qf0 (s:Sch) (hs:Qp s) (q:Qst):Spc Tryz.prog wv [schT s,qstT q] [] (vI (tabE s q)) []:=by
 have hT:tabE s q = if JO s q.dims≠0 then JO s q.dims else if q.meas≠-1∧isB s q.meas 3 = false then 7 else if 0 < q.terms.length∨qe2 q.event cnd0 = false then 11 else 0:=rfl
 have hTD:JO s q.dims≠0→tabE s q = JO s q.dims:=fun h=>by rw [hT,if_pos h]
 refine qd YR mixm (by simp) fun e _ hst=>qj ?_
 unfold kR
 refine sD ?_
 refine ⟨fun h=>?_,fun h=>?_⟩
 ·have:JO s q.dims = 1:=by rw [JO,if_pos (by omega)]
  rw [hTD (by rw [this];simp),this]
  exact .oA [] []
 have hD:JO s q.dims = jz (dimE s q.dims) q.dims.length:=by rw [JO,if_neg (by omega)]
 generalize tabE s q = E at hT hTD ⊢
 refine qw mixm (α:=Nat) [21] (fun i=>i≤q.dims.length∧(jz (dimE s q.dims) i = 0)) (fun i=>[(21,vI i)]) (fun i=>[(4096,.arr 2 [schT s] false),(4100,.arr 17 [qstT q] false)]) (fun i=>q.dims.length - i) 0 ⟨by omega,?_⟩ ?_ fun i hi=>?_
 ·rfl
 ·exact .oA [(4096,some 4096),(4100,some 4100)] []
 simp only [tZ,↓un_u,simprocAttr,decide_eq_true_eq,decide_eq_false_iff_not]
 refine ⟨fun h=>?_,fun h=>?_⟩
 ·have hi2:i < q.dims.length:=by omega
  have hpi:pkAt q.dims i = q.dims[i]:=by rw [pkAt,qh hi2]
  have hstep:=YH hi.2 hi2
  have hnext:=yW hi.2
  have hA:dimE s q.dims i = if wJ s q.dims[i]≠0 then wJ s q.dims[i] else if isB s q.dims[i].col 2 = false then 7 else if ((q.dims.take i).any fun x=>x.col == q.dims[i].col) = true then 10 else 0:=by rw [dimE,hpi]
  rw [← hD] at hstep
  have hbad:dimE s q.dims i≠0→E = dimE s q.dims i:=fun h=>by rw [hTD (by rw [hstep h];exact h),hstep h]
  have hi2:i < q.dims.length:=by omega
  have hwi:=qk (i:=i) (by omega)
  simp only [tZ,↓un_u,simprocAttr,Int.toNat_natCast,qe hi2,hwi]
  refine ⟨by omega,?_⟩
  refine C1.im (qX4 s hs q.dims[i]) (by rfl) (by rfl) ?_
  simp only [tZ,↓un_u,simprocAttr,bne_iff_ne,bne_eq_false_iff_eq]
  refine ⟨fun h3=>?_,fun h3=>?_⟩
  ·rw [if_pos h3] at hA
   rw [hbad (by rw [hA];exact h3),hA]
   exact .oA [] []
  rw [if_neg (by rw [h3];simp)] at hA
  refine C1.im (zI s q.dims[i].col) (by rfl) (by rfl) ?_
  have hki:=zj7 (s:=s) (c:=q.dims[i].col) (k:=2) (by decide)
  simp only [tZ,↓un_u,simprocAttr,bne_iff_ne,bne_eq_false_iff_eq]
  refine ⟨fun h4=>?_,fun h4=>?_⟩
  ·rw [if_pos (hki.2 h4)] at hA
   rw [hbad (by rw [hA];simp),hA]
   exact .oA [] []
  rw [if_neg (fun h=>hki.1 h h4)] at hA
  have hCF:=zZ (fun x=>x.col == q.dims[i].col) je [.ip (pkT q.dims[i]).cells] rfl (q.dims.take i) (fun x _=>Yu x q.dims[i]) (by rw [List.length_take];omega)
  refine ⟨by omega,?_⟩
  rw [qn7,zg1]
  refine C1.lend [24588] hCF ?_ (by rfl) (by rfl) ?_
  ·all_goals (try simp only [tL,simprocAttr,List.map_append,List.map_cons,List.map_nil,List.cons_append,List.nil_append])
   all_goals (try (repeat' (first | exact zh | (apply zU;intro _;exact ⟨rfl,rfl⟩) | (apply qK;intro _;exact ⟨rfl,rfl⟩) | with_reducible apply qX | with_reducible refine qZ ⟨rfl,rfl⟩ ?_ | exact zn | with_reducible apply qR | with_reducible refine qQ ⟨rfl,rfl,?_⟩ ?_ | with_reducible apply And.intro | exact qS rfl | exact qS (by assumption) | (refine ⟨⟨?_,rfl,?_,rfl,?_⟩,trivial⟩ <;> first | (simp;done) | (apply qK;intro _;exact ⟨rfl,rfl⟩)) | trivial | rfl | (rw [qk (by omega)]) | omega)))
   simp only [ltP]
   exact ⟨rfl,by decide,rfl,qZ ⟨rfl,rfl⟩ zn⟩
  simp only [tZ,↓un_u,simprocAttr,hwi]
  refine ⟨fun h5=>?_,fun h5=>?_⟩
  ·rw [if_pos h5] at hA
   rw [hbad (by rw [hA];simp),hA]
   exact .oA [] []
  ·rw [if_neg (by rw [h5];simp)] at hA
   refine ⟨i + 1,⟨by omega,by rw [hnext,hA]⟩,by omega,?_⟩
   exact .oA [(4096,some 4096),(4100,some 4100)] []
 ·have hi2:i = q.dims.length:=by omega
  subst hi2
  rw [← hD] at hi
  rw [if_neg (by rw [hi.2];simp)] at hT
  have hk:=zI s q.meas
  refine C2.im (fun _=>hk) (fun _=>rfl) (by rfl) ?_
  have hki:=zj7 (s:=s) (c:=q.meas) (k:=3) (by decide)
  simp only [tZ,↓un_u,simprocAttr,tD,bne_iff_ne,bne_eq_false_iff_eq]
  refine ⟨fun h5=>?_,fun h5=>?_⟩
  ·rw [if_pos (by grind)] at hT
   rw [hT]
   exact .oA [] []
  rw [if_neg (by grind)] at hT
  refine C2.im (fun _=>ZS q.event) (fun _=>rfl) (by rfl) ?_
  simp only [tZ,↓un_u,simprocAttr,tD,gt_iff_lt,Bool.not_eq_true',Bool.not_eq_false']
  refine ⟨fun h6=>?_,fun h6=>?_⟩
  ·rw [if_pos (by grind)] at hT
   rw [hT]
   exact .oA [] []
  ·rw [if_neg (by grind)] at hT
   rw [hT]
   exact .oA [] []
def modE (s:Sch) (q:Qst):Int:=if isB s q.meas 3 = false then 7 else if yu s q.meas q.terms≠0 then yu s q.meas q.terms else if 0 < q.dims.length∨qe2 q.event cnd0 = false then 11 else 0
theorem qf1 (s:Sch) (q:Qst):Spc Tryz.prog ww [schT s,qstT q] [] (vI (modE s q)) []:=by
 have hT:modE s q = if isB s q.meas 3 = false then 7 else if yu s q.meas q.terms≠0 then yu s q.meas q.terms else if 0 < q.dims.length∨qe2 q.event cnd0 = false then 11 else 0:=rfl
 generalize modE s q = E at hT ⊢
 have hki:=zj7 (s:=s) (c:=q.meas) (k:=3) (by decide)
 refine qd YT mixm (by simp) fun e _ hst=>qj ?_
 unfold kS
 refine sW ?_
 refine C1.im (zI s q.meas) (by rfl) (by rfl) ?_
 simp only [tZ,↓un_u,simprocAttr,tD,bne_iff_ne,bne_eq_false_iff_eq]
 refine ⟨fun h=>?_,fun h=>?_⟩
 ·rw [if_pos (hki.2 h)] at hT
  rw [hT]
  exact .oA [] []
 rw [if_neg (fun k=>hki.1 k h)] at hT
 refine ⟨fun h2=>?_,fun h2=>?_⟩
 ·have:yu s q.meas q.terms = 1:=by rw [yu,if_pos (by omega)]
  rw [this,if_pos (by simp)] at hT
  rw [hT]
  exact .oA [] []
 have hD:yu s q.meas q.terms = jz (zi4 s q.meas q.terms) q.terms.length:=by rw [yu,if_neg (by omega)]
 have hTD:yu s q.meas q.terms≠0→E = yu s q.meas q.terms:=fun h=>by rw [hT,if_pos h]
 refine qw mixm (α:=Nat) [27] (fun i=>i≤q.terms.length∧(jz (zi4 s q.meas q.terms) i = 0)) (fun i=>[(27,vI i)]) (fun i=>[(4096,.arr 2 [schT s] false),(4100,.arr 17 [qstT q] false)]) (fun i=>q.terms.length - i) 0 ⟨by omega,?_⟩ ?_ fun i hi=>?_
 ·rfl
 ·exact .oA [(4096,some 4096),(4100,some 4100)] []
 simp only [tZ,↓un_u,simprocAttr,decide_eq_true_eq,decide_eq_false_iff_not]
 refine ⟨fun h=>?_,fun h=>?_⟩
 ·have hi2:i < q.terms.length:=by omega
  have hpi:q.terms.getD i 0 = q.terms[i]:=qh hi2
  have hstep:=YH hi.2 hi2
  have hnext:=yW hi.2
  have hA:zi4 s q.meas q.terms i = if isB s q.terms[i] 3 = false then 7 else if q.terms[i] = q.meas∨(q.terms.take i).contains q.terms[i] = true then 10 else 0:=by rw [zi4,hpi]
  rw [← hD] at hstep
  have hbad:zi4 s q.meas q.terms i≠0→E = zi4 s q.meas q.terms i:=fun h=>by rw [hTD (by rw [hstep h];exact h),hstep h]
  have hi2:i < q.terms.length:=by omega
  have hwi:=qk (i:=i) (by omega)
  simp only [tZ,↓un_u,simprocAttr,Int.toNat_natCast,qe hi2,hwi]
  refine ⟨by omega,?_⟩
  refine C1.im (zI s q.terms[i]) (by rfl) (by rfl) ?_
  have hki:=zj7 (s:=s) (c:=q.terms[i]) (k:=3) (by decide)
  simp only [tZ,↓un_u,simprocAttr,bne_iff_ne,bne_eq_false_iff_eq]
  refine ⟨fun h4=>?_,fun h4=>?_⟩
  ·rw [if_pos (hki.2 h4)] at hA
   rw [hbad (by rw [hA];simp),hA]
   exact .oA [] []
  rw [if_neg (fun h=>hki.1 h h4)] at hA
  have hCF:=Qs (q.terms.take i) q.terms[i] (by rw [List.length_take];omega)
  refine ⟨fun _=>by omega,?_⟩
  rw [qn7,zg1]
  refine C2.im (fun _=>hCF) (fun _=>rfl) (by rfl) ?_
  simp only [tZ,↓un_u,simprocAttr,hwi,tD,beq_iff_eq,beq_eq_false_iff_ne]
  refine ⟨fun h5=>?_,fun h5=>?_⟩
  ·rw [if_pos h5] at hA
   rw [hbad (by rw [hA];simp),hA]
   exact .oA [] []
  ·rw [if_neg (by grind)] at hA
   refine ⟨i + 1,⟨by omega,by rw [hnext,hA]⟩,by omega,?_⟩
   exact .oA [(4096,some 4096),(4100,some 4100)] []
 ·have hi2:i = q.terms.length:=by omega
  subst hi2
  rw [← hD] at hi
  rw [if_neg (by rw [hi.2];simp)] at hT
  refine C2.im (fun _=>ZS q.event) (fun _=>rfl) (by rfl) ?_
  simp only [tZ,↓un_u,simprocAttr,tD,gt_iff_lt,Bool.not_eq_true',Bool.not_eq_false']
  refine ⟨fun h6=>?_,fun h6=>?_⟩
  ·rw [if_pos (by grind)] at hT
   rw [hT]
   exact .oA [] []
  ·rw [if_neg (by grind)] at hT
   rw [hT]
   exact .oA [] []
def curE (s:Sch) (q:Qst):Int:=if isB s q.meas 3 = false then 7 else if (qg s q.meas.toNat).low < 0 then 2 else if chkC s q.event≠0 then chkC s q.event else if 0 < q.dims.length∨0 < q.terms.length then 11 else 0
theorem qf2 (s:Sch) (hs:Qp s) (q:Qst):Spc Tryz.prog wx [schT s,qstT q] [] (vI (curE s q)) []:=by
 have hki:=zj7 (s:=s) (c:=q.meas) (k:=3) (by decide)
 refine qd YV mixm (by simp) fun e _ hst=>qj ?_
 unfold kT
 refine sW ?_
 refine C1.im (zI s q.meas) (by rfl) (by rfl) ?_
 simp only [tZ,↓un_u,simprocAttr,tD,bne_iff_ne,bne_eq_false_iff_eq]
 refine ⟨fun h=>?_,fun h=>?_⟩
 ·rw [curE,if_pos (hki.2 h)]
  exact .oA [] []
 rw [curE,if_neg (fun k=>hki.1 k h)]
 obtain ⟨b1,b2,b3⟩:=zt.1 ((jr2 (by decide)).2 h)
 have hil:q.meas.toNat < s.cols.length:=by omega
 rw [qg,qh hil]
 simp only [tZ,↓un_u,simprocAttr,qe hil,tD]
 refine ⟨by omega,fun h4=>?_,fun h4=>?_⟩
 ·rw [if_pos h4]
  exact .oA [] []
 rw [if_neg h4]
 refine C1.im (yZ s hs q.event) (by rfl) (by rfl) ?_
 simp only [tZ,↓un_u,simprocAttr,bne_iff_ne,bne_eq_false_iff_eq]
 refine ⟨fun h5=>?_,fun h5=>?_⟩
 ·rw [if_pos h5]
  exact .oA [] []
 rw [if_neg (by rw [h5];simp)]
 simp only [tZ,↓un_u,simprocAttr,tD,gt_iff_lt]
 refine ⟨fun h6=>?_,fun h6=>?_⟩
 ·rw [if_pos (by omega)]
  exact .oA [] []
 ·rw [if_neg (by omega)]
  exact .oA [] []
theorem ka (s:Sch) (hs:Qp s) (q:Qst):Spc Tryz.prog zr [schT s,qstT q] [] (vI (qstE s q)) []:=by
 refine qd KJ mixm (by simp) fun e _ hst=>qj ?_
 unfold jK
 refine sW ?_
 refine C1.im (wi s hs.2.1 hs.1) (by rfl) (by rfl) ?_
 simp only [tZ,↓un_u,simprocAttr,bne_iff_ne,bne_eq_false_iff_eq]
 refine ⟨fun h=>?_,fun h=>?_⟩
 ·rw [qstE,if_pos h]
  exact .oA [] []
 rw [qstE,if_neg (by rw [h];simp)]
 refine C1.im (Jg q.name) (by rfl) (by rfl) ?_
 simp only [tZ,↓un_u,simprocAttr,tD,Bool.not_eq_true',Bool.not_eq_false']
 refine ⟨fun h2=>?_,fun h2=>?_⟩
 ·rw [if_pos h2]
  exact .oA [] []
 rw [if_neg (by rw [h2];simp)]
 refine ⟨fun h3=>?_,fun h3=>?_⟩
 ·rw [if_pos (by omega)]
  exact .oA [] []
 rw [if_neg (by omega)]
 refine C1.im (yZ s hs q.filt) (by rfl) (by rfl) ?_
 simp only [tZ,↓un_u,simprocAttr,bne_iff_ne,bne_eq_false_iff_eq,beq_iff_eq,beq_eq_false_iff_ne]
 refine ⟨fun h4=>?_,fun h4=>?_⟩
 ·rw [if_pos h4]
  exact .oA [] []
 rw [if_neg (by rw [h4];simp)]
 refine ⟨fun h5=>?_,fun h5=>⟨fun h6=>?_,fun h6=>?_⟩⟩
 ·refine C1.im (qf0 s hs q) (by rfl) (by rfl) ?_
  rw [show (if kK s q≠0 then kK s q else if (q.kind≠1∧0 < q.dims.length)∨(q.kind≠2∧0 < q.terms.length)∨(q.kind≠3∧qe2 q.event cnd0 = false) then 11 else 0) = tabE s q by
   rw [kK,if_pos h5,tabE]
   grind]
  refine sW ?_
  exact .oA [] []
 ·refine C1.im (qf1 s q) (by rfl) (by rfl) ?_
  rw [show (if kK s q≠0 then kK s q else if (q.kind≠1∧0 < q.dims.length)∨(q.kind≠2∧0 < q.terms.length)∨(q.kind≠3∧qe2 q.event cnd0 = false) then 11 else 0) = modE s q by
   rw [kK,if_neg h5,if_pos h6,modE]
   grind]
  refine sW ?_
  exact .oA [] []
 ·refine C1.im (qf2 s hs q) (by rfl) (by rfl) ?_
  rw [show (if kK s q≠0 then kK s q else if (q.kind≠1∧0 < q.dims.length)∨(q.kind≠2∧0 < q.terms.length)∨(q.kind≠3∧qe2 q.event cnd0 = false) then 11 else 0) = curE s q by
   rw [kK,if_neg h5,if_neg h6,curE]
   grind]
  refine sW ?_
  exact .oA [] []
end Go.Proofs
namespace Go.Proofs
open Go Go.TL
set_option maxRecDepth 4000
set_option maxHeartbeats 8000000
def usB (q:Qst) (k:Int):Bool:=decide (k > 0) && jp9 q k
theorem Wl (q:Qst) (k:Int) (ht:q.terms.length < 4611686018427387904):Spc Tryz.prog wm [qstT q,vI k] [] (vB (usB q k)) []:=by
 refine qd qo7 mixm (by simp) fun e _ hst=>qj ?_
 unfold yM
 refine sW ?_
 refine C2.im (fun _=>Qs q.terms k ht) (fun _=>rfl) (by rfl) ?_
 refine sW ?_
 rw [show (decide (k > 0) && ((q.meas == k) || q.terms.contains k)) = usB q k from rfl]
 exact .oA [] []
def cnsL (q:Qst):List Cnd:=if q.kind = 3 then [q.filt,q.event] else [q.filt]
theorem Ko (q:Qst):Spc Tryz.prog kC [qstT q] [] (vCs (cnsL q)) []:=by
 refine qd qi5 mixm (by simp) fun e _ hst=>qj ?_
 unfold yi
 simp only [tZ,↓un_u,simprocAttr,beq_iff_eq,beq_eq_false_iff_ne]
 refine ⟨fun h=>?_,fun h=>?_⟩
 ·rw [cnsL,if_pos h]
  show Qk [] _ _ (.sl 6 [cndT q.filt,cndT q.event]) []
  rw [zx,zx]
  exact .oA [] [12304]
 ·rw [cnsL,if_neg h]
  show Qk [] _ _ (.sl 6 [cndT q.filt]) []
  rw [zx]
  exact .oA [] [16392]
def canB (s:Sch) (c v:Int):Bool:=decide (1≤c) && decide (c < s.cols.length) && zd s c.toNat v
theorem jf0 {s:Sch} (hE:schE s = 0) {i:Nat} (h0:0 < i) (hi:i < s.cols.length) (v:Int):((qX6 s i (finI s i) v).2 && ((qX6 s i (finI s i) v).1 == v)) = zd s i v:=by
 have hok:=qJ hE
 have hk:=qU (hok.cs i hi)
 have h1:=hk.2.2.1 h0
 by_cases h2:(qg s i).kind = 2
 ·rw [qX6,if_neg (by omega)]
  have hself:∀ l∈qD s i,upC (qG s i) l (finI s i) = l:=fun l hl=>by
   have h3:=qe6 hE h0 hi h2 hl
   have h4:=yV h2 (hok.cdl hi h2).2 hl
   have h5:0≤finI s i:=by
    obtain ⟨_,d2⟩:=hok.cdl hi h2
    rw [finI,if_neg (by omega),Int.toNat_natCast,if_pos h2,qk3 d2];omega
   rw [qr,if_neg (by rw [Bool.not_eq_false,jA];omega),Int.toNat_natCast,if_pos h2,if_neg (by rw [h4];simp)] at h3
   exact h3
  cases hf:(qD s i).find? fun l=>upC (qG s i) l (finI s i) == v with
  | none=>
    rw [List.find?_eq_none] at hf
    show false = _
    symm
    cases hh:zd s i v with
    | false=>rfl
    | true=>
      rw [zd,if_neg (by omega),if_pos h2,Bool.and_eq_true,jA,beq_iff_eq] at hh
      obtain ⟨⟨g1,g2⟩,g3⟩:=hh
      obtain ⟨c,rfl⟩:=Int.eq_ofNat_of_zero_le g1
      obtain ⟨_,d2⟩:=hok.cdl hi h2
      rw [lvlC,if_neg (not_or.2 ⟨fun h=>h d2,by omega⟩),Int.toNat_natCast] at g3
      have hm:=(yY hok hi h2).2 ⟨c,rfl,by omega,g3⟩
      have:=hf _ hm
      rw [hself _ hm] at this
      simp at this
  | some l=>
    have h3:=List.mem_of_find?_eq_some hf
    have h4:=List.find?_some hf
    rw [hself l h3,beq_iff_eq] at h4
    subst h4
    show (true && (l == l)) = _
    rw [yV h2 (hok.cdl hi h2).2 h3]
    simp
 ·have h3:(qg s i).kind = 3:=by omega
  have hm:=hk.2.2.2.2 h3
  have hwl:1≤(qg s i).widths.length:=by unfold measE at hm;grind
  have hf:finI s i = (qg s i).widths.length:=by rw [finI,if_neg (by omega),Int.toNat_natCast,if_neg h2]
  obtain ⟨_,_,_,_,w5,w6,w7,w8⟩:=hok.wid hi h0 h2 (lev:=(qg s i).widths.length) (by omega)
  have hS:qX6 s i (qg s i).widths.length v = if 0 < ((qg s i).widths.length:Int)∧v = qY then (v,(qg s i).opt) else ((qr0 (qg s i) (qg s i).widths.length v).1,(qr0 (qg s i) (qg s i).widths.length v).2.2):=by rw [qX6,if_pos h3]
  have hH:zd s i v = (((qg s i).opt && (v == qY)) || inB v (qg s i).low (qg s i).high):=by rw [zd,if_neg (by omega),if_neg h2]
  rw [hf,hS,hH]
  generalize qg s i = x at w5 w6 w7 w8 hwl ⊢
  by_cases hv:v = qY
  ·subst hv
   rw [if_pos ⟨by omega,rfl⟩,show inB qY x.low x.high = false from qk9.2 (.inl (by unfold qY;omega))]
   simp
  ·rw [if_neg (fun h=>hv h.2),beq_eq_false_iff_ne.2 hv,Bool.and_false,Bool.false_or,qr0,if_neg (by omega)]
   by_cases hr:v < -2000000∨v > 1000000
   ·rw [if_pos hr,show inB v x.low x.high = false from qk9.2 (by omega)]
    rfl
   ·rw [if_neg hr,w8]
    have:qA v 1 * 1 = v:=by unfold qA;simp
    dsimp only
    rw [this,beq_self_eq_true,Bool.true_and,Bool.eq_iff_iff,Bool.and_eq_true,decide_eq_true_eq,beq_iff_eq,jA]
    omega
theorem Yv (s:Sch) (hE:schE s = 0) (c v:Int):Spc Tryz.prog wQ [schT s,vI c,vI v] [] (vB (canB s c v)) []:=by
 have hok:=qJ hE
 refine qd qu1 mixm (by simp) fun e _ hst=>qj ?_
 unfold QA
 refine sD ?_
 refine ⟨fun h=>?_,fun h=>?_⟩
 ·rw [show canB s c v = false by
   unfold canB
   rw [show (decide (1≤c) && decide (c < s.cols.length)) = false by rw [Bool.and_eq_false_iff,decide_eq_false_iff_not,decide_eq_false_iff_not];omega]
   rfl]
  exact .oA [] []
 obtain ⟨i,rfl⟩:=Int.eq_ofNat_of_zero_le (show 0≤c by omega)
 have hi:i < s.cols.length:=by omega
 rw [show canB s i v = zd s i v by unfold canB;rw [decide_eq_true (by omega),decide_eq_true (by omega),Int.toNat_natCast];rfl]
 rw [← jf0 hE (by omega) hi]
 refine C1.im (yx s hok.sm i) (by rfl) (by rfl) ?_
 refine sW ?_
 have hf0:0≤finI s i:=by
  rw [finI,if_neg (by omega),Int.toNat_natCast]
  split
  ·rename_i h2
   obtain ⟨_,d2⟩:=hok.cdl hi h2
   rw [qk3 d2];omega
  ·omega
 refine C1.im (qX7 s hE i hi (by omega) (finI s i) v ⟨hf0,by omega⟩) (by rfl) (by rfl) ?_
 refine sW ?_
 repeat (first | refine ⟨by omega,?_⟩ | refine ⟨by kernel_rfl,?_⟩)
 exact .oA [] []
def jf1 (s:Sch) (q:Qst) (k a b:Int):Bool:=(usB q k && (a != b)) || (q.dims.any fun d=>(d.col == k) && (qr s k d.lev a != qr s k d.lev b)) || ((cnsL q).any fun c=>(atsC c).any fun x=>(x.col == k) && (zH s x a != zH s x b))
theorem jf2 {s:Sch} {q:Qst} (h:qstE s q = 0):schE s = 0∧(∀ c∈cnsL q,chkC s c = 0)∧q.dims.length≤3∧q.terms.length≤3:=by
 unfold qstE at h
 split at h
 ·rename_i h1;exact absurd h h1
 rename_i h1
 split at h
 ·cases h
 split at h
 ·cases h
 split at h
 ·rename_i h4;exact absurd h h4
 rename_i h4
 split at h
 ·rename_i h5;exact absurd h h5
 rename_i h5
 split at h
 ·cases h
 rename_i h6
 refine ⟨Classical.byContradiction h1,fun c hc=>?_,?_,?_⟩
 ·unfold cnsL at hc
  split at hc
  ·rename_i h7
   rcases List.mem_cons.1 hc with e | hc
   ·rw [e];exact Classical.byContradiction h4
   ·rw [List.mem_singleton.1 hc]
    refine Classical.byContradiction fun k=>h5 ?_
    rw [kK,if_neg (by omega),if_neg (by omega)]
    split
    ·simp
    ·split
     ·simp
     ·exact k
  ·rw [List.mem_singleton.1 hc];exact Classical.byContradiction h4
 ·by_cases h7:q.kind = 1
  ·refine Classical.byContradiction fun k=>h5 ?_
   rw [kK,if_pos h7,if_pos] <;> rw [JO,if_pos (by omega)] <;> simp
  ·refine Classical.byContradiction fun k=>h6 (.inl ⟨h7,by omega⟩)
 ·by_cases h7:q.kind = 2
  ·refine Classical.byContradiction fun k=>h5 ?_
   rw [kK,if_neg (by omega),if_pos h7]
   split
   ·simp
   ·rw [yu,if_pos (by omega)];simp
  ·refine Classical.byContradiction fun k=>h6 (.inr (.inl ⟨h7,by omega⟩))
end Go.Proofs
namespace Go.Proofs
open Go Go.TL
set_option maxRecDepth 4000
set_option maxHeartbeats 8000000
def mxl:List Pk→Int→Int
 | [],_=>0
 | p :: r,k=>if p.col = k then max p.lev (mxl r k) else mxl r k
theorem JT:∀ (l:List Pk) (k:Int),0≤mxl l k
 | [],_=>Int.le_refl _
 | p :: r,k=>by
   have:=JT r k
   rw [mxl]
   split <;> omega
theorem qY1:∀ (a b:List Pk) (k:Int),mxl (a ++ b) k = max (mxl a k) (mxl b k)
 | [],b,k=>by
   have:=JT b k
   rw [List.nil_append,mxl];omega
 | p :: r,b,k=>by
   have:=qY1 r b k
   rw [List.cons_append,mxl,mxl,this]
   split <;> omega
theorem zA9 (l:List Pk) (p:Pk) (k:Int):mxl (l ++ [p]) k = if p.col = k then max (mxl l k) p.lev else mxl l k:=by
 have:=JT l k
 rw [qY1,mxl,mxl]
 split <;> omega
theorem Jh:∀ {l:List Pk} {k:Int},(∀ p∈l,p.col≠k)→mxl l k = 0
 | [],_,_=>rfl
 | p :: r,k,h=>by
   rw [mxl,if_neg (h p (by simp)),Jh fun x hx=>h x (List.mem_cons_of_mem _ hx)]
theorem zB0 {f:Nat→Int} (hf:∀ k,0≤f k):∀ {n:Nat} (k:Nat),mxl (canF f n) k = if k < n then f k else 0
 | 0,k=>by rw [if_neg (by omega)];rfl
 | n + 1,k=>by
   have ih:=zB0 hf (n:=n) k
   have hk:=hf k
   have hn:=hf n
   rw [canF,qY1,ih]
   by_cases e:n = k
   ·subst e
    rw [if_neg (show ¬ n < n by omega),if_pos (show n < n + 1 by omega)]
    split
    ·have:mxl [(⟨(n:Nat),f n⟩:Pk)] n = max (f n) 0:=by rw [mxl,if_pos rfl];rfl
     rw [this];omega
    ·rw [mxl];omega
   ·have h0:mxl (if 0 < f n then [(⟨n,f n⟩:Pk)] else []) k = 0:=Jh fun p hp=>by
     split at hp
     ·rw [List.mem_singleton.1 hp];dsimp only;omega
     ·simp at hp
    rw [h0]
    by_cases h:k < n
    ·rw [if_pos h,if_pos (by omega)];omega
    ·rw [if_neg h,if_neg (by omega)];omega
theorem qr4 {n:Nat}:∀ (l:List Pk) {f:Nat→Int},(∀ k,0≤f k)→(∀ p∈l,0≤p.col∧p.col < n)→Yp (canF f n) l = canF (fun k=>max (f k) (mxl l k)) n
 | [],f,hf,_=>by
   show canF f n = _
   exact Km fun k _=>by have:=hf k;rw [mxl];omega
 | p :: r,f,hf,h=>by
   obtain ⟨h1,h2⟩:=h p (by simp)
   obtain ⟨c,hc⟩:=Int.eq_ofNat_of_zero_le h1
   have e:Yp (canF f n) (p :: r) = Yp (KX (canF f n) p.col p.lev) r:=rfl
   rw [e,hc,qR1 hf (by omega),qr4 r (fun k=>by have:=hf k;unfold upd;split <;> omega) fun x hx=>h x (List.mem_cons_of_mem _ hx)]
   refine Km fun k _=>?_
   have:=hf k
   have h3:=JT r k
   unfold upd
   rw [mxl,hc]
   by_cases e:k = c
   ·subst e
    rw [if_pos rfl,if_pos rfl];omega
   ·rw [if_neg e,if_neg (by omega)]
theorem zF3 (n:Nat):canF (fun _=>0) n = []:=qF8 fun _ _=>Int.le_refl _
theorem zW7 {n:Nat} {l:List Pk} (h:∀ p∈l,0≤p.col∧p.col < n):Yp [] l = canF (fun k=>mxl l k) n:=by
 rw [← zF3 n,qr4 l (fun _=>Int.le_refl _) h]
 exact Km fun k _=>by have:=JT l k;omega
theorem qF9 (a l m:List Pk):Yp a (l ++ m) = Yp (Yp a l) m:=List.foldl_append
theorem zj8 {α:Type} (f:α→Pk) (m:List α):∀ l,Yp l (m.map f) = m.foldl (fun l x=>KX l (f x).col (f x).lev) l:=by
 induction m with
 | nil=>intro l;rfl
 | cons x r ih=>intro l;exact ih _
def atP (s:Sch) (c:Cnd):List Pk:=(atsC c).map fun a=>⟨a.col,decN s a⟩
theorem zp4 {s:Sch} {c:Cnd} (h:chkC s c = 0):zO s c = Yp [] (atP s c):=by
 rw [zO,if_neg (by rw [h];simp),atP,zj8]
theorem Kp {s:Sch} {c:Cnd} (h:chkC s c = 0):zO s c = canF (fun k=>mxl (atP s c) k) s.cols.length∧∀ p∈atP s c,1≤p.col∧p.col < s.cols.length:=by
 obtain ⟨hE,k2,k3,k4⟩:=KZ h
 have hb:∀ p∈atP s c,1≤p.col∧p.col < s.cols.length:=fun p hp=>by
  obtain ⟨a,ha,rfl⟩:=List.mem_map.1 hp
  obtain ⟨hnd,hia⟩:=qQ4 c k4 a ha
  obtain ⟨n1,n2,n3⟩:=Ki hE hnd hia
  obtain ⟨_,c1,c2,_⟩:=kV (s:=s) (c:=a.col) (by omega)
  exact ⟨c1,c2⟩
 refine ⟨?_,hb⟩
 rw [zp4 h]
 exact zW7 fun p hp=>by have:=hb p hp;omega
theorem jf3 {s:Sch} {c:Cnd} (h:chkC s c = 0):∀ p∈zO s c,1≤p.col∧p.col < s.cols.length:=fun p hp=>by
 obtain ⟨h1,h2⟩:=Kp h
 rw [h1,We] at hp
 obtain ⟨k,k1,k2,rfl⟩:=hp
 refine ⟨?_,by dsimp only;omega⟩
 dsimp only
 by_cases e:k = 0
 ·subst e
  rw [Jh fun q hq=>by have:=h2 q hq;omega] at k2
  omega
 ·omega
theorem qG0 {s:Sch} {c:Cnd} (h:chkC s c = 0) (k:Nat):mxl (zO s c) k = mxl (atP s c) k:=by
 obtain ⟨h1,h2⟩:=Kp h
 rw [h1,zB0 fun k=>JT _ _]
 split
 ·rfl
 ·exact (Jh fun q hq=>by have:=h2 q hq;omega).symm
def dmP (s:Sch) (q:Qst):List Pk:=q.dims.map fun d=>⟨d.col,yv s d.col d.lev⟩
def usP (s:Sch) (q:Qst) (n:Nat):List Pk:=((List.range n).filter fun k:Nat=>usB q k).map fun k:Nat=>⟨k,yv s k (finI s k)⟩
theorem qY2 (s:Sch) (q:Qst) (n:Nat):usP s q (n + 1) = usP s q n ++ if usB q n = true then [⟨n,yv s n (finI s n)⟩] else []:=by
 rw [usP,List.range_succ,List.filter_append,List.map_append,← usP]
 congr 1
 by_cases h:usB q n = true
 ·rw [if_pos h,List.filter_cons_of_pos (p:=fun k:Nat=>usB q k) h];rfl
 ·rw [if_neg h,List.filter_cons_of_neg (p:=fun k:Nat=>usB q k) h];rfl
theorem zB1 (s:Sch) (q:Qst) (l:List Pk):∀ n:Nat,(List.range n).foldl (qt4 s q) l = Yp l (usP s q (n + 1))
 | 0=>by
   show l = _
   have h0:usB q (0:Nat) = false:=by simp [usB]
   rw [qY2,h0,if_neg (by simp)];rfl
 | n + 1=>by
   rw [List.range_succ,List.foldl_append,zB1 s q l n,qY2 _ _ (n + 1),qF9]
   show qt4 s q _ n = _
   have h:usB q ((n + 1:Nat):Int) = jp9 q ((n:Int) + 1):=by
    unfold usB
    rw [decide_eq_true (by omega),Bool.true_and];rfl
   rw [qt4,h]
   split <;> rfl
def evP (s:Sch) (q:Qst):List Pk:=if q.kind = 3 then zO s q.event else []
theorem zp5 {s:Sch} {q:Qst} (h:qstE s q = 0):qe3 s q = Yp (zO s q.filt) (evP s q ++ dmP s q ++ usP s q s.cols.length):=by
 have hq:=qq6 h
 have hnc:=(qJ hq.sch).nc
 rw [qe3,if_neg (by rw [h];simp),jq0,zB1,show s.cols.length - 1 + 1 = s.cols.length by omega,qF9,qF9,dmP,zj8,evP]
 congr 2
 split <;> rfl
end Go.Proofs
