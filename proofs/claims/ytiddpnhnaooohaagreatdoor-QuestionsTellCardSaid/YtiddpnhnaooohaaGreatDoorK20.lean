/- A part of the proof: trees of Go values, short forms, contracts. -/
import Derived.WalkKit
import Derived.Still
import Derived.MapKept
import GoSem.Builtin.Cap
import Derived.Laws.Externs
import GoSem.Extern.SlicesOverlaps
import Derived.Carry
import Derived.ProofKit
import Derived.OpenShut
import Derived.HandedShaped
import Derived.Lay
import Derived.LaidLaws
import Derived.MakeChecks
import Derived.SevenTiedAt
import Derived.Test.YtiddpnhnaooohaaGreatDoorChecked
import Derived.Test.YtiddpnhnaooohaaGreatDoorK19
set_option linter.unusedSimpArgs false
set_option linter.unusedVariables false
namespace Go.Proofs
open Go Go.TL
set_option maxRecDepth 4000
set_option maxHeartbeats 8000000
theorem KY (n w:Int) (hw:0 < w∧w≤1000000) (hn : -4611686018427387904 < n∧n < 4611686018427387904):Spc Tryz.prog wn [vI n,vI w] [] (vI (qA n w * w)) []:=by
 rw [zl6 hw.1]
 have h2:=Int.tmod_lt_of_pos n hw.1
 have h3:=Int.lt_tmod_of_pos n hw.1
 have w1:IntKind.i64.wrap (n.tmod w) = n.tmod w:=IntWalk.i64_in _ (by omega)
 have w2:IntKind.i64.wrap (n.tmod w + w) = n.tmod w + w:=IntWalk.i64_in _ (by omega)
 have w3:IntKind.i64.wrap (n - n.tmod w) = n - n.tmod w:=IntWalk.i64_in _ (by omega)
 have w4:IntKind.i64.wrap (n - (n.tmod w + w)) = n - (n.tmod w + w):=IntWalk.i64_in _ (by omega)
 refine qd qn7 mixm (by simp) fun e _ hst=>qg ?_
 unfold yK
 simp only [tZ,↓un_u,simprocAttr,w1,w2,w3,w4,tD]
 refine ⟨by omega,fun h=>?_,fun h=>?_⟩
 ·rw [if_pos h]
  exact .oA [] []
 ·rw [if_neg h]
  exact .oA [] []
theorem qp3 (c:Col) (lev:Int) (h1:1≤lev∧lev≤c.widths.length) (h2:c.widths.length < 4611686018427387904):Spc Tryz.prog yA [colT c,vI lev] [] (vI (qS c lev)) []:=by
 have hw:IntKind.i64.wrap ((c.widths.length:Int) - lev) = (c.widths.length:Int) - lev:=IntWalk.i64_in _ (by omega)
 have hk:((c.widths.length:Int) - lev).toNat < c.widths.length:=by omega
 refine qd qi5 mixm (by simp) fun e _ hst=>qg ?_
 unfold ym
 simp only [tZ,↓un_u,simprocAttr,hw,qe hk]
 rw [qS,qk hk]
 refine ⟨by omega,?_⟩
 exact .oA [] []
theorem qk1 (k k' v:Int):∀ l:List (Int×Int),TL.look TL.eqI k (TL.asg TL.eqI k' v l) = if k = k' then some v else TL.look TL.eqI k l
 | []=>by
   simp only [TL.asg,TL.look,TL.eqI,beq_iff_eq]
 | (a,b) :: r=>by
   have ih:=qk1 k k' v r
   simp only [TL.asg,TL.eqI,beq_iff_eq] at ih ⊢
   by_cases h:k' = a
   ·subst h
    rw [if_pos rfl]
    simp only [TL.look,TL.eqI,beq_iff_eq]
    split <;> rfl
   ·rw [if_neg h]
    simp only [TL.look,TL.eqI,beq_iff_eq]
    rw [ih]
    by_cases h2:k = a
    ·subst h2
     rw [if_pos rfl,if_neg (fun e=>h e.symm),if_pos rfl]
    ·rw [if_neg h2,if_neg h2]
theorem zf9 {n w:Int} (hw:0 < w):(qA n w * w == n) = (n.tmod w == 0):=by
 rw [zl6 hw,Bool.eq_iff_iff,beq_iff_eq,beq_iff_eq]
 have h2:=Int.tmod_lt_of_pos n hw
 have h3:=Int.lt_tmod_of_pos n hw
 split <;> omega
theorem YP (s:Sch) (hE:schE s = 0) (c:Cnd) (hnd:NdOk s c) (ha:isAt c = true) (lev:Nat) (hl:(lev:Int)≤finI s c.col):Spc Tryz.prog kK [schT s,cnT c,vI lev] [] (vB (decB s c lev)) []:=by
 have hok:=qZ hE
 have hn0:=hok.nl
 have hn1:=hok.nc
 obtain ⟨_,c1,c2,hfin⟩:=JB (s:=s) (c:=c.col) (by omega)
 obtain ⟨i,hci⟩:=Int.eq_ofNat_of_zero_le (show 0≤c.col by omega)
 have hcn:c.col.toNat = i:=by omega
 have hil:i < s.cols.length:=by omega
 have hat:qh s i = s.cols[i]:=by rw [qh,qk hil]
 have hcd:=fun e=>hok.cdl hil e
 have hcd2:=(za (hok.cs i hil)).2.2.2.1
 have hwd:=fun e l=>hok.wid hil (by omega) e (lev:=l)
 have hll:=qo6 hok hil
 have hcl:qH s i = s.lists.getD s.cols[i].list.toNat default:=by rw [qH,hat]
 have hlh:=fun h2 v=>QX (s:=s) (i:=i) h2 (v:=v)
 have hfi:∀ h2:(qh s i).kind = 2,finI s c.col = zk (qH s i) - 1:=fun h2=>by rw [hfin,hcn,if_pos h2]
 have hco:∀ h2:(qh s i).kind = 2,∀ v∈qQ s i,qO s c.col lev v = upC (qH s i) v lev:=fun h2 v hv=>by
  have:=QX h2 (hcd h2).2 hv
  rw [qO,if_neg (by rw [Bool.not_eq_false,QA];omega),hcn,if_pos h2,if_neg (by rw [this];simp)]
 rw [hcn,hat] at hfin
 rw [hat] at hwd hll hcd hcd2 hfi hco
 have hD:decB s c lev = if c.op = 2 then qB8 (qQ s i).length (decP s c lev)
 else if c.op = 4 then decide (0 < lev)
 else if lev = 0 then !s.cols[i].opt && !(decide (s.cols[i].low < c.lo) && decide (c.lo≤s.cols[i].high)) && !(decide (s.cols[i].low≤c.hi) && decide (c.hi < s.cols[i].high))
  else (!(decide (s.cols[i].low < c.lo) && decide (c.lo≤s.cols[i].high)) || (c.lo.tmod (qS s.cols[i] lev) == 0)) && (!(decide (s.cols[i].low≤c.hi) && decide (c.hi < s.cols[i].high)) || ((c.hi + 1).tmod (qS s.cols[i] lev) == 0)):=by
  rw [decB,hcn,hat]
 have hk2:c.op = 2→s.cols[i].kind = 2:=fun h=>by
  have:=(zQ.1 (hnd.under h).1).2.2
  rw [hcn,hat] at this;exact this
 have hk3:c.op = 3→s.cols[i].kind = 3:=fun h=>by
  have:=(zQ.1 (hnd.between h).1).2.2
  rw [hcn,hat] at this;exact this
 have hm4:c.op = 4→s.cols[i].opt = true:=fun h=>by
  have:=(hnd.miss h).2
  rw [hcn,hat] at this;exact this
 have hPd:∀ L,qQ s i = L→∀ j k,decP s c lev j k = !((qO s c.col lev (L.getD j 0) == qO s c.col lev (L.getD k 0)) && !(zT s c (L.getD j 0) == zT s c (L.getD k 0))):=fun L hL j k=>by rw [decP,hcn,hL]
 have hlv:qQ s i = atL (qH s i) (zk (qH s i) - 1):=rfl
 rw [hD]
 rw [hcl] at hcd hco hlv
 refine qd WO mixm (by simp) fun e _ hst=>qg ?_
 unfold ke
 simp only [tZ,↓un_u,simprocAttr,hcn,qe hil]
 have hmw:s.cols[i].kind = 3→1≤s.cols[i].widths.length:=fun h=>by
  have:=(za (hok.cs i hil)).2.2.2.2 (by rw [hat];exact h)
  rw [hat] at this
  unfold measE at this
  grind
 generalize s.cols[i] = x at hmw hwd hfin hll hk2 hk3 hm4 hcd hcd2 hco hlv ⊢
 simp only [tZ,↓un_u,simprocAttr,beq_iff_eq,beq_eq_false_iff_ne]
 refine ⟨by omega,fun h2=>?_,fun h2=>?_⟩
 ·rw [if_pos h2]
  obtain ⟨d1,d2⟩:=hcd (hk2 h2)
  obtain ⟨d3,d4⟩:=hcd2 (hk2 h2)
  have hco:=hco (hk2 h2)
  have hll:=hll (hk2 h2)
  have hPd:=hPd _ rfl
  rw [qk d1] at d2 hco hlv
  rw [hlv] at hco hll hPd ⊢
  have hAt:=KX s hok c hnd ha
  simp only [tZ,↓un_u,simprocAttr,qe d1]
  refine ⟨by omega,?_⟩
  generalize s.lists[x.list.toNat] = l at d2 hco hll hPd ⊢
  have hlvl:=qc8 (l:=l)
  have hw2:IntKind.i64.wrap (zk l - 1) = zk l - 1:=IntWalk.i64_in _ (by omega)
  refine C1.im (Jz l) (by rfl) (by rfl) ?_
  simp only [tZ,↓un_u,simprocAttr,hw2]
  refine C1.im (qo3 l (zk l - 1)) (by rfl) (by rfl) ?_
  refine sW ?_
  repeat (first | refine ⟨by omega,?_⟩ | refine ⟨by kernel_rfl,?_⟩)
  generalize atL l (zk l - 1) = L at hco hll hPd ⊢
  refine qw mixm (α:=Nat×List (Int×Int)) [41] (fun y=>y.1≤L.length∧qB8 y.1 (decP s c lev) = true∧(∀ a,a < y.1→TL.look TL.eqI (upC l (L.getD a 0) lev) y.2 = some (zT s c (L.getD a 0)))∧∀ k v,TL.look TL.eqI k y.2 = some v→∃ a,a < y.1∧upC l (L.getD a 0) lev = k∧zT s c (L.getD a 0) = v) (fun y=>[(41,vI y.1)]) (fun y=>[(4096,.arr 2 [schT s] false),(4100,.arr 6 [cnT c] false),(16408,.arr 2 [cdlT l] false),(20480,.mp (.ii y.2))]) (fun y=>L.length - y.1) (0,[]) ⟨by simp,rfl,by simp,by simp [TL.look]⟩ ?_ fun y hy=>?_
  ·exact .oA [(4096,some 4096),(4100,some 4100),(16408,some 16408),(20480,some 20480)] []
  obtain ⟨j,M⟩:=y
  obtain ⟨y1,y2,y3,y4⟩:=hy
  dsimp only at y1 y2 y3 y4
  refine sD ?_
  refine ⟨fun h3=>?_,fun h3=>?_⟩
  ·have hj2:j < L.length:=by omega
   have hwj:=qj (i:=j) (by omega)
   have hgj:L.getD j 0 = L[j]:=qk hj2
   have hP:∀ a,a < j→decP s c lev j a = !((upC l L[j] lev == upC l (L.getD a 0) lev) && !(zT s c L[j] == zT s c (L.getD a 0))):=fun a ha=>by
    rw [hPd,hgj,hco L[j] (List.getElem_mem hj2),hco (L.getD a 0) (by rw [qk (show a < L.length by omega)];exact List.getElem_mem _)]
   have hlk:=qk1
   simp only [tZ,↓un_u,simprocAttr,Int.toNat_natCast,qe hj2]
   refine ⟨by omega,?_⟩
   refine C1.im (Yv l L[j] lev) (by rfl) (by rfl) ?_
   refine sW ?_
   refine C1.im (hAt L[j]) (by rfl) (by rfl) ?_
   refine sW ?_
   repeat (first | refine ⟨by omega,?_⟩ | refine ⟨by kernel_rfl,?_⟩)
   have hfin:∀ v,(∀ w,TL.look TL.eqI (upC l L[j] lev) M = some w→w = zT s c L[j])→v = zT s c L[j]→(j + 1≤L.length∧qB8 (j + 1) (decP s c lev) = true∧(∀ a,a < j + 1→TL.look TL.eqI (upC l (L.getD a 0) lev) (TL.asg TL.eqI (upC l L[j] lev) v M) = some (zT s c (L.getD a 0)))∧∀ k w,TL.look TL.eqI k (TL.asg TL.eqI (upC l L[j] lev) v M) = some w→∃ a,a < j + 1∧upC l (L.getD a 0) lev = k∧zT s c (L.getD a 0) = w):=fun v hv e=>by
    subst e
    have hsame:∀ a,a < j→upC l (L.getD a 0) lev = upC l L[j] lev→zT s c (L.getD a 0) = zT s c L[j]:=fun a ha he=>by
     have:=y3 a ha
     rw [he] at this
     exact hv _ this
    refine ⟨by omega,?_,fun a h5=>?_,fun k w h5=>?_⟩
    ·rw [zA4,y2,Bool.true_and,List.all_eq_true]
     intro a ha
     rw [List.mem_range] at ha
     rw [hP a ha]
     by_cases q:upC l (L.getD a 0) lev = upC l L[j] lev
     ·rw [hsame a ha q];simp
     ·rw [beq_eq_false_iff_ne.2 (fun e=>q e.symm)];rfl
    ·rw [qk1]
     by_cases q:a = j
     ·subst q;rw [hgj,if_pos rfl]
     ·split
      ·rename_i q2;rw [hsame a (by omega) q2]
      ·exact y3 a (by omega)
    ·rw [qk1] at h5
     split at h5
     ·rename_i q
      exact ⟨j,by omega,by rw [hgj,q],by rw [hgj];simpa using h5⟩
     ·obtain ⟨a,a1,a2,a3⟩:=y4 k w h5
      exact ⟨a,by omega,a2,a3⟩
   cases hf:TL.look TL.eqI (upC l L[j] lev) M with
   | none=>
     simp only [tZ,↓un_u,simprocAttr,hf,Option.isSome_none,hwj]
     refine ⟨fun h=>by simp at h,fun _=>⟨(j + 1,_),hfin _ (fun w h=>by rw [hf] at h;cases h) rfl,by dsimp only;omega,?_⟩⟩
     exact .oA [(4096,some 4096),(4100,some 4100),(16408,some 16408),(20480,some 20480)] []
   | some w=>
     simp only [tZ,↓un_u,simprocAttr,hf,Option.isSome_some,Option.getD_some,bne_iff_ne,bne_eq_false_iff_eq,hwj]
     refine ⟨fun h5=>?_,fun h5=>?_⟩
     ·obtain ⟨a,a1,a2,a3⟩:=y4 _ _ hf
      rw [zZ1 hj2 a1 (by rw [hP a a1,a2,a3,beq_self_eq_true,beq_eq_false_iff_ne.2 (fun e=>h5 e.symm)];rfl)]
      exact .oA [] []
     ·refine ⟨(j + 1,_),hfin _ (fun w' h=>by rw [hf] at h;cases h;exact h5) rfl,by dsimp only;omega,?_⟩
      exact .oA [(4096,some 4096),(4100,some 4100),(16408,some 16408),(20480,some 20480)] []
  ·have hjl:j = L.length:=by omega
   subst hjl
   rw [y2]
   exact .oA [] []
 rw [if_neg h2]
 by_cases h4:c.op = 4
 ·rw [if_pos h4]
  have ho:=hm4 h4
  by_cases hz:lev = 0
  ·subst hz
   simp only [tZ,↓un_u,simprocAttr,ho]
   exact .oA [] []
  ·have e0:((lev:Int) == 0) = false:=beq_eq_false_iff_ne.2 (by omega)
   simp only [tZ,↓un_u,simprocAttr,e0,beq_iff_eq,beq_eq_false_iff_ne]
   rw [decide_eq_true (show 0 < lev by omega)]
   refine ⟨fun h=>by simp at h,fun _=>⟨fun _=>?_,fun h=>absurd h4 h⟩⟩
   exact .oA [] []
 rw [if_neg h4]
 have h3:c.op = 3:=by
  unfold isAt at ha
  simp only [Bool.or_eq_true,beq_iff_eq] at ha
  omega
 have hk3:=hk3 h3
 have hb:=hnd.between h3
 rw [if_neg (by omega)] at hfin
 have q4:(c.op == 4) = false:=beq_eq_false_iff_ne.2 h4
 have hxw:=hmw hk3
 obtain ⟨_,_,_,x4,x5,x6,x7,_⟩:=hwd (by omega) 1 (by omega)
 by_cases hz:lev = 0
 ·subst hz
  simp only [tZ,↓un_u,simprocAttr,ze9,zQ6,tD]
  refine ⟨fun h=>?_,fun h=>⟨fun k=>absurd k h4,fun _=>?_⟩⟩
  ·rw [h]
   exact .oA [] []
  ·rw [h]
   repeat (first | refine ⟨by omega,?_⟩ | refine ⟨by kernel_rfl,?_⟩)
   refine ⟨fun h5=>?_,fun h5=>?_⟩
   ·rw [show (!false && !(decide (x.low < c.lo) && decide (c.lo≤x.high)) && !(decide (x.low≤c.hi) && decide (c.hi < x.high))) = true by grind]
    exact .oA [] []
   ·rw [show (!false && !(decide (x.low < c.lo) && decide (c.lo≤x.high)) && !(decide (x.low≤c.hi) && decide (c.hi < x.high))) = ((max c.lo x.low == x.low) && (min c.hi x.high == x.high)) by grind]
    exact .oA [] []
 have e0:((lev:Int) == 0) = false:=beq_eq_false_iff_ne.2 (by omega)
 rw [if_neg hz]
 obtain ⟨w1,w2,_⟩:=hwd (by omega) lev (by omega)
 simp only [tZ,↓un_u,simprocAttr,e0,ze9,zQ6,tD]
 refine fun _=>⟨fun k=>absurd k h4,fun _=>?_⟩
 repeat (first | refine ⟨by omega,?_⟩ | refine ⟨by kernel_rfl,?_⟩)
 refine ⟨fun h5=>?_,fun h5=>?_⟩
 ·rw [show ((!(decide (x.low < c.lo) && decide (c.lo≤x.high)) || (c.lo.tmod (qS x lev) == 0)) && (!(decide (x.low≤c.hi) && decide (c.hi < x.high)) || ((c.hi + 1).tmod (qS x lev) == 0))) = true by grind]
  exact .oA [] []
 refine ⟨fun h=>by omega,fun _=>?_⟩
 refine C1.im (qp3 x lev (by omega) (by omega)) (by rfl) (by rfl) ?_
 generalize qS x lev = w at w1 w2 ⊢
 have hF:((!(decide (x.low < c.lo) && decide (c.lo≤x.high)) || (c.lo.tmod w == 0)) && (!(decide (x.low≤c.hi) && decide (c.hi < x.high)) || ((c.hi + 1).tmod w == 0))) = (((max c.lo x.low == x.low) || (qA (max c.lo x.low) w * w == max c.lo x.low)) && ((min c.hi x.high == x.high) || (qA (min c.hi x.high + 1) w * w == min c.hi x.high + 1))):=by
  rw [zf9 (by omega),zf9 (by omega)]
  congr 1
  ·by_cases k:x.low < c.lo
   ·rw [show max c.lo x.low = c.lo by omega,decide_eq_true k,decide_eq_true (show c.lo≤x.high by omega),beq_eq_false_iff_ne.2 (show c.lo≠x.low by omega)]
    rfl
   ·rw [show max c.lo x.low = x.low by omega,decide_eq_false k,beq_self_eq_true]
    simp
  ·by_cases k:c.hi < x.high
   ·rw [show min c.hi x.high = c.hi by omega,decide_eq_true k,decide_eq_true (show x.low≤c.hi by omega),beq_eq_false_iff_ne.2 (show c.hi≠x.high by omega)]
    rfl
   ·rw [show min c.hi x.high = x.high by omega,decide_eq_false k,beq_self_eq_true]
    simp
 rw [hF]
 have hwm:IntKind.i64.wrap (min c.hi x.high + 1) = min c.hi x.high + 1:=IntWalk.i64_in _ (by omega)
 refine sW ?_
 refine C2.im (fun _=>KY (max c.lo x.low) w (by omega) (by omega)) (fun _=>rfl) (by rfl) ?_
 simp only [tZ,↓un_u,simprocAttr,hwm]
 refine C2.im (fun _=>KY (min c.hi x.high + 1) w (by omega) (by omega)) (fun _=>rfl) (by rfl) ?_
 simp only [tZ,↓un_u,simprocAttr,hwm]
 repeat (first | refine ⟨by omega,?_⟩ | refine ⟨by kernel_rfl,?_⟩)
 exact .oA [] []
end Go.Proofs
namespace Go.Proofs
open Go Go.TL
set_option maxRecDepth 4000
set_option maxHeartbeats 8000000
def canF (f:Nat→Int):Nat→List Pk
 | 0=>[]
 | n + 1=>canF f n ++ (if 0 < f n then [⟨n,f n⟩] else [])
theorem JX {f g:Nat→Int}:∀ {n:Nat},(∀ k,k < n→f k = g k)→canF f n = canF g n
 | 0,_=>rfl
 | n + 1,h=>by rw [canF,canF,JX fun k hk=>h k (by omega),h n (by omega)]
theorem qU3 (f:Nat→Int):∀ n,(canF f n).length≤n
 | 0=>Nat.le_refl _
 | n + 1=>by
   have:=qU3 f n
   rw [canF,List.length_append]
   split <;> simp <;> omega
theorem qC7 {f:Nat→Int}:∀ {n:Nat},(∀ k,k < n→f k≤0)→canF f n = []
 | 0,_=>rfl
 | n + 1,h=>by
   have:=h n (by omega)
   rw [canF,qC7 fun k hk=>h k (by omega),if_neg (by omega)];rfl
theorem zg0 {f:Nat→Int} {n:Nat}:∀ d,(∀ k,n≤k→k < n + d→f k≤0)→canF f (n + d) = canF f n
 | 0,_=>rfl
 | d + 1,h=>by
   have:=h (n + d) (by omega) (by omega)
   rw [show n + (d + 1) = n + d + 1 from rfl,canF,if_neg (by omega),List.append_nil,zg0 d fun k h1 h2=>h k h1 (by omega)]
theorem zv7 {f:Nat→Int} {p:Pk}:∀ {n:Nat},p∈canF f n↔∃ k,k < n∧0 < f k∧p = ⟨k,f k⟩
 | 0=>by simp [canF]
 | n + 1=>by
   rw [canF,List.mem_append,zv7]
   constructor
   ·rintro (⟨k,h1,h2,h3⟩ | h)
    ·exact ⟨k,by omega,h2,h3⟩
    ·split at h
     ·rename_i h2;exact ⟨n,by omega,h2,by simpa using h⟩
     ·simp at h
   ·rintro ⟨k,h1,h2,h3⟩
    by_cases e:k = n
    ·subst e;right;rw [if_pos h2];simpa using h3
    ·exact .inl ⟨k,by omega,h2,h3⟩
def upd (f:Nat→Int) (c:Nat) (v:Int):Nat→Int:=fun k=>if k = c then max (f k) v else f k
theorem qN7 {f:Nat→Int} (hf:∀ k,0≤f k) (c:Nat) (v:Int):∀ m,∀ x,(canF f m).foldl (qJ0 c v) ([],decide (v≤0)) = x→
 (m≤c→x.2 = decide (v≤0))∧(x.2 = true→x.1 = canF (upd f c v) m)∧(x.2 = false→0 < v∧x.1 ++ (if c < m then [⟨c,v⟩] else []) = canF (upd f c v) m)
 | 0,x,h=>by
   subst h
   refine ⟨fun _=>rfl,fun _=>rfl,fun h=>⟨?_,by rw [if_neg (by omega)];rfl⟩⟩
   have:=of_decide_eq_false h
   omega
 | m + 1,x,h=>by
   rw [canF,List.foldl_append] at h
   obtain ⟨i1,i2,i3⟩:=qN7 hf c v m _ rfl
   generalize (canF f m).foldl (qJ0 c v) ([],decide (v≤0)) = y at h i1 i2 i3
   obtain ⟨l,b⟩:=y
   dsimp only at i1 i2 i3
   have hm:=hf m
   by_cases h0:0 < f m
   ·rw [if_pos h0,List.foldl_cons,List.foldl_nil] at h
    unfold qJ0 at h
    dsimp only at h
    rcases Nat.lt_trichotomy m c with q | q | q
    ·rw [if_neg (by omega),if_neg (by omega)] at h
     subst h
     have hu:upd f c v m = f m:=by rw [upd,if_neg (by omega)]
     refine ⟨fun _=>i1 (by omega),fun e=>?_,fun e=>⟨(i3 e).1,?_⟩⟩
     ·dsimp only at e ⊢
      rw [i2 e,canF,hu,if_pos h0]
     ·dsimp only at e ⊢
      have:=(i3 e).2
      rw [if_neg (by omega),List.append_nil] at this
      rw [if_neg (by omega),List.append_nil,this,canF,hu,if_pos h0]
    ·subst q
     rw [if_pos rfl,if_neg (show ¬ ((m:Int) > m∧b = false) from fun h=>by omega)] at h
     subst h
     have hu:upd f m v m = max (f m) v:=by rw [upd,if_pos rfl]
     refine ⟨fun e=>by omega,fun _=>?_,fun e=>by simp at e⟩
     dsimp only
     have:l = canF (upd f m v) m:=by
      cases b with
      | true=>exact i2 rfl
      | false=>
        have:=(i3 rfl).2
        rw [if_neg (by omega),List.append_nil] at this
        exact this
     rw [this,canF,hu,if_pos (by omega)]
    ·have hu:upd f c v m = f m:=by rw [upd,if_neg (by omega)]
     have hc:((m:Int) > (c:Int)):=by omega
     cases b with
     | true=>
       rw [if_neg (show ¬ ((m:Int) = c) by omega),if_neg (show ¬ ((m:Int) > c∧true = false) from fun h=>by simp at h)] at h
       subst h
       refine ⟨fun e=>by omega,fun _=>?_,fun e=>by simp at e⟩
       dsimp only
       rw [i2 rfl,canF,hu,if_pos h0]
     | false=>
       rw [if_neg (show ¬ ((m:Int) = c) by omega),if_pos ⟨hc,rfl⟩] at h
       subst h
       refine ⟨fun e=>by omega,fun _=>?_,fun e=>by simp at e⟩
       dsimp only
       have:=(i3 rfl).2
       rw [if_pos q] at this
       rw [this,canF,hu,if_pos h0]
   ·rw [if_neg h0,List.foldl_nil] at h
    subst h
    dsimp only
    have f0:f m = 0:=by omega
    by_cases q:m = c
    ·subst q
     have hu:upd f m v m = max 0 v:=by rw [upd,if_pos rfl,f0]
     refine ⟨fun e=>by omega,fun e=>?_,fun e=>⟨(i3 e).1,?_⟩⟩
     ·have hv:v≤0:=by
       have:=i1 (Nat.le_refl _)
       rw [e] at this
       exact of_decide_eq_true this.symm
      rw [i2 e,canF,hu,if_neg (by omega),List.append_nil]
     ·have:=(i3 e).2
      rw [if_neg (by omega),List.append_nil] at this
      have hv:=(i3 e).1
      rw [this,canF,hu,if_pos (by omega),if_pos (by omega),show max 0 v = v by omega]
    ·have hu:upd f c v m = f m:=by rw [upd,if_neg q]
     refine ⟨fun e=>i1 (by omega),fun e=>?_,fun e=>⟨(i3 e).1,?_⟩⟩
     ·rw [i2 e,canF,hu,if_neg h0,List.append_nil]
     ·have:=(i3 e).2
      rw [canF,hu,if_neg h0,List.append_nil,← this]
      by_cases q2:c < m
      ·rw [if_pos q2,if_pos (by omega)]
      ·rw [if_neg q2,if_neg (by omega)]
theorem qN8 {f:Nat→Int} (hf:∀ k,0≤f k) {c n:Nat} (hc:c < n) (v:Int):YM (canF f n) c v = canF (upd f c v) n:=by
 obtain ⟨_,i2,i3⟩:=qN7 hf c v n _ rfl
 unfold YM
 dsimp only
 split
 ·rename_i h;exact i2 h
 ·rename_i h
  have:=(i3 (by simpa using h)).2
  rw [if_pos hc] at this
  exact this
abbrev lvF (lv:List Int):Nat→Int:=fun k=>lv.getD k 0
theorem jl0 {lv:List Int} {c:Nat} (hc:c < lv.length) (v:Int):lvF (lv.set c (max lv[c] v)) = upd (lvF lv) c v:=by
 funext k
 unfold lvF upd
 simp only [List.getD_eq_getElem?_getD,List.getElem?_set]
 by_cases e:c = k
 ·subst e
  simp [hc]
 ·rw [if_neg e,if_neg (fun h=>e h.symm)]
theorem jl1 {lv:List Int} (h:∀ x∈lv,0≤x) (k:Nat):0≤lvF lv k:=by
 unfold lvF
 by_cases hk:k < lv.length
 ·rw [qk hk];exact h _ (List.getElem_mem hk)
 ·simp [List.getD,List.getElem?_eq_none (show lv.length≤k by omega)]
theorem zZ7 (n:Nat):canF (lvF (List.replicate n 0)) n = []:=qC7 fun k hk=>by
 unfold lvF
 rw [qk (by simpa using hk),List.getElem_replicate];omega
theorem qp4 (s:Sch) (hs:QO s) (c:Cnd):Spc Tryz.prog yx [schT s,cnT c] [] (vPs (jH s c)) []:=by
 refine qd qh3 mixm (by simp) fun e _ hst=>qg ?_
 unfold yg
 refine sW ?_
 refine C1.im (yO s hs c) (by rfl) (by rfl) ?_
 simp only [tZ,↓un_u,simprocAttr,bne_iff_ne,bne_eq_false_iff_eq]
 refine ⟨fun h=>?_,fun h=>?_⟩
 ·rw [jH,if_pos h]
  exact .oA [] []
 obtain ⟨hE,k2,k3,k4⟩:=qp1 h
 have hok:=qZ hE
 have hnc:=hok.nc
 have hal:=JD c 41 (by omega) k2
 have hao:=qN4 c k4
 have hN:jH s c = (atsC c).foldl (zf7 s) []:=by rw [jH,if_neg (by rw [h];simp)];rfl
 rw [hN]
 refine ⟨by omega,?_⟩
 refine C1.im (JW c 41 (by omega) (by omega) k2) (by rfl) (by rfl) ?_
 generalize atsC c = L at hal hao ⊢
 refine sW ?_
 refine qw mixm (α:=Nat×List Int) [23] (fun y=>y.1≤L.length∧y.2.length = s.cols.length∧(∀ x∈y.2,0≤x)∧canF (lvF y.2) s.cols.length = (L.take y.1).foldl (zf7 s) []) (fun y=>[(23,vI y.1)]) (fun y=>[(4096,.arr 2 [schT s] false),(16396,.arr 1 (y.2.map vI) false)]) (fun y=>L.length - y.1) (0,List.replicate s.cols.length 0) ⟨by simp,by simp,fun x hx=>by rw [(List.mem_replicate.1 hx).2];omega,zZ7 _⟩ ?_ fun y hy=>?_
 ·rw [List.map_replicate]
  refine .of [(4096,some 4096),(16396,some 16396)] [] rfl (by first | rfl | (rw [hst];rfl)) ?_ ?_
  all_goals (try simp only [tL,simprocAttr,List.map_append,List.map_cons,List.map_nil,List.cons_append,List.nil_append,Int.toNat_natCast,jg2])
  all_goals (try (repeat' (first | exact qT | (apply zj;intro _;exact ⟨rfl,rfl⟩) | (apply qz;intro _;exact ⟨rfl,rfl⟩) | with_reducible apply qJ | with_reducible refine qM ⟨rfl,rfl⟩ ?_ | exact qW | with_reducible apply qE | with_reducible refine qK ⟨rfl,rfl,?_⟩ ?_ | with_reducible apply And.intro | exact qG rfl | exact qG (by assumption) | (refine ⟨⟨?_,rfl,?_,rfl,?_⟩,trivial⟩ <;> first | (simp;done) | (apply qz;intro _;exact ⟨rfl,rfl⟩)) | trivial | rfl | (rw [qj (by omega)]) | omega)))
 obtain ⟨i,lv⟩:=y
 obtain ⟨y1,y2,y3,y4⟩:=hy
 dsimp only at y1 y2 y3 y4
 refine sD ?_
 refine ⟨fun h3=>?_,fun h3=>?_⟩
 ·have hi2:i < L.length:=by omega
  have hwi:=qj (i:=i) (by omega)
  obtain ⟨hnd,ha⟩:=hao _ (List.getElem_mem hi2)
  obtain ⟨n1,n2,n3⟩:=zf6 hE hnd ha
  have h59:=qT4 (c:=L[i].col) hE
  obtain ⟨_,c1,c2,_⟩:=JB (s:=s) (c:=L[i].col) (by omega)
  have hstep:(L.take (i + 1)).foldl (zf7 s) [] = YM ((L.take i).foldl (zf7 s) []) L[i].col (decN s L[i]):=by
   rw [qR hi2,List.foldl_append];rfl
  simp only [tZ,↓un_u,simprocAttr,Int.toNat_natCast,qe hi2,zg]
  refine ⟨by omega,?_⟩
  generalize L[i] = a at hnd ha n1 n2 n3 h59 c1 c2 hstep ⊢
  refine qw mixm (α:=Nat) [8] (fun n=>n≤decN s a) (fun n=>[(8,vI n)]) (fun n=>[(4096,.arr 2 [schT s] false),(16396,.arr 1 (lv.map vI) false),(28680,.arr 6 [cnT a] false)]) (fun n=>decN s a - n) 0 (by omega) ?_ fun n hn=>?_
  ·exact .oA [(4096,some 4096),(16396,some 16396),(28680,some 28680)] []
  have hwn:=qj (i:=n) (by omega)
  refine sW ?_
  refine C1.im (YP s hE a hnd ha n (by omega)) (by rfl) (by rfl) ?_
  simp only [tZ,↓un_u,simprocAttr,Bool.not_eq_true',Bool.not_eq_false',hwn]
  refine ⟨fun h4=>?_,fun h4=>?_⟩
  ·have:n≠decN s a:=fun e=>by rw [e,n2] at h4;cases h4
   refine ⟨n + 1,by omega,by omega,?_⟩
   exact .oA [(4096,some 4096),(16396,some 16396),(28680,some 28680)] []
  ·have:n = decN s a:=by
    refine Nat.le_antisymm hn (Nat.le_of_not_lt fun e=>?_)
    rw [n3 n e] at h4;cases h4
   subst this
   obtain ⟨q,hq⟩:=Int.eq_ofNat_of_zero_le (show 0≤a.col by omega)
   have hq2:q < lv.length:=by omega
   simp only [tZ,↓un_u,simprocAttr,hq,Int.toNat_natCast,qe hq2,ze9,hwi,show ∀ a b:Int,repl (vI a) 0 (vI b) = vI b from fun _ _=>rfl]
   repeat (first | refine ⟨by omega,?_⟩ | refine ⟨by kernel_rfl,?_⟩)
   refine ⟨(i + 1,lv.set q (max lv[q] (decN s a))),⟨by dsimp only;omega,by rw [List.length_set];exact y2,fun x hx=>?_,?_⟩,by dsimp only;omega,?_⟩
   ·rcases List.mem_or_eq_of_mem_set hx with h5 | h5
    ·exact y3 x h5
    ·rw [h5];omega
   ·dsimp only
    rw [hstep,← y4,hq,qN8 (jl1 y3) (by omega),jl0 hq2]
   ·rw [← List.map_set]
    exact .oA [(4096,some 4096),(16396,some 16396)] []
 ·have hil:i = L.length:=by omega
  subst hil
  rw [List.take_length] at y4
  rw [← y4]
  simp only [Int.toNat_natCast]
  refine ⟨y2,?_⟩
  rw [← y2]
  refine qw mixm (α:=Nat) [48,9] (fun i=>i≤lv.length) (fun i=>[(9,.asl 1 (canF (lvF lv) i).length),(48,vI i)]) (fun i=>[(16396,.arr 1 (lv.map vI) false),(1,.arr 2 ((canF (lvF lv) i).map pkT) false)]) (fun i=>lv.length - i) 0 (by omega) ?_ fun j hj=>?_
  ·exact .oA [(16396,some 16396),(1,none)] []
  have hcl:=qU3 (lvF lv) j
  refine sD ?_
  refine ⟨fun h5=>?_,fun h5=>?_⟩
  ·have hj2:j < lv.length:=by omega
   have hwj:=qj (i:=j) (by omega)
   have hg:lvF lv j = lv[j]:=qk hj2
   have hc:canF (lvF lv) (j + 1) = canF (lvF lv) j ++ (if 0 < lv[j] then [⟨(j:Nat),lv[j]⟩] else []):=by rw [canF,hg]
   simp only [tZ,↓un_u,simprocAttr,Int.toNat_natCast,qe hj2,hwj,gt_iff_lt,tD]
   refine ⟨by omega,by omega,fun h6=>?_,fun h6=>?_⟩
   ·rw [if_pos h6] at hc
    refine ⟨by omega,j + 1,by omega,by omega,?_⟩
    rw [hc,List.map_append,List.length_append]
    exact .oA [(16396,some 16396),(1,some 1)] []
   ·rw [if_neg h6,List.append_nil] at hc
    refine ⟨j + 1,by omega,by omega,?_⟩
    rw [hc]
    exact .oA [(16396,some 16396),(1,some 1)] []
  ·rw [show lv.length = j by omega]
   exact .oA [] [1]
theorem Wp (p n:Pk):Spc Tryz.prog zO [pkT p,.ip (pkT n).cells] [] (vB ((p.col == n.col) && decide (p.lev≥n.lev))) []:=by
 refine qd KD mixm (by simp) fun e _ hst=>qg ?_
 unfold jC
 refine sW ?_
 exact .oA [] []
theorem KR (p:Pk→Bool) (f:FuncId) (caps:List T) (hcap:imL caps = true) (l:List Pk) (hf:∀ y∈l,Spc Tryz.prog f (pkT y :: caps) [] (vB (p y)) []) (hl:l.length < 4611686018427387904) :
 Spc Tryz.prog jz [.sl 2 (l.map pkT),.clo f caps] [] (vI (idxI p l)) []:=by
 refine qd JQ mixm (by simp) fun e _ hst=>qg ?_
 unfold jr
 refine sW ?_
 refine qw mixm (α:=Nat) [8] (fun i=>i≤l.length∧((l.take i).any p = false)) (fun i=>[(8,vI i)]) (fun i=>[]) (fun i=>l.length - i) 0 ⟨by omega,?_⟩ ?_ fun i hi=>?_
 ·simp
 ·exact .oA [] []
 simp only [tZ,↓un_u,simprocAttr,decide_eq_true_eq,decide_eq_false_iff_not]
 refine ⟨fun h=>?_,fun h=>?_⟩
 ·have hi2:i < l.length:=by omega
  have hwi:=qj (i:=i) (by omega)
  simp only [tZ,↓un_u,simprocAttr,Int.toNat_natCast,qe hi2,hwi,ql7]
  refine ⟨by omega,?_⟩
  refine C1.im (hf l[i] (List.getElem_mem hi2)) (qf4 rfl hcap) rfl ?_
  refine sW ?_
  refine ⟨fun h3=>?_,fun h3=>⟨i + 1,⟨by omega,zY hi2 hi.2 h3⟩,by omega,?_⟩⟩
  ·rw [idxI,if_pos (qf3 hi2 h3),JJ hi2 hi.2 h3]
   exact .imR rfl rfl
  ·exact .oA [] []
 ·have h2:i = l.length:=by omega
  have h3:=hi.2
  rw [h2,List.take_length] at h3
  rw [idxI,if_neg (by rw [h3];simp)]
  exact .imR rfl rfl
theorem zU (p:Pk→Bool) (f:FuncId) (caps:List T) (hcap:imL caps = true) (l:List Pk) (hf:∀ y∈l,Spc Tryz.prog f (pkT y :: caps) [] (vB (p y)) []) (hl:l.length < 4611686018427387904) :
 Spc Tryz.prog zd [.sl 2 (l.map pkT),.clo f caps] [] (vB (l.any p)) []:=by
 refine qd Zp mixm (by simp) fun e _ hst=>qg ?_
 unfold zL
 refine sW ?_
 refine C1.im (KR p f caps hcap l hf hl) (qu6 rfl hcap) rfl ?_
 refine sW ?_
 rw [show decide (idxI p l≥0) = l.any p from qQ4 p l]
 exact .imR rfl rfl
theorem YQ (n:Pk) (a:List Pk) (ha:a.length < 4611686018427387904):Spc Tryz.prog jh [pkT n,.ip [vPs a]] [] (vB (!(a.any fun y=>(y.col == n.col) && decide (y.lev≥n.lev)))) []:=by
 refine qd WR mixm (by simp) fun e _ hst=>qg ?_
 unfold kf
 refine sW ?_
 have hCF:=zU (fun y=>(y.col == n.col) && decide (y.lev≥n.lev)) zO [.ip (pkT n).cells] rfl a (fun y _=>Wp y n) ha
 refine C1.lend [4096] hCF ?_ (by rfl) (by rfl) ?_
 ·all_goals (try simp only [tL,simprocAttr,List.map_append,List.map_cons,List.map_nil,List.cons_append,List.nil_append])
  all_goals (try (repeat' (first | exact qT | (apply zj;intro _;exact ⟨rfl,rfl⟩) | (apply qz;intro _;exact ⟨rfl,rfl⟩) | with_reducible apply qJ | with_reducible refine qM ⟨rfl,rfl⟩ ?_ | exact qW | with_reducible apply qE | with_reducible refine qK ⟨rfl,rfl,?_⟩ ?_ | with_reducible apply And.intro | exact qG rfl | exact qG (by assumption) | (refine ⟨⟨?_,rfl,?_,rfl,?_⟩,trivial⟩ <;> first | (simp;done) | (apply qz;intro _;exact ⟨rfl,rfl⟩)) | trivial | rfl | (rw [qj (by omega)]) | omega)))
  simp only [ltP]
  exact ⟨rfl,by decide,rfl,qM ⟨rfl,rfl⟩ qW⟩
 refine sW ?_
 exact .oA [] []
theorem qk2 (a b:List Pk) (ha:a.length < 4611686018427387904) (hb:b.length < 4611686018427387904):Spc Tryz.prog wQ [vPs a,vPs b] [] (vB (covB b a)) []:=by
 refine qd qb3 mixm (by simp) fun e _ hst=>qg ?_
 unfold wy
 refine sW ?_
 have hCF:=zU (fun n=>!(a.any fun y=>(y.col == n.col) && decide (y.lev≥n.lev))) jh [.ip [vPs a]] rfl b (fun n _=>YQ n a ha) hb
 refine C1.lend [4096] hCF ?_ (by rfl) (by rfl) ?_
 ·all_goals (try simp only [tL,simprocAttr,List.map_append,List.map_cons,List.map_nil,List.cons_append,List.nil_append])
  all_goals (try (repeat' (first | exact qT | (apply zj;intro _;exact ⟨rfl,rfl⟩) | (apply qz;intro _;exact ⟨rfl,rfl⟩) | with_reducible apply qJ | with_reducible refine qM ⟨rfl,rfl⟩ ?_ | exact qW | with_reducible apply qE | with_reducible refine qK ⟨rfl,rfl,?_⟩ ?_ | with_reducible apply And.intro | exact qG rfl | exact qG (by assumption) | (refine ⟨⟨?_,rfl,?_,rfl,?_⟩,trivial⟩ <;> first | (simp;done) | (apply qz;intro _;exact ⟨rfl,rfl⟩)) | trivial | rfl | (rw [qj (by omega)]) | omega)))
  simp only [ltP]
  exact ⟨rfl,by decide,rfl,qM ⟨rfl,rfl⟩ qW⟩
 refine sW ?_
 rw [show (!(b.any fun n=>!(a.any fun y=>(y.col == n.col) && decide (y.lev≥n.lev)))) = covB b a by rw [covB,List.not_any_eq_all_not];simp]
 exact .oA [] []
end Go.Proofs
namespace Go.Proofs
open Go Go.TL
set_option maxHeartbeats 4000000
theorem qp5 (s:Sch) (col kind:Int):Spc Tryz.prog JL [schT s,vI col,vI kind] [] (vB (isB s col kind)) []:=by
 by_cases h:0≤col∧col < s.cols.length
 ·obtain ⟨i,rfl⟩:=Int.eq_ofNat_of_zero_le h.1
  have hi:i < s.cols.length:=by omega
  have e1:decide ((i:Int)≥0) = true:=decide_eq_true (by omega)
  have e2:decide ((i:Int) < s.cols.length) = true:=decide_eq_true (by omega)
  have e3:isB s i kind = (s.cols[i].kind == kind):=by
   rw [isB,Int.toNat_natCast,qh,qk hi,decide_eq_true h.1,decide_eq_true h.2];rfl
  refine qd qc1 mixm (by simp) fun e _ hst=>qg ?_
  unfold Zt
  simp only [tZ,↓un_u,simprocAttr,e1,e2,Int.toNat_natCast,qe hi]
  rw [e3]
  refine ⟨by omega,?_⟩
  exact .oA [] []
 ·have e1:(decide (col≥0) && decide (col < (s.cols.length:Int))) = false:=by
   rw [Bool.and_eq_false_iff,decide_eq_false_iff_not,decide_eq_false_iff_not];omega
  have e3:isB s col kind = false:=by
   unfold isB
   rw [show (decide (0≤col) && decide (col < (s.cols.length:Int))) = false from e1];rfl
  rcases Nat.lt_or_ge col.toNat s.cols.length with hk | hk
  ·refine qd qc1 mixm (by simp) fun e _ hst=>qg ?_
   unfold Zt
   simp only [tZ,↓un_u,simprocAttr,e1,qe hk]
   rw [e3]
   exact .oA [] []
  ·have hj:(s.cols.map colT).getD col.toNat .junk = .junk:=qj6 hk
   refine qd qc1 mixm (by simp) fun e _ hst=>qg ?_
   unfold Zt
   simp only [tZ,↓un_u,simprocAttr,e1,hj,List.drop_succ_cons,List.drop_nil]
   rw [e3]
   exact .oA [] []
theorem zg1 (s:Sch) (hs:QO s) (l:List Pk):Spc Tryz.prog WI [schT s,vPs l] [] (vI (QS s l)) []:=by
 refine qd qR8 mixm (by simp) fun e _ hst=>qg ?_
 unfold KG
 refine sD ?_
 refine ⟨fun h=>?_,fun h=>?_⟩
 ·rw [QS,if_pos (by omega)]
  exact .oA [] []
 rw [QS,if_neg (by omega)]
 refine qw mixm (α:=Nat) [5,15] (fun i=>i≤l.length∧jt (dimE s l) i = 0) (fun i=>[(5,vI i)]) (fun i=>[(4096,.arr 2 [schT s] false)]) (fun i=>l.length - i) 0 ⟨by omega,rfl⟩ ?_ fun i hi=>?_
 ·exact .oA [(4096,some 4096)] []
 refine sD ?_
 refine ⟨fun h3=>?_,fun h3=>?_⟩
 ·have hi2:i < l.length:=by omega
  have hwi:=qj (i:=i) (by omega)
  have hpi:pkAt l i = l[i]:=by rw [pkAt,qk hi2]
  have hstep:=JU hi.2 hi2
  have hnext:=wC hi.2
  have hA:dimE s l i = if QR s l[i]≠0 then QR s l[i] else if isB s l[i].col 2 = false then 7 else if ((l.take i).any fun x=>x.col == l[i].col) = true then 10 else 0:=by rw [dimE,hpi]
  simp only [tZ,↓un_u,simprocAttr,Int.toNat_natCast,qe hi2]
  refine ⟨by omega,?_⟩
  refine C1.im (ze8 s hs l[i]) (by rfl) (by rfl) ?_
  simp only [tZ,↓un_u,simprocAttr,bne_iff_ne,bne_eq_false_iff_eq]
  refine ⟨by kernel_rfl,fun h4=>?_,fun h4=>?_⟩
  ·rw [if_pos h4] at hA
   rw [hstep (by rw [hA];exact h4),hA]
   exact .oA [] []
  rw [if_neg (by rw [h4];simp)] at hA
  simp only [tZ,↓un_u,simprocAttr,Int.toNat_natCast,qe hi2]
  refine ⟨by omega,?_⟩
  refine C1.im (qp5 s l[i].col 2) (by rfl) (by rfl) ?_
  simp only [tZ,↓un_u,simprocAttr,Bool.not_eq_true',Bool.not_eq_false']
  refine ⟨by kernel_rfl,fun h5=>?_,fun h5=>?_⟩
  ·rw [if_pos h5] at hA
   rw [hstep (by rw [hA];simp),hA]
   exact .oA [] []
  rw [if_neg (by rw [h5];simp)] at hA
  refine qw mixm (α:=Nat) [7] (fun k=>k≤i∧(l.take k).any (fun x=>x.col == l[i].col) = false) (fun k=>[(7,vI k)]) (fun k=>[(4096,.arr 2 [schT s] false)]) (fun k=>i - k) 0 ⟨by omega,rfl⟩ ?_ fun k hk=>?_
  ·exact .oA [(4096,some 4096)] []
  refine sD ?_
  refine ⟨fun h6=>?_,fun h6=>?_⟩
  ·have hk2:k < l.length:=by omega
   have hwk:=qj (i:=k) (by omega)
   simp only [tZ,↓un_u,simprocAttr,Int.toNat_natCast,qe hi2,qe hk2,hwk]
   refine ⟨by omega,by omega,by kernel_rfl,fun h7=>?_,fun h7=>?_⟩
   ·rw [if_pos (List.any_eq_true.2 ⟨l[k],List.mem_take_iff_getElem.2 ⟨k,by omega,rfl⟩,h7⟩)] at hA
    rw [hstep (by rw [hA];simp),hA]
    exact .oA [] []
   ·refine ⟨k + 1,⟨by omega,zY hk2 hk.2 h7⟩,by omega,?_⟩
    exact .oA [(4096,some 4096)] []
  ·have hki:k = i:=by omega
   subst hki
   rw [if_neg (by rw [hk.2];simp)] at hA
   simp only [tZ,↓un_u,simprocAttr,hwi]
   refine ⟨k + 1,⟨by omega,by rw [hnext,hA]⟩,by omega,?_⟩
   exact .oA [(4096,some 4096)] []
 ·have hil:i = l.length:=by omega
  subst hil
  rw [hi.2]
  exact .oA [] []
theorem qU4 (s:Sch) (m:Int) (l:List Int):Spc Tryz.prog Kv [schT s,vI m,vIs l] [] (vI (kI s m l)) []:=by
 refine qd qI7 mixm (by simp) fun e _ hst=>qg ?_
 unfold Jt
 refine sD ?_
 refine ⟨fun h=>?_,fun h=>?_⟩
 ·rw [kI,if_pos (by omega)]
  exact .oA [] []
 rw [kI,if_neg (by omega)]
 refine qw mixm (α:=Nat) [7,15] (fun i=>i≤l.length∧jt (qC2 s m l) i = 0) (fun i=>[(7,vI i)]) (fun i=>[(4096,.arr 2 [schT s] false)]) (fun i=>l.length - i) 0 ⟨by omega,rfl⟩ ?_ fun i hi=>?_
 ·exact .oA [(4096,some 4096)] []
 refine sD ?_
 refine ⟨fun h3=>?_,fun h3=>?_⟩
 ·have hi2:i < l.length:=by omega
  have hwi:=qj (i:=i) (by omega)
  have hpi:l.getD i 0 = l[i]:=qk hi2
  have hstep:=JU hi.2 hi2
  have hnext:=wC hi.2
  have hA:qC2 s m l i = if isB s l[i] 3 = false then 7 else if l[i] = m∨(l.take i).contains l[i] = true then 10 else 0:=by rw [qC2,hpi]
  have hH:=qB1 (l.take i) l[i] (by rw [List.length_take];omega)
  simp only [tZ,↓un_u,simprocAttr,Int.toNat_natCast,qe hi2]
  refine ⟨by omega,?_⟩
  refine C1.im (qp5 s l[i] 3) (by rfl) (by rfl) ?_
  simp only [tZ,↓un_u,simprocAttr,Bool.not_eq_true',Bool.not_eq_false']
  refine ⟨by kernel_rfl,fun h5=>?_,fun h5=>?_⟩
  ·rw [if_pos h5] at hA
   rw [hstep (by rw [hA];simp),hA]
   exact .oA [] []
  rw [if_neg (by rw [h5];simp)] at hA
  simp only [tZ,↓un_u,simprocAttr,Int.toNat_natCast,qe hi2,qa4,qM4]
  refine ⟨by omega,fun _=>by omega,fun _=>by omega,?_⟩
  refine C2.im (fun _=>hH) (fun _=>rfl) (by rfl) ?_
  simp only [tZ,↓un_u,simprocAttr,tD,beq_iff_eq,beq_eq_false_iff_ne,hwi]
  refine ⟨by kernel_rfl,fun h6=>?_,fun h6=>?_⟩
  ·rw [if_pos h6] at hA
   rw [hstep (by rw [hA];simp),hA]
   exact .oA [] []
  ·rw [if_neg (by grind)] at hA
   refine ⟨i + 1,⟨by omega,by rw [hnext,hA]⟩,by omega,?_⟩
   exact .oA [(4096,some 4096)] []
 ·have hil:i = l.length:=by omega
  subst hil
  rw [hi.2]
  exact .oA [] []
theorem zg2 (c:Cnd):Spc Tryz.prog WG [cnT c] [] (vB (JA c cnd0)) []:=by
 have h:=zf5 c cnd0 fun h=>.mk c (by rw [h];decide) (by rw [List.length_eq_zero_iff.1 (show c.kids.length = 0 from h)];simp)
 refine qd qR3 mixm (by simp) fun e _ hst=>qg ?_
 unfold KB
 refine sW ?_
 refine C1.shut [] h ?_ (by rfl) rfl ?_
 ·all_goals (try exact clA)
 refine sW ?_
 exact .oA [] []
theorem qU5 (s:Sch) (hE:schE s = 0) (hL:0 < s.lists.length) (q:Qst):Spc Tryz.prog Ko [schT s,qstT q] [] (vI (jI s q)) []:=by
 have hok:=qZ hE
 refine qd qF9 mixm (by simp) fun e _ hst=>qg ?_
 unfold Jf
 refine sW ?_
 refine C1.im (qp5 s q.meas 3) (by rfl) (by rfl) ?_
 simp only [tZ,↓un_u,simprocAttr,beq_iff_eq,beq_eq_false_iff_ne]
 refine ⟨fun h=>?_,fun h=>?_⟩
 ·rw [jI,if_pos h]
  refine C1.im (zg1 s hok.sm q.dims) (by rfl) (by rfl) ?_
  simp only [tZ,↓un_u,simprocAttr,bne_iff_ne,bne_eq_false_iff_eq]
  refine ⟨fun h2=>?_,fun h2=>?_⟩
  ·rw [if_pos h2]
   exact .oA [] []
  rw [if_neg (by rw [h2];simp)]
  simp only [tZ,↓un_u,simprocAttr,bne_iff_ne,bne_eq_false_iff_eq,tD,Bool.not_eq_true',Bool.not_eq_false']
  refine ⟨fun h3=>?_,fun h3=>?_⟩
  ·rw [if_pos h3]
   exact .oA [] []
  ·rw [if_neg (by grind)]
   exact .oA [] []
 rw [jI,if_neg h]
 refine ⟨fun h2=>?_,fun h2=>?_⟩
 ·rw [if_pos h2]
  simp only [tZ,↓un_u,simprocAttr,Bool.not_eq_true',Bool.not_eq_false']
  refine ⟨fun h3=>?_,fun h3=>?_⟩
  ·rw [if_pos h3]
   exact .oA [] []
  rw [if_neg (by rw [h3];simp)]
  refine C1.im (qU4 s q.meas q.terms) (by rfl) (by rfl) ?_
  refine sW ?_
  exact .oA [] []
 rw [if_neg h2]
 simp only [tZ,↓un_u,simprocAttr,Bool.not_eq_true',Bool.not_eq_false']
 refine ⟨fun h3=>?_,fun h3=>?_⟩
 ·rw [if_pos h3]
  exact .oA [] []
 rw [if_neg (by rw [h3];simp)]
 obtain ⟨b1,b2,b3⟩:=zQ.1 h3
 have hil:q.meas.toNat < s.cols.length:=by omega
 rw [qh,qk hil]
 simp only [tZ,↓un_u,simprocAttr,qe hil,tD]
 refine ⟨by omega,fun h4=>?_,fun h4=>?_⟩
 ·rw [if_pos h4]
  exact .oA [] []
 rw [if_neg h4]
 refine C1.im (qj7 s hok.sm hL q.event) (by rfl) (by rfl) ?_
 refine sW ?_
 exact .oA [] []
theorem qt9 (s:Sch) (hs:QO s) (hL:0 < s.lists.length) (q:Qst):Spc Tryz.prog Qg [schT s,qstT q] [] (vI (qstE s q)) []:=by
 refine qd qm8 mixm (by simp) fun e _ hst=>qg ?_
 unfold yD
 refine sW ?_
 refine C1.im (QP s hs) (by rfl) (by rfl) ?_
 simp only [tZ,↓un_u,simprocAttr,bne_iff_ne,bne_eq_false_iff_eq]
 refine ⟨fun h=>?_,fun h=>?_⟩
 ·rw [qstE,if_pos h]
  exact .oA [] []
 rw [qstE,if_neg (by rw [h];simp)]
 refine C1.im (ZP q.name) (by rfl) (by rfl) ?_
 simp only [tZ,↓un_u,simprocAttr,Bool.not_eq_true',Bool.not_eq_false']
 refine ⟨fun h2=>?_,fun h2=>?_⟩
 ·rw [if_pos h2]
  exact .oA [] []
 rw [if_neg (by rw [h2];simp)]
 refine sD ?_
 refine ⟨fun h3=>?_,fun h3=>?_⟩
 ·rw [if_pos (by omega)]
  exact .oA [] []
 rw [if_neg (by omega)]
 refine C1.im (qj7 s hs hL q.filt) (by rfl) (by rfl) ?_
 simp only [tZ,↓un_u,simprocAttr,bne_iff_ne,bne_eq_false_iff_eq]
 refine ⟨fun h4=>?_,fun h4=>?_⟩
 ·rw [if_pos h4]
  exact .oA [] []
 rw [if_neg (by rw [h4];simp)]
 refine C1.im (qU5 s h hL q) (by rfl) (by rfl) ?_
 simp only [tZ,↓un_u,simprocAttr,bne_iff_ne,bne_eq_false_iff_eq]
 refine ⟨fun h5=>?_,fun h5=>?_⟩
 ·rw [if_pos h5]
  exact .oA [] []
 rw [if_neg (by rw [h5];simp)]
 refine C2.im (fun _=>zg2 q.event) (fun _=>rfl) (by rfl) ?_
 simp only [tZ,↓un_u,simprocAttr,tD,bne_iff_ne,bne_eq_false_iff_eq,Bool.not_eq_true',Bool.not_eq_false']
 refine ⟨fun h6=>?_,fun h6=>?_⟩
 ·rw [if_pos (by grind)]
  exact .oA [] []
 ·rw [if_neg (by grind)]
  exact .oA [] []
end Go.Proofs
namespace Go.Proofs
open Go Go.TL
set_option maxHeartbeats 4000000
theorem zg3 (q:Qst) (k:Int) (ht:q.terms.length < 4611686018427387904):Spc Tryz.prog WF [qstT q,vI k] [] (vB (ze7 q k)) []:=by
 refine qd qQ7 mixm (by simp) fun e _ hst=>qg ?_
 unfold Ky
 refine sW ?_
 refine C2.im (fun _=>qB1 q.terms k ht) (fun _=>rfl) (by rfl) ?_
 refine sW ?_
 rw [show (q.meas == k || q.terms.contains k) = ze7 q k from rfl]
 exact .oA [] []
theorem zg4:∀ (m l:List Pk),(Yd l m).length≤l.length + m.length
 | [],l=>Nat.le_refl _
 | p :: m,l=>by
   have h1:=zg4 m (YM l p.col p.lev)
   have h2:=qk0 l p.col p.lev
   unfold Yd at h1 ⊢
   rw [List.foldl_cons,List.length_cons]
   omega
theorem qC8 (s:Sch) (c:Cnd):(jH s c).length≤40:=by
 unfold jH
 split
 ·simp
 ·rename_i h
  obtain ⟨hE,k2,k3,k4⟩:=qp1 (Classical.byContradiction h)
  have h1:=JD c 41 (by omega) k2
  have h2:=zf8 s (atsC c) []
  simp only [List.length_nil] at h2
  unfold zf7 at h2
  omega
structure QstOk (s:Sch) (q:Qst):Prop where
 sch:schE s = 0
 kind:1≤q.kind∧q.kind≤3
 filt:chkC s q.filt = 0
 dims:q.kind = 1→QS s q.dims = 0∧(q.meas = -1∨isB s q.meas 3 = true)
 nd:q.dims.length≤3
 terms:q.kind = 2→isB s q.meas 3 = true∧kI s q.meas q.terms = 0
 nt:q.terms.length≤3
 event:q.kind = 3→isB s q.meas 3 = true∧0≤(qh s q.meas.toNat).low∧chkC s q.event = 0
 d0:q.kind≠1→q.dims = []
 t0:q.kind≠2→q.terms = []
 e0:q.kind≠3→JA q.event cnd0 = true
theorem qC9 {s:Sch} {q:Qst} (h:qstE s q = 0):QstOk s q:=by
 unfold qstE at h
 split at h
 ·rename_i h1;exact absurd h h1
 rename_i h1
 split at h
 ·cases h
 rename_i h2
 split at h
 ·cases h
 rename_i h3
 split at h
 ·rename_i h4;exact absurd h h4
 rename_i h4
 split at h
 ·rename_i h5;exact absurd h h5
 rename_i h5
 split at h
 ·cases h
 rename_i h6
 have hp:jI s q = 0:=Classical.byContradiction h5
 unfold jI at hp
 have hd:q.kind = 1→QS s q.dims = 0∧(q.meas = -1∨isB s q.meas 3 = true):=fun k=>by
  rw [if_pos k] at hp
  grind
 have ht:q.kind = 2→isB s q.meas 3 = true∧kI s q.meas q.terms = 0:=fun k=>by
  rw [if_neg (by omega),if_pos k] at hp
  grind
 have hd0:q.kind≠1→q.dims = []:=fun k=>List.length_eq_zero_iff.1 (by omega)
 have ht0:q.kind≠2→q.terms = []:=fun k=>List.length_eq_zero_iff.1 (by omega)
 refine ⟨Classical.byContradiction h1,by omega,Classical.byContradiction h4,hd,?_,ht,?_,fun k=>?_,hd0,ht0,fun k=>?_⟩
 ·by_cases k:q.kind = 1
  ·have:=(hd k).1
   unfold QS at this
   grind
  ·rw [hd0 k];simp
 ·by_cases k:q.kind = 2
  ·have:=(ht k).2
   unfold kI at this
   grind
  ·rw [ht0 k];simp
 ·rw [if_neg (by omega),if_neg (by omega)] at hp
  grind
 ·grind
theorem qN9 (s:Sch):∀ (m l:List Pk),(m.foldl (fun l p=>YM l p.col (ZR s p.col p.lev)) l).length≤l.length + m.length
 | [],l=>Nat.le_refl _
 | p :: m,l=>by
   have h1:=qN9 s m (YM l p.col (ZR s p.col p.lev))
   have h2:=qk0 l p.col (ZR s p.col p.lev)
   rw [List.foldl_cons,List.length_cons]
   omega
theorem qO0 (s:Sch) (q:Qst):∀ (m:List Nat) (l:List Pk),(m.foldl (qr3 s q) l).length≤l.length + m.length
 | [],l=>Nat.le_refl _
 | k :: m,l=>by
   have h1:=qO0 s q m (qr3 s q l k)
   have h2:(qr3 s q l k).length≤l.length + 1:=by
    unfold qr3
    split
    ·exact qk0 _ _ _
    ·omega
   rw [List.foldl_cons,List.length_cons]
   omega
def zR1 (s:Sch) (q:Qst):List Pk:=if q.kind = 3 then Yd (jH s q.filt) (jH s q.event) else jH s q.filt
theorem zA5 (s:Sch) (q:Qst):(zR1 s q).length≤80:=by
 have h1:=qC8 s q.filt
 have h2:=qC8 s q.event
 have h3:=zg4 (jH s q.event) (jH s q.filt)
 unfold zR1
 split <;> omega
theorem zR2 (s:Sch) (q:Qst):(qC3 s q).length≤100:=by
 unfold qC3 jk6
 split
 ·simp
 ·rename_i h
  have hq:=qC9 (Classical.byContradiction h)
  have h1:=zA5 s q
  unfold zR1 at h1
  have h2:=qN9 s q.dims (if q.kind = 3 then Yd (jH s q.filt) (jH s q.event) else jH s q.filt)
  have h3:=qO0 s q (List.range (s.cols.length - 1)) (q.dims.foldl (fun l p=>YM l p.col (ZR s p.col p.lev)) (if q.kind = 3 then Yd (jH s q.filt) (jH s q.event) else jH s q.filt))
  have h4:=(qZ hq.sch).nc
  have h5:=hq.nd
  rw [List.length_range] at h3
  omega
end Go.Proofs
namespace Go.Proofs
open Go Go.TL
def hd (r:List Int):Int:=r.getD 0 0
def putS (row:List Int):List (List Int)×Bool→List Int→List (List Int)×Bool:=fun x r=>
 if hd r = hd row then x
 else if hd r > hd row∧x.2 = false then (x.1 ++ [row] ++ [r],true)
 else (x.1 ++ [r],x.2)
def putR (l:List (List Int)) (row:List Int):List (List Int):=
 let x:=l.foldl (putS row) ([],false)
 if x.2 then x.1 else x.1 ++ [row]
def atR (id:Int) (r:List Int):Bool:=decide (0 < r.length) && (hd r == id)
def jq8 (s:Src) (id:Int):Int:=if s.rows.any (atR id) = true then (s.rows.findIdx (atR id):Int) else -1
def asc2 (l:List Int) (i:Nat):Bool:=decide (i = 0) || decide (l.getD (i - 1) 0 < l.getD i 0)
def jl2 (s:Src):Bool:=(List.range s.rows.length).all fun i=>(rowE s.sch (s.rows.getD i []) == 0) && (decide (i = 0) || decide (hd (s.rows.getD (i - 1) []) < hd (s.rows.getD i [])))
def jq9 (s:Src):Bool:=(List.range s.gone.length).all fun i=>decide (1≤s.gone.getD i 0) && decide (s.gone.getD i 0≤1048575) && asc2 s.gone i && decide (jq8 s (s.gone.getD i 0) < 0)
def srcB (s:Src):Bool:=(schE s.sch == 0) && decide (s.rows.length≤200) && decide (s.gone.length≤300) && decide (0≤s.ver) && decide (s.ver≤300) && jl2 s && jq9 s
end Go.Proofs
namespace Go.Proofs
open Go Go.TL
def AscR (l:List (List Int)):Prop:=l.Pairwise fun a b=>hd a < hd b
end Go.Proofs
namespace Go.Proofs
open Go Go.TL
structure SrcOk (s:Src):Prop where
 sch:schE s.sch = 0
 nr:s.rows.length≤200
 ng:s.gone.length≤300
 ver:0≤s.ver∧s.ver≤300
 rows:∀ r∈s.rows,rowE s.sch r = 0
 asc:AscR s.rows
 gone:∀ g∈s.gone,1≤g∧g≤1048575∧jq8 s g < 0
 gasc:s.gone.Pairwise fun a b=>a < b
end Go.Proofs
namespace Go.Proofs
open Go Go.TL
set_option maxHeartbeats 4000000
open So
end Go.Proofs
namespace Go.Proofs
open Go Go.TL
set_option maxHeartbeats 4000000
open So
end Go.Proofs
namespace Go.Proofs
open Go Go.TL
def ordB (l:List (List Int)):Bool:=(List.range l.length).all fun i=>decide (0 < (l.getD i []).length) && (decide (i = 0) || decide (hd (l.getD (i - 1) []) < hd (l.getD i [])))
def hasK (l:List (List Int)) (k:Int):Bool:=l.any fun r=>hd r == k
def appR (a:List (List Int)) (g:List Int) (rs:List (List Int)):List (List Int):=rs.foldl putR (a.filter fun r=>!g.contains (hd r))
def ascI (l:List Int):Bool:=(List.range l.length).all fun i=>asc2 l i
def appE (a:Ext) (c:Chg):Int:=
 if ordB a.rows = false∨ordB c.rows = false∨ascI c.gone = false∨(c.rows.any fun r=>decide (r.length≠a.picks.length + 1)) = true then 11
 else if (c.gone.any fun k=>!hasK a.rows k) = true then 21 else if (c.gone.any fun k=>hasK c.rows k) = true then 10 else 0
structure ExtOk (x:Ext):Prop where
 ord:ordB x.rows = true
 len:∀ r∈x.rows,r.length = x.picks.length + 1
end Go.Proofs
namespace Go.Proofs
open Go Go.TL
set_option maxRecDepth 4000
set_option maxHeartbeats 8000000
open So
def RwSm (l:List (List Int)):Prop:=l.length≤1000000∧∀ r∈l,r.length * 8≤140737488355328
structure ExtSm (x:Ext):Prop where
 rows:RwSm x.rows
 picks:x.picks.length * 16≤140737488355328
structure ChgSm (c:Chg):Prop where
 rows:RwSm c.rows
 gone:c.gone.length≤1000000
end Go.Proofs
namespace Go.Proofs
open Go Go.TL
set_option maxHeartbeats 8000000
open So
def idxN (n:Int):List Int→Nat
 | []=>0
 | x :: r=>if x = n then 0 else idxN n r + 1
theorem zR3 {n:Int}:∀ {l:List Int} {i:Nat} (h:i < l.length),n∉l.take i→l[i] = n→idxN n l = i
 | [],i,h,_,_=>by simp at h
 | x :: r,0,h,_,hp=>by simp at hp;simp [idxN,hp]
 | x :: r,i + 1,h,h1,hp=>by
   simp only [List.take_succ_cons,List.mem_cons,not_or] at h1
   simp only [idxN]
   rw [if_neg (fun e=>h1.1 e.symm),zR3 (l:=r) (i:=i) (by simpa using h) h1.2 (by simpa using hp)]
def zv8 (l:List Int) (n:Int):Int:=if n∈l then idxN n l else -1
theorem qk3 (l:List Int) (n:Int) (hl:l.length < 4611686018427387904):Spc Tryz.prog wW [vIs l,vI n] [] (vI (zv8 l n)) []:=by
 refine qd qc3 mixm (by simp) fun e _ hst=>qg ?_
 unfold wA
 refine sW ?_
 refine qw mixm (α:=Nat) [8] (fun i=>i≤l.length∧(n∉l.take i)) (fun i=>[(8,vI i)]) (fun i=>[]) (fun i=>l.length - i) 0 ⟨by omega,?_⟩ ?_ fun i hi=>?_
 ·simp
 ·exact .oA [] []
 simp only [tZ,↓un_u,simprocAttr,decide_eq_true_eq,decide_eq_false_iff_not]
 refine ⟨fun h=>?_,fun h=>?_⟩
 ·have hi2:i < l.length:=by omega
  have hwi:=qj (i:=i) (by omega)
  simp only [tZ,↓un_u,simprocAttr,Int.toNat_natCast,qe hi2,hwi,beq_iff_eq,beq_eq_false_iff_ne]
  refine ⟨by omega,fun h3=>?_,fun h3=>⟨i + 1,⟨by omega,?_⟩,by omega,?_⟩⟩
  ·have hm:n∈l:=by rw [h3];exact List.getElem_mem hi2
   rw [zv8,if_pos hm,zR3 hi2 hi.2 h3.symm]
   exact .imR rfl rfl
  ·rw [qR hi2,List.mem_append]
   rintro (h4 | h4)
   ·exact hi.2 h4
   ·simp at h4;exact h3 h4
  ·exact .oA [] []
 ·have h2:i = l.length:=by omega
  have h3:=hi.2
  rw [h2,List.take_length] at h3
  rw [zv8,if_neg h3]
  exact .imR rfl rfl
theorem Qb (l:List Int) (n:Int) (hl:l.length < 4611686018427387904):Spc Tryz.prog ja [vIs l,vI n] [] (vB (l.contains n)) []:=by
 refine qd Wi mixm (by simp) fun e _ hst=>qg ?_
 unfold jQ
 refine sW ?_
 refine C1.im (qk3 l n hl) rfl (by rfl) ?_
 refine sW ?_
 refine .imR ?_ rfl
 unfold zv8
 by_cases h:n∈l
 ·rw [if_pos h,List.contains_iff_mem.2 h];simp
 ·rw [if_neg h]
  cases hc:l.contains n
  ·simp
  ·exact absurd (List.contains_iff_mem.1 hc) h
end Go.Proofs
