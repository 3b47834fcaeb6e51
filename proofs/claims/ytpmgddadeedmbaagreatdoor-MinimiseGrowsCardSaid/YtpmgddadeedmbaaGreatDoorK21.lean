/- A part of the proof: trees of Go values, short forms, contracts. -/
import Derived.WalkKit
import Derived.Still
import Derived.MapKept
import GoSem.Builtin.Cap
import Derived.Laws.Externs
import GoSem.Extern.SlicesOverlaps
import Derived.Carry
import Derived.ProofKit
import Derived.OpenShut
import Derived.HandedShaped
import Derived.Lay
import Derived.LaidLaws
import Derived.MakeChecks
import Derived.SevenTiedAt
import Derived.Test.YtpmgddadeedmbaaGreatDoorChecked
import Derived.Test.YtpmgddadeedmbaaGreatDoorK20
set_option linter.unusedSimpArgs false
set_option linter.unusedVariables false
namespace Go.Proofs
open Go Go.TL
set_option maxRecDepth 4000
set_option maxHeartbeats 8000000
def canF (f:Nat→Int):Nat→List Pk
 | 0=>[]
 | n + 1=>canF f n ++ (if 0 < f n then [⟨n,f n⟩] else [])
theorem Zy {f g:Nat→Int}:∀ {n:Nat},(∀ k,k < n→f k = g k)→canF f n = canF g n
 | 0,_=>rfl
 | n + 1,h=>by rw [canF,canF,Zy fun k hk=>h k (by omega),h n (by omega)]
theorem qV4 (f:Nat→Int):∀ n,(canF f n).length≤n
 | 0=>Nat.le_refl _
 | n + 1=>by
   have:=qV4 f n
   rw [canF,List.length_append]
   split <;> simp <;> omega
theorem qG7 {f:Nat→Int}:∀ {n:Nat},(∀ k,k < n→f k≤0)→canF f n = []
 | 0,_=>rfl
 | n + 1,h=>by
   have:=h n (by omega)
   rw [canF,qG7 fun k hk=>h k (by omega),if_neg (by omega)];rfl
theorem zh5 {f:Nat→Int} {n:Nat}:∀ d,(∀ k,n≤k→k < n + d→f k≤0)→canF f (n + d) = canF f n
 | 0,_=>rfl
 | d + 1,h=>by
   have:=h (n + d) (by omega) (by omega)
   rw [show n + (d + 1) = n + d + 1 from rfl,canF,if_neg (by omega),List.append_nil,zh5 d fun k h1 h2=>h k h1 (by omega)]
theorem yJ {f:Nat→Int} {p:Pk}:∀ {n:Nat},p∈canF f n↔∃ k,k < n∧0 < f k∧p = ⟨k,f k⟩
 | 0=>by simp [canF]
 | n + 1=>by
   rw [canF,List.mem_append,yJ]
   constructor
   ·rintro (⟨k,h1,h2,h3⟩ | h)
    ·exact ⟨k,by omega,h2,h3⟩
    ·split at h
     ·rename_i h2;exact ⟨n,by omega,h2,by simpa using h⟩
     ·simp at h
   ·rintro ⟨k,h1,h2,h3⟩
    by_cases e:k = n
    ·subst e;right;rw [if_pos h2];simpa using h3
    ·exact .inl ⟨k,by omega,h2,h3⟩
def upd (f:Nat→Int) (c:Nat) (v:Int):Nat→Int:=fun k=>if k = c then max (f k) v else f k
theorem qP5 {f:Nat→Int} (hf:∀ k,0≤f k) (c:Nat) (v:Int):∀ m,∀ x,(canF f m).foldl (qL3 c v) ([],decide (v≤0)) = x→
 (m≤c→x.2 = decide (v≤0))∧(x.2 = true→x.1 = canF (upd f c v) m)∧(x.2 = false→0 < v∧x.1 ++ (if c < m then [⟨c,v⟩] else []) = canF (upd f c v) m)
 | 0,x,h=>by
   subst h
   refine ⟨fun _=>rfl,fun _=>rfl,fun h=>⟨?_,by rw [if_neg (by omega)];rfl⟩⟩
   have:=of_decide_eq_false h
   omega
 | m + 1,x,h=>by
   rw [canF,List.foldl_append] at h
   obtain ⟨i1,i2,i3⟩:=qP5 hf c v m _ rfl
   generalize (canF f m).foldl (qL3 c v) ([],decide (v≤0)) = y at h i1 i2 i3
   obtain ⟨l,b⟩:=y
   dsimp only at i1 i2 i3
   have hm:=hf m
   by_cases h0:0 < f m
   ·rw [if_pos h0,List.foldl_cons,List.foldl_nil] at h
    unfold qL3 at h
    dsimp only at h
    rcases Nat.lt_trichotomy m c with q | q | q
    ·rw [if_neg (by omega),if_neg (by omega)] at h
     subst h
     have hu:upd f c v m = f m:=by rw [upd,if_neg (by omega)]
     refine ⟨fun _=>i1 (by omega),fun e=>?_,fun e=>⟨(i3 e).1,?_⟩⟩
     ·dsimp only at e ⊢
      rw [i2 e,canF,hu,if_pos h0]
     ·dsimp only at e ⊢
      have:=(i3 e).2
      rw [if_neg (by omega),List.append_nil] at this
      rw [if_neg (by omega),List.append_nil,this,canF,hu,if_pos h0]
    ·subst q
     rw [if_pos rfl,if_neg (show ¬ ((m:Int) > m∧b = false) from fun h=>by omega)] at h
     subst h
     have hu:upd f m v m = max (f m) v:=by rw [upd,if_pos rfl]
     refine ⟨fun e=>by omega,fun _=>?_,fun e=>by simp at e⟩
     dsimp only
     have:l = canF (upd f m v) m:=by
      cases b with
      | true=>exact i2 rfl
      | false=>
        have:=(i3 rfl).2
        rw [if_neg (by omega),List.append_nil] at this
        exact this
     rw [this,canF,hu,if_pos (by omega)]
    ·have hu:upd f c v m = f m:=by rw [upd,if_neg (by omega)]
     have hc:((m:Int) > (c:Int)):=by omega
     cases b with
     | true=>
       rw [if_neg (show ¬ ((m:Int) = c) by omega),if_neg (show ¬ ((m:Int) > c∧true = false) from fun h=>by simp at h)] at h
       subst h
       refine ⟨fun e=>by omega,fun _=>?_,fun e=>by simp at e⟩
       dsimp only
       rw [i2 rfl,canF,hu,if_pos h0]
     | false=>
       rw [if_neg (show ¬ ((m:Int) = c) by omega),if_pos ⟨hc,rfl⟩] at h
       subst h
       refine ⟨fun e=>by omega,fun _=>?_,fun e=>by simp at e⟩
       dsimp only
       have:=(i3 rfl).2
       rw [if_pos q] at this
       rw [this,canF,hu,if_pos h0]
   ·rw [if_neg h0,List.foldl_nil] at h
    subst h
    dsimp only
    have f0:f m = 0:=by omega
    by_cases q:m = c
    ·subst q
     have hu:upd f m v m = max 0 v:=by rw [upd,if_pos rfl,f0]
     refine ⟨fun e=>by omega,fun e=>?_,fun e=>⟨(i3 e).1,?_⟩⟩
     ·have hv:v≤0:=by
       have:=i1 (Nat.le_refl _)
       rw [e] at this
       exact of_decide_eq_true this.symm
      rw [i2 e,canF,hu,if_neg (by omega),List.append_nil]
     ·have:=(i3 e).2
      rw [if_neg (by omega),List.append_nil] at this
      have hv:=(i3 e).1
      rw [this,canF,hu,if_pos (by omega),if_pos (by omega),show max 0 v = v by omega]
    ·have hu:upd f c v m = f m:=by rw [upd,if_neg q]
     refine ⟨fun e=>i1 (by omega),fun e=>?_,fun e=>⟨(i3 e).1,?_⟩⟩
     ·rw [i2 e,canF,hu,if_neg h0,List.append_nil]
     ·have:=(i3 e).2
      rw [canF,hu,if_neg h0,List.append_nil,← this]
      by_cases q2:c < m
      ·rw [if_pos q2,if_pos (by omega)]
      ·rw [if_neg q2,if_neg (by omega)]
theorem qP6 {f:Nat→Int} (hf:∀ k,0≤f k) {c n:Nat} (hc:c < n) (v:Int):qa9 (canF f n) c v = canF (upd f c v) n:=by
 obtain ⟨_,i2,i3⟩:=qP5 hf c v n _ rfl
 unfold qa9
 dsimp only
 split
 ·rename_i h;exact i2 h
 ·rename_i h
  have:=(i3 (by simpa using h)).2
  rw [if_pos hc] at this
  exact this
abbrev lvF (lv:List Int):Nat→Int:=fun k=>lv.getD k 0
theorem jo4 {lv:List Int} {c:Nat} (hc:c < lv.length) (v:Int):lvF (lv.set c (max lv[c] v)) = upd (lvF lv) c v:=by
 funext k
 unfold lvF upd
 simp only [List.getD_eq_getElem?_getD,List.getElem?_set]
 by_cases e:c = k
 ·subst e
  simp [hc]
 ·rw [if_neg e,if_neg (fun h=>e h.symm)]
theorem jo5 {lv:List Int} (h:∀ x∈lv,0≤x) (k:Nat):0≤lvF lv k:=by
 unfold lvF
 by_cases hk:k < lv.length
 ·rw [qk hk];exact h _ (List.getElem_mem hk)
 ·simp [List.getD,List.getElem?_eq_none (show lv.length≤k by omega)]
theorem jc3 (n:Nat):canF (lvF (List.replicate n 0)) n = []:=qG7 fun k hk=>by
 unfold lvF
 rw [qk (by simpa using hk),List.getElem_replicate];omega
theorem qs4 (s:Sch) (hs:Ze s) (c:Cnd):Spc Tryz.prog yT [schT s,cnT c] [] (vPs (jS s c)) []:=by
 refine qd qk5 mixm (by simp) fun e _ hst=>qg ?_
 unfold yA
 refine sW ?_
 refine C1.im (kT s hs c) (by rfl) (by rfl) ?_
 simp only [tZ,↓un_u,simprocAttr,bne_iff_ne,bne_eq_false_iff_eq]
 refine ⟨fun h=>?_,fun h=>?_⟩
 ·rw [jS,if_pos h]
  exact .oA [] []
 obtain ⟨hE,k2,k3,k4⟩:=qr9 h
 have hok:=qZ hE
 have hnc:=hok.nc
 have hal:=qU2 c 41 (by omega) k2
 have hao:=zw3 c k4
 have hN:jS s c = (atsC c).foldl (zg5 s) []:=by rw [jS,if_neg (by rw [h];simp)];rfl
 rw [hN]
 refine ⟨by omega,?_⟩
 refine C1.im (Kp c 41 (by omega) (by omega) k2) (by rfl) (by rfl) ?_
 generalize atsC c = L at hal hao ⊢
 refine sW ?_
 refine qu mixm (α:=Nat×List Int) [23] (fun y=>y.1≤L.length∧y.2.length = s.cols.length∧(∀ x∈y.2,0≤x)∧canF (lvF y.2) s.cols.length = (L.take y.1).foldl (zg5 s) []) (fun y=>[(23,vI y.1)]) (fun y=>[(4096,.arr 2 [schT s] false),(16396,.arr 1 (y.2.map vI) false)]) (fun y=>L.length - y.1) (0,List.replicate s.cols.length 0) ⟨by simp,by simp,fun x hx=>by rw [(List.mem_replicate.1 hx).2];omega,jc3 _⟩ ?_ fun y hy=>?_
 ·rw [List.map_replicate]
  refine .of [(4096,some 4096),(16396,some 16396)] [] rfl (by first | rfl | (rw [hst];rfl)) ?_ ?_
  all_goals (try simp only [tL,simprocAttr,List.map_append,List.map_cons,List.map_nil,List.cons_append,List.nil_append,Int.toNat_natCast,jj0])
  all_goals (try (repeat' (first | exact qR | (apply zd;intro _;exact ⟨rfl,rfl⟩) | (apply qz;intro _;exact ⟨rfl,rfl⟩) | with_reducible apply qG | with_reducible refine qE ⟨rfl,rfl⟩ ?_ | exact qO | with_reducible apply qA | with_reducible refine qJ ⟨rfl,rfl,?_⟩ ?_ | with_reducible apply And.intro | exact qD rfl | exact qD (by assumption) | (refine ⟨⟨?_,rfl,?_,rfl,?_⟩,trivial⟩ <;> first | (simp;done) | (apply qz;intro _;exact ⟨rfl,rfl⟩)) | trivial | rfl | (rw [qh (by omega)]) | omega)))
 obtain ⟨i,lv⟩:=y
 obtain ⟨y1,y2,y3,y4⟩:=hy
 dsimp only at y1 y2 y3 y4
 refine sD ?_
 refine ⟨fun h3=>?_,fun h3=>?_⟩
 ·have hi2:i < L.length:=by omega
  have hwi:=qh (i:=i) (by omega)
  obtain ⟨hnd,ha⟩:=hao _ (List.getElem_mem hi2)
  obtain ⟨n1,n2,n3⟩:=qF8 hE hnd ha
  have h59:=qf7 (c:=L[i].col) hE
  obtain ⟨_,c1,c2,_⟩:=Wb (s:=s) (c:=L[i].col) (by omega)
  have hstep:(L.take (i + 1)).foldl (zg5 s) [] = qa9 ((L.take i).foldl (zg5 s) []) L[i].col (decN s L[i]):=by
   rw [qY hi2,List.foldl_append];rfl
  simp only [tZ,↓un_u,simprocAttr,Int.toNat_natCast,qe hi2,zX]
  refine ⟨by omega,?_⟩
  generalize L[i] = a at hnd ha n1 n2 n3 h59 c1 c2 hstep ⊢
  refine qu mixm (α:=Nat) [8] (fun n=>n≤decN s a) (fun n=>[(8,vI n)]) (fun n=>[(4096,.arr 2 [schT s] false),(16396,.arr 1 (lv.map vI) false),(28680,.arr 6 [cnT a] false)]) (fun n=>decN s a - n) 0 (by omega) ?_ fun n hn=>?_
  ·exact .oA [(4096,some 4096),(16396,some 16396),(28680,some 28680)] []
  have hwn:=qh (i:=n) (by omega)
  refine sW ?_
  refine C1.im (qb3 s hE a hnd ha n (by omega)) (by rfl) (by rfl) ?_
  simp only [tZ,↓un_u,simprocAttr,Bool.not_eq_true',Bool.not_eq_false',hwn]
  refine ⟨fun h4=>?_,fun h4=>?_⟩
  ·have:n≠decN s a:=fun e=>by rw [e,n2] at h4;cases h4
   refine ⟨n + 1,by omega,by omega,?_⟩
   exact .oA [(4096,some 4096),(16396,some 16396),(28680,some 28680)] []
  ·have:n = decN s a:=by
    refine Nat.le_antisymm hn (Nat.le_of_not_lt fun e=>?_)
    rw [n3 n e] at h4;cases h4
   subst this
   obtain ⟨q,hq⟩:=Int.eq_ofNat_of_zero_le (show 0≤a.col by omega)
   have hq2:q < lv.length:=by omega
   simp only [tZ,↓un_u,simprocAttr,hq,Int.toNat_natCast,qe hq2,zx1,hwi,show ∀ a b:Int,repl (vI a) 0 (vI b) = vI b from fun _ _=>rfl]
   repeat (first | refine ⟨by omega,?_⟩ | refine ⟨by kernel_rfl,?_⟩)
   refine ⟨(i + 1,lv.set q (max lv[q] (decN s a))),⟨by dsimp only;omega,by rw [List.length_set];exact y2,fun x hx=>?_,?_⟩,by dsimp only;omega,?_⟩
   ·rcases List.mem_or_eq_of_mem_set hx with h5 | h5
    ·exact y3 x h5
    ·rw [h5];omega
   ·dsimp only
    rw [hstep,← y4,hq,qP6 (jo5 y3) (by omega),jo4 hq2]
   ·rw [← List.map_set]
    exact .oA [(4096,some 4096),(16396,some 16396)] []
 ·have hil:i = L.length:=by omega
  subst hil
  rw [List.take_length] at y4
  rw [← y4]
  simp only [Int.toNat_natCast]
  refine ⟨y2,?_⟩
  rw [← y2]
  refine qu mixm (α:=Nat) [48,9] (fun i=>i≤lv.length) (fun i=>[(9,.asl 1 (canF (lvF lv) i).length),(48,vI i)]) (fun i=>[(16396,.arr 1 (lv.map vI) false),(1,.arr 2 ((canF (lvF lv) i).map pkT) false)]) (fun i=>lv.length - i) 0 (by omega) ?_ fun j hj=>?_
  ·exact .oA [(16396,some 16396),(1,none)] []
  have hcl:=qV4 (lvF lv) j
  refine sD ?_
  refine ⟨fun h5=>?_,fun h5=>?_⟩
  ·have hj2:j < lv.length:=by omega
   have hwj:=qh (i:=j) (by omega)
   have hg:lvF lv j = lv[j]:=qk hj2
   have hc:canF (lvF lv) (j + 1) = canF (lvF lv) j ++ (if 0 < lv[j] then [⟨(j:Nat),lv[j]⟩] else []):=by rw [canF,hg]
   simp only [tZ,↓un_u,simprocAttr,Int.toNat_natCast,qe hj2,hwj,gt_iff_lt,tD]
   refine ⟨by omega,by omega,fun h6=>?_,fun h6=>?_⟩
   ·rw [if_pos h6] at hc
    refine ⟨by omega,j + 1,by omega,by omega,?_⟩
    rw [hc,List.map_append,List.length_append]
    exact .oA [(16396,some 16396),(1,some 1)] []
   ·rw [if_neg h6,List.append_nil] at hc
    refine ⟨j + 1,by omega,by omega,?_⟩
    rw [hc]
    exact .oA [(16396,some 16396),(1,some 1)] []
  ·rw [show lv.length = j by omega]
   exact .oA [] [1]
theorem WI (p n:Pk):Spc Tryz.prog zS [pkT p,.ip (pkT n).cells] [] (vB ((p.col == n.col) && decide (p.lev≥n.lev))) []:=by
 refine qd KT mixm (by simp) fun e _ hst=>qg ?_
 unfold jQ
 refine sW ?_
 exact .oA [] []
theorem yK (p:Pk→Bool) (f:FuncId) (caps:List T) (hcap:imL caps = true) (l:List Pk) (hf:∀ y∈l,Spc Tryz.prog f (pkT y :: caps) [] (vB (p y)) []) (hl:l.length < 4611686018427387904) :
 Spc Tryz.prog zC [.sl 2 (l.map pkT),.clo f caps] [] (vI (idxI p l)) []:=by
 refine qd Kc mixm (by simp) fun e _ hst=>qg ?_
 unfold jA
 refine sW ?_
 refine qu mixm (α:=Nat) [8] (fun i=>i≤l.length∧((l.take i).any p = false)) (fun i=>[(8,vI i)]) (fun i=>[]) (fun i=>l.length - i) 0 ⟨by omega,?_⟩ ?_ fun i hi=>?_
 ·simp
 ·exact .oA [] []
 simp only [tZ,↓un_u,simprocAttr,decide_eq_true_eq,decide_eq_false_iff_not]
 refine ⟨fun h=>?_,fun h=>?_⟩
 ·have hi2:i < l.length:=by omega
  have hwi:=qh (i:=i) (by omega)
  simp only [tZ,↓un_u,simprocAttr,Int.toNat_natCast,qe hi2,hwi,qd0]
  refine ⟨by omega,?_⟩
  refine C1.im (hf l[i] (List.getElem_mem hi2)) (WZ rfl hcap) rfl ?_
  refine sW ?_
  refine ⟨fun h3=>?_,fun h3=>⟨i + 1,⟨by omega,zQ hi2 hi.2 h3⟩,by omega,?_⟩⟩
  ·rw [idxI,if_pos (qi2 hi2 h3),yQ hi2 hi.2 h3]
   exact .imR rfl rfl
  ·exact .oA [] []
 ·have h2:i = l.length:=by omega
  have h3:=hi.2
  rw [h2,List.take_length] at h3
  rw [idxI,if_neg (by rw [h3];simp)]
  exact .imR rfl rfl
theorem zY (p:Pk→Bool) (f:FuncId) (caps:List T) (hcap:imL caps = true) (l:List Pk) (hf:∀ y∈l,Spc Tryz.prog f (pkT y :: caps) [] (vB (p y)) []) (hl:l.length < 4611686018427387904) :
 Spc Tryz.prog zb [.sl 2 (l.map pkT),.clo f caps] [] (vB (l.any p)) []:=by
 refine qd ZO mixm (by simp) fun e _ hst=>qg ?_
 unfold zN
 refine sW ?_
 refine C1.im (yK p f caps hcap l hf hl) (qi3 rfl hcap) rfl ?_
 refine sW ?_
 rw [show decide (idxI p l≥0) = l.any p from qd1 p l]
 exact .imR rfl rfl
theorem qb4 (n:Pk) (a:List Pk) (ha:a.length < 4611686018427387904):Spc Tryz.prog jp [pkT n,.ip [vPs a]] [] (vB (!(a.any fun y=>(y.col == n.col) && decide (y.lev≥n.lev)))) []:=by
 refine qd Yl mixm (by simp) fun e _ hst=>qg ?_
 unfold kC
 refine sW ?_
 have hCF:=zY (fun y=>(y.col == n.col) && decide (y.lev≥n.lev)) zS [.ip (pkT n).cells] rfl a (fun y _=>WI y n) ha
 refine C1.lend [4096] hCF ?_ (by rfl) (by rfl) ?_
 ·all_goals (try simp only [tL,simprocAttr,List.map_append,List.map_cons,List.map_nil,List.cons_append,List.nil_append])
  all_goals (try (repeat' (first | exact qR | (apply zd;intro _;exact ⟨rfl,rfl⟩) | (apply qz;intro _;exact ⟨rfl,rfl⟩) | with_reducible apply qG | with_reducible refine qE ⟨rfl,rfl⟩ ?_ | exact qO | with_reducible apply qA | with_reducible refine qJ ⟨rfl,rfl,?_⟩ ?_ | with_reducible apply And.intro | exact qD rfl | exact qD (by assumption) | (refine ⟨⟨?_,rfl,?_,rfl,?_⟩,trivial⟩ <;> first | (simp;done) | (apply qz;intro _;exact ⟨rfl,rfl⟩)) | trivial | rfl | (rw [qh (by omega)]) | omega)))
  simp only [ltP]
  exact ⟨rfl,by decide,rfl,qE ⟨rfl,rfl⟩ qO⟩
 refine sW ?_
 exact .oA [] []
theorem qn6 (a b:List Pk) (ha:a.length < 4611686018427387904) (hb:b.length < 4611686018427387904):Spc Tryz.prog ye [vPs a,vPs b] [] (vB (covB b a)) []:=by
 refine qd qe0 mixm (by simp) fun e _ hst=>qg ?_
 unfold wK
 refine sW ?_
 have hCF:=zY (fun n=>!(a.any fun y=>(y.col == n.col) && decide (y.lev≥n.lev))) jp [.ip [vPs a]] rfl b (fun n _=>qb4 n a ha) hb
 refine C1.lend [4096] hCF ?_ (by rfl) (by rfl) ?_
 ·all_goals (try simp only [tL,simprocAttr,List.map_append,List.map_cons,List.map_nil,List.cons_append,List.nil_append])
  all_goals (try (repeat' (first | exact qR | (apply zd;intro _;exact ⟨rfl,rfl⟩) | (apply qz;intro _;exact ⟨rfl,rfl⟩) | with_reducible apply qG | with_reducible refine qE ⟨rfl,rfl⟩ ?_ | exact qO | with_reducible apply qA | with_reducible refine qJ ⟨rfl,rfl,?_⟩ ?_ | with_reducible apply And.intro | exact qD rfl | exact qD (by assumption) | (refine ⟨⟨?_,rfl,?_,rfl,?_⟩,trivial⟩ <;> first | (simp;done) | (apply qz;intro _;exact ⟨rfl,rfl⟩)) | trivial | rfl | (rw [qh (by omega)]) | omega)))
  simp only [ltP]
  exact ⟨rfl,by decide,rfl,qE ⟨rfl,rfl⟩ qO⟩
 refine sW ?_
 rw [show (!(b.any fun n=>!(a.any fun y=>(y.col == n.col) && decide (y.lev≥n.lev)))) = covB b a by rw [covB,List.not_any_eq_all_not];simp]
 exact .oA [] []
end Go.Proofs
namespace Go.Proofs
open Go Go.TL
def ordB (l:List (List Int)):Bool:=(List.range l.length).all fun i=>decide (0 < (l.getD i []).length) && (decide (i = 0) || decide (hd (l.getD (i - 1) []) < hd (l.getD i [])))
def hasK (l:List (List Int)) (k:Int):Bool:=l.any fun r=>hd r == k
def appR (a:List (List Int)) (g:List Int) (rs:List (List Int)):List (List Int):=rs.foldl putR (a.filter fun r=>!g.contains (hd r))
def ascI (l:List Int):Bool:=(List.range l.length).all fun i=>asc2 l i
def appE (a:Ext) (c:Chg):Int:=
 if ordB a.rows = false∨ordB c.rows = false∨ascI c.gone = false∨(c.rows.any fun r=>decide (r.length≠a.picks.length + 1)) = true then 11
 else if (c.gone.any fun k=>!hasK a.rows k) = true then 21 else if (c.gone.any fun k=>hasK c.rows k) = true then 10 else 0
structure ExtOk (x:Ext):Prop where
 ord:ordB x.rows = true
 len:∀ r∈x.rows,r.length = x.picks.length + 1
end Go.Proofs
namespace Go.Proofs
open Go Go.TL
set_option maxRecDepth 4000
set_option maxHeartbeats 8000000
open So
def RwSm (l:List (List Int)):Prop:=l.length≤1000000∧∀ r∈l,r.length * 8≤140737488355328
structure ExtSm (x:Ext):Prop where
 rows:RwSm x.rows
 picks:x.picks.length * 16≤140737488355328
structure ChgSm (c:Chg):Prop where
 rows:RwSm c.rows
 gone:c.gone.length≤1000000
end Go.Proofs
namespace Go.Proofs
open Go Go.TL
set_option maxHeartbeats 8000000
open So
def idxN (n:Int):List Int→Nat
 | []=>0
 | x :: r=>if x = n then 0 else idxN n r + 1
theorem zT3 {n:Int}:∀ {l:List Int} {i:Nat} (h:i < l.length),n∉l.take i→l[i] = n→idxN n l = i
 | [],i,h,_,_=>by simp at h
 | x :: r,0,h,_,hp=>by simp at hp;simp [idxN,hp]
 | x :: r,i + 1,h,h1,hp=>by
   simp only [List.take_succ_cons,List.mem_cons,not_or] at h1
   simp only [idxN]
   rw [if_neg (fun e=>h1.1 e.symm),zT3 (l:=r) (i:=i) (by simpa using h) h1.2 (by simpa using hp)]
def zx3 (l:List Int) (n:Int):Int:=if n∈l then idxN n l else -1
theorem qn7 (l:List Int) (n:Int) (hl:l.length < 4611686018427387904):Spc Tryz.prog yk [vIs l,vI n] [] (vI (zx3 l n)) []:=by
 refine qd qe8 mixm (by simp) fun e _ hst=>qg ?_
 unfold wN
 refine sW ?_
 refine qu mixm (α:=Nat) [8] (fun i=>i≤l.length∧(n∉l.take i)) (fun i=>[(8,vI i)]) (fun i=>[]) (fun i=>l.length - i) 0 ⟨by omega,?_⟩ ?_ fun i hi=>?_
 ·simp
 ·exact .oA [] []
 simp only [tZ,↓un_u,simprocAttr,decide_eq_true_eq,decide_eq_false_iff_not]
 refine ⟨fun h=>?_,fun h=>?_⟩
 ·have hi2:i < l.length:=by omega
  have hwi:=qh (i:=i) (by omega)
  simp only [tZ,↓un_u,simprocAttr,Int.toNat_natCast,qe hi2,hwi,beq_iff_eq,beq_eq_false_iff_ne]
  refine ⟨by omega,fun h3=>?_,fun h3=>⟨i + 1,⟨by omega,?_⟩,by omega,?_⟩⟩
  ·have hm:n∈l:=by rw [h3];exact List.getElem_mem hi2
   rw [zx3,if_pos hm,zT3 hi2 hi.2 h3.symm]
   exact .imR rfl rfl
  ·rw [qY hi2,List.mem_append]
   rintro (h4 | h4)
   ·exact hi.2 h4
   ·simp at h4;exact h3 h4
  ·exact .oA [] []
 ·have h2:i = l.length:=by omega
  have h3:=hi.2
  rw [h2,List.take_length] at h3
  rw [zx3,if_neg h3]
  exact .imR rfl rfl
theorem QF (l:List Int) (n:Int) (hl:l.length < 4611686018427387904):Spc Tryz.prog jb [vIs l,vI n] [] (vB (l.contains n)) []:=by
 refine qd Wz mixm (by simp) fun e _ hst=>qg ?_
 unfold ki
 refine sW ?_
 refine C1.im (qn7 l n hl) rfl (by rfl) ?_
 refine sW ?_
 refine .imR ?_ rfl
 unfold zx3
 by_cases h:n∈l
 ·rw [if_pos h,List.contains_iff_mem.2 h];simp
 ·rw [if_neg h]
  cases hc:l.contains n
  ·simp
  ·exact absurd (List.contains_iff_mem.1 hc) h
end Go.Proofs
namespace Go.Proofs
open Go Go.TL
set_option maxRecDepth 4000
set_option maxHeartbeats 8000000
def kiI (s:Sch) (c:Int):Int:=if c < 0∨c≥s.cols.length then 0 else (qj s c.toNat).kind
theorem jj4 {s:Sch} {c k:Int} (hk:k≠0):(kiI s c == k) = isB s c k:=by
 rw [Bool.eq_iff_iff,beq_iff_eq,zP,kiI]
 split
 ·constructor
  ·intro h;omega
  ·intro h;omega
 ·constructor
  ·intro h;exact ⟨by omega,by omega,h⟩
  ·intro h;exact h.2.2
theorem zh6 {s:Sch} {c k:Int} (hk:k≠0):isB s c k = false↔kiI s c≠k:=by rw [← jj4 hk,beq_eq_false_iff_ne]
theorem jo6 {s:Sch} {c k:Int} (hk:k≠0):isB s c k = true↔kiI s c = k:=by rw [← jj4 hk,beq_iff_eq]
theorem zA (s:Sch) (c:Int):Spc Tryz.prog zc [schT s,vI c] [] (vI (kiI s c)) []:=by
 refine qd Yw mixm (by simp) fun e _ hst=>qg ?_
 unfold kH
 refine sD ?_
 refine ⟨fun h=>?_,fun h=>?_⟩
 ·rw [kiI,if_pos (by omega)]
  exact .oA [] []
 obtain ⟨i,rfl⟩:=Int.eq_ofNat_of_zero_le (show 0≤c by omega)
 have hi:i < s.cols.length:=by omega
 rw [kiI,if_neg (by omega),Int.toNat_natCast,qj,qk hi]
 simp only [tZ,↓un_u,simprocAttr,Int.toNat_natCast,qe hi]
 refine ⟨by omega,?_⟩
 exact .oA [] []
theorem empC (c:Cnd):((c.op == 0) && (c.col == 0) && (c.code == 0) && (c.lo == 0) && (c.hi == 0) && ((c.kids.length:Int) == 0)) = Kl c cnd0:=by
 rw [zw4]
 show _ = ((c.op == 0) && (c.col == 0) && (c.code == 0) && (c.lo == 0) && (c.hi == 0) && wT c.kids [])
 congr 1
 cases c.kids with
 | nil=>rfl
 | cons x r=>
   rw [wT]
   exact beq_eq_false_iff_ne.2 (by simp;omega)
theorem Jf (c:Cnd):Spc Tryz.prog jL [cnT c] [] (vB (Kl c cnd0)) []:=by
 refine qd qa8 mixm (by simp) fun e _ hst=>qg ?_
 unfold wq
 refine sW ?_
 rw [← empC]
 exact .oA [] []
theorem YD (x y:Pk):Spc Tryz.prog je [pkT x,.ip (pkT y).cells] [] (vB (x.col == y.col)) []:=by
 refine qd WF mixm (by simp) fun e _ hst=>qg ?_
 unfold kp
 refine sW ?_
 exact .oA [] []
def tabE (s:Sch) (q:Qst):Int:=if ZZ s q.dims≠0 then ZZ s q.dims else if q.meas≠-1∧isB s q.meas 3 = false then 7 else if 0 < q.terms.length∨Kl q.event cnd0 = false then 11 else 0
theorem qg3 (s:Sch) (hs:Ze s) (q:Qst):Spc Tryz.prog wF [schT s,qstT q] [] (vI (tabE s q)) []:=by
 have hT:tabE s q = if ZZ s q.dims≠0 then ZZ s q.dims else if q.meas≠-1∧isB s q.meas 3 = false then 7 else if 0 < q.terms.length∨Kl q.event cnd0 = false then 11 else 0:=rfl
 have hTD:ZZ s q.dims≠0→tabE s q = ZZ s q.dims:=fun h=>by rw [hT,if_pos h]
 refine qd qa2 mixm (by simp) fun e _ hst=>qg ?_
 unfold wl
 refine sD ?_
 refine ⟨fun h=>?_,fun h=>?_⟩
 ·have:ZZ s q.dims = 1:=by rw [ZZ,if_pos (by omega)]
  rw [hTD (by rw [this];simp),this]
  exact .oA [] []
 have hD:ZZ s q.dims = zx (dimE s q.dims) q.dims.length:=by rw [ZZ,if_neg (by omega)]
 generalize tabE s q = E at hT hTD ⊢
 refine qu mixm (α:=Nat) [21] (fun i=>i≤q.dims.length∧(zx (dimE s q.dims) i = 0)) (fun i=>[(21,vI i)]) (fun i=>[(4096,.arr 2 [schT s] false),(4100,.arr 17 [qstT q] false)]) (fun i=>q.dims.length - i) 0 ⟨by omega,?_⟩ ?_ fun i hi=>?_
 ·rfl
 ·exact .oA [(4096,some 4096),(4100,some 4100)] []
 simp only [tZ,↓un_u,simprocAttr,decide_eq_true_eq,decide_eq_false_iff_not]
 refine ⟨fun h=>?_,fun h=>?_⟩
 ·have hi2:i < q.dims.length:=by omega
  have hpi:pkAt q.dims i = q.dims[i]:=by rw [pkAt,qk hi2]
  have hstep:=Qn hi.2 hi2
  have hnext:=jT hi.2
  have hA:dimE s q.dims i = if QC s q.dims[i]≠0 then QC s q.dims[i] else if isB s q.dims[i].col 2 = false then 7 else if ((q.dims.take i).any fun x=>x.col == q.dims[i].col) = true then 10 else 0:=by rw [dimE,hpi]
  rw [← hD] at hstep
  have hbad:dimE s q.dims i≠0→E = dimE s q.dims i:=fun h=>by rw [hTD (by rw [hstep h];exact h),hstep h]
  have hi2:i < q.dims.length:=by omega
  have hwi:=qh (i:=i) (by omega)
  simp only [tZ,↓un_u,simprocAttr,Int.toNat_natCast,qe hi2,hwi]
  refine ⟨by omega,?_⟩
  refine C1.im (qV1 s hs q.dims[i]) (by rfl) (by rfl) ?_
  simp only [tZ,↓un_u,simprocAttr,bne_iff_ne,bne_eq_false_iff_eq]
  refine ⟨fun h3=>?_,fun h3=>?_⟩
  ·rw [if_pos h3] at hA
   rw [hbad (by rw [hA];exact h3),hA]
   exact .oA [] []
  rw [if_neg (by rw [h3];simp)] at hA
  refine C1.im (zA s q.dims[i].col) (by rfl) (by rfl) ?_
  have hki:=zh6 (s:=s) (c:=q.dims[i].col) (k:=2) (by decide)
  simp only [tZ,↓un_u,simprocAttr,bne_iff_ne,bne_eq_false_iff_eq]
  refine ⟨fun h4=>?_,fun h4=>?_⟩
  ·rw [if_pos (hki.2 h4)] at hA
   rw [hbad (by rw [hA];simp),hA]
   exact .oA [] []
  rw [if_neg (fun h=>hki.1 h h4)] at hA
  have hCF:=zY (fun x=>x.col == q.dims[i].col) je [.ip (pkT q.dims[i]).cells] rfl (q.dims.take i) (fun x _=>YD x q.dims[i]) (by rw [List.length_take];omega)
  refine ⟨by omega,?_⟩
  rw [WX,qC2]
  refine C1.lend [24588] hCF ?_ (by rfl) (by rfl) ?_
  ·all_goals (try simp only [tL,simprocAttr,List.map_append,List.map_cons,List.map_nil,List.cons_append,List.nil_append])
   all_goals (try (repeat' (first | exact qR | (apply zd;intro _;exact ⟨rfl,rfl⟩) | (apply qz;intro _;exact ⟨rfl,rfl⟩) | with_reducible apply qG | with_reducible refine qE ⟨rfl,rfl⟩ ?_ | exact qO | with_reducible apply qA | with_reducible refine qJ ⟨rfl,rfl,?_⟩ ?_ | with_reducible apply And.intro | exact qD rfl | exact qD (by assumption) | (refine ⟨⟨?_,rfl,?_,rfl,?_⟩,trivial⟩ <;> first | (simp;done) | (apply qz;intro _;exact ⟨rfl,rfl⟩)) | trivial | rfl | (rw [qh (by omega)]) | omega)))
   simp only [ltP]
   exact ⟨rfl,by decide,rfl,qE ⟨rfl,rfl⟩ qO⟩
  simp only [tZ,↓un_u,simprocAttr,hwi]
  refine ⟨fun h5=>?_,fun h5=>?_⟩
  ·rw [if_pos h5] at hA
   rw [hbad (by rw [hA];simp),hA]
   exact .oA [] []
  ·rw [if_neg (by rw [h5];simp)] at hA
   refine ⟨i + 1,⟨by omega,by rw [hnext,hA]⟩,by omega,?_⟩
   exact .oA [(4096,some 4096),(4100,some 4100)] []
 ·have hi2:i = q.dims.length:=by omega
  subst hi2
  rw [← hD] at hi
  rw [if_neg (by rw [hi.2];simp)] at hT
  have hk:=zA s q.meas
  refine C2.im (fun _=>hk) (fun _=>rfl) (by rfl) ?_
  have hki:=zh6 (s:=s) (c:=q.meas) (k:=3) (by decide)
  simp only [tZ,↓un_u,simprocAttr,tD,bne_iff_ne,bne_eq_false_iff_eq]
  refine ⟨fun h5=>?_,fun h5=>?_⟩
  ·rw [if_pos (by grind)] at hT
   rw [hT]
   exact .oA [] []
  rw [if_neg (by grind)] at hT
  refine C2.im (fun _=>Jf q.event) (fun _=>rfl) (by rfl) ?_
  simp only [tZ,↓un_u,simprocAttr,tD,gt_iff_lt,Bool.not_eq_true',Bool.not_eq_false']
  refine ⟨fun h6=>?_,fun h6=>?_⟩
  ·rw [if_pos (by grind)] at hT
   rw [hT]
   exact .oA [] []
  ·rw [if_neg (by grind)] at hT
   rw [hT]
   exact .oA [] []
def modE (s:Sch) (q:Qst):Int:=if isB s q.meas 3 = false then 7 else if ww s q.meas q.terms≠0 then ww s q.meas q.terms else if 0 < q.dims.length∨Kl q.event cnd0 = false then 11 else 0
theorem qg4 (s:Sch) (q:Qst):Spc Tryz.prog wG [schT s,qstT q] [] (vI (modE s q)) []:=by
 have hT:modE s q = if isB s q.meas 3 = false then 7 else if ww s q.meas q.terms≠0 then ww s q.meas q.terms else if 0 < q.dims.length∨Kl q.event cnd0 = false then 11 else 0:=rfl
 generalize modE s q = E at hT ⊢
 have hki:=zh6 (s:=s) (c:=q.meas) (k:=3) (by decide)
 refine qd qa4 mixm (by simp) fun e _ hst=>qg ?_
 unfold wm
 refine sW ?_
 refine C1.im (zA s q.meas) (by rfl) (by rfl) ?_
 simp only [tZ,↓un_u,simprocAttr,tD,bne_iff_ne,bne_eq_false_iff_eq]
 refine ⟨fun h=>?_,fun h=>?_⟩
 ·rw [if_pos (hki.2 h)] at hT
  rw [hT]
  exact .oA [] []
 rw [if_neg (fun k=>hki.1 k h)] at hT
 refine ⟨fun h2=>?_,fun h2=>?_⟩
 ·have:ww s q.meas q.terms = 1:=by rw [ww,if_pos (by omega)]
  rw [this,if_pos (by simp)] at hT
  rw [hT]
  exact .oA [] []
 have hD:ww s q.meas q.terms = zx (qF4 s q.meas q.terms) q.terms.length:=by rw [ww,if_neg (by omega)]
 have hTD:ww s q.meas q.terms≠0→E = ww s q.meas q.terms:=fun h=>by rw [hT,if_pos h]
 refine qu mixm (α:=Nat) [27] (fun i=>i≤q.terms.length∧(zx (qF4 s q.meas q.terms) i = 0)) (fun i=>[(27,vI i)]) (fun i=>[(4096,.arr 2 [schT s] false),(4100,.arr 17 [qstT q] false)]) (fun i=>q.terms.length - i) 0 ⟨by omega,?_⟩ ?_ fun i hi=>?_
 ·rfl
 ·exact .oA [(4096,some 4096),(4100,some 4100)] []
 simp only [tZ,↓un_u,simprocAttr,decide_eq_true_eq,decide_eq_false_iff_not]
 refine ⟨fun h=>?_,fun h=>?_⟩
 ·have hi2:i < q.terms.length:=by omega
  have hpi:q.terms.getD i 0 = q.terms[i]:=qk hi2
  have hstep:=Qn hi.2 hi2
  have hnext:=jT hi.2
  have hA:qF4 s q.meas q.terms i = if isB s q.terms[i] 3 = false then 7 else if q.terms[i] = q.meas∨(q.terms.take i).contains q.terms[i] = true then 10 else 0:=by rw [qF4,hpi]
  rw [← hD] at hstep
  have hbad:qF4 s q.meas q.terms i≠0→E = qF4 s q.meas q.terms i:=fun h=>by rw [hTD (by rw [hstep h];exact h),hstep h]
  have hi2:i < q.terms.length:=by omega
  have hwi:=qh (i:=i) (by omega)
  simp only [tZ,↓un_u,simprocAttr,Int.toNat_natCast,qe hi2,hwi]
  refine ⟨by omega,?_⟩
  refine C1.im (zA s q.terms[i]) (by rfl) (by rfl) ?_
  have hki:=zh6 (s:=s) (c:=q.terms[i]) (k:=3) (by decide)
  simp only [tZ,↓un_u,simprocAttr,bne_iff_ne,bne_eq_false_iff_eq]
  refine ⟨fun h4=>?_,fun h4=>?_⟩
  ·rw [if_pos (hki.2 h4)] at hA
   rw [hbad (by rw [hA];simp),hA]
   exact .oA [] []
  rw [if_neg (fun h=>hki.1 h h4)] at hA
  have hCF:=QF (q.terms.take i) q.terms[i] (by rw [List.length_take];omega)
  refine ⟨fun _=>by omega,?_⟩
  rw [WX,qC2]
  refine C2.im (fun _=>hCF) (fun _=>rfl) (by rfl) ?_
  simp only [tZ,↓un_u,simprocAttr,hwi,tD,beq_iff_eq,beq_eq_false_iff_ne]
  refine ⟨fun h5=>?_,fun h5=>?_⟩
  ·rw [if_pos h5] at hA
   rw [hbad (by rw [hA];simp),hA]
   exact .oA [] []
  ·rw [if_neg (by grind)] at hA
   refine ⟨i + 1,⟨by omega,by rw [hnext,hA]⟩,by omega,?_⟩
   exact .oA [(4096,some 4096),(4100,some 4100)] []
 ·have hi2:i = q.terms.length:=by omega
  subst hi2
  rw [← hD] at hi
  rw [if_neg (by rw [hi.2];simp)] at hT
  refine C2.im (fun _=>Jf q.event) (fun _=>rfl) (by rfl) ?_
  simp only [tZ,↓un_u,simprocAttr,tD,gt_iff_lt,Bool.not_eq_true',Bool.not_eq_false']
  refine ⟨fun h6=>?_,fun h6=>?_⟩
  ·rw [if_pos (by grind)] at hT
   rw [hT]
   exact .oA [] []
  ·rw [if_neg (by grind)] at hT
   rw [hT]
   exact .oA [] []
def curE (s:Sch) (q:Qst):Int:=if isB s q.meas 3 = false then 7 else if (qj s q.meas.toNat).low < 0 then 2 else if chkC s q.event≠0 then chkC s q.event else if 0 < q.dims.length∨0 < q.terms.length then 11 else 0
theorem qg5 (s:Sch) (hs:Ze s) (q:Qst):Spc Tryz.prog wH [schT s,qstT q] [] (vI (curE s q)) []:=by
 have hki:=zh6 (s:=s) (c:=q.meas) (k:=3) (by decide)
 refine qd qa6 mixm (by simp) fun e _ hst=>qg ?_
 unfold wn
 refine sW ?_
 refine C1.im (zA s q.meas) (by rfl) (by rfl) ?_
 simp only [tZ,↓un_u,simprocAttr,tD,bne_iff_ne,bne_eq_false_iff_eq]
 refine ⟨fun h=>?_,fun h=>?_⟩
 ·rw [curE,if_pos (hki.2 h)]
  exact .oA [] []
 rw [curE,if_neg (fun k=>hki.1 k h)]
 obtain ⟨b1,b2,b3⟩:=zP.1 ((jo6 (by decide)).2 h)
 have hil:q.meas.toNat < s.cols.length:=by omega
 rw [qj,qk hil]
 simp only [tZ,↓un_u,simprocAttr,qe hil,tD]
 refine ⟨by omega,fun h4=>?_,fun h4=>?_⟩
 ·rw [if_pos h4]
  exact .oA [] []
 rw [if_neg h4]
 refine C1.im (kT s hs q.event) (by rfl) (by rfl) ?_
 simp only [tZ,↓un_u,simprocAttr,bne_iff_ne,bne_eq_false_iff_eq]
 refine ⟨fun h5=>?_,fun h5=>?_⟩
 ·rw [if_pos h5]
  exact .oA [] []
 rw [if_neg (by rw [h5];simp)]
 simp only [tZ,↓un_u,simprocAttr,tD,gt_iff_lt]
 refine ⟨fun h6=>?_,fun h6=>?_⟩
 ·rw [if_pos (by omega)]
  exact .oA [] []
 ·rw [if_neg (by omega)]
  exact .oA [] []
theorem yN (s:Sch) (hs:Ze s) (q:Qst):Spc Tryz.prog zR [schT s,qstT q] [] (vI (qstE s q)) []:=by
 refine qd KQ mixm (by simp) fun e _ hst=>qg ?_
 unfold jP
 refine sW ?_
 refine C1.im (jY s hs.2.1 hs.1) (by rfl) (by rfl) ?_
 simp only [tZ,↓un_u,simprocAttr,bne_iff_ne,bne_eq_false_iff_eq]
 refine ⟨fun h=>?_,fun h=>?_⟩
 ·rw [qstE,if_pos h]
  exact .oA [] []
 rw [qstE,if_neg (by rw [h];simp)]
 refine C1.im (wU q.name) (by rfl) (by rfl) ?_
 simp only [tZ,↓un_u,simprocAttr,tD,Bool.not_eq_true',Bool.not_eq_false']
 refine ⟨fun h2=>?_,fun h2=>?_⟩
 ·rw [if_pos h2]
  exact .oA [] []
 rw [if_neg (by rw [h2];simp)]
 refine ⟨fun h3=>?_,fun h3=>?_⟩
 ·rw [if_pos (by omega)]
  exact .oA [] []
 rw [if_neg (by omega)]
 refine C1.im (kT s hs q.filt) (by rfl) (by rfl) ?_
 simp only [tZ,↓un_u,simprocAttr,bne_iff_ne,bne_eq_false_iff_eq,beq_iff_eq,beq_eq_false_iff_ne]
 refine ⟨fun h4=>?_,fun h4=>?_⟩
 ·rw [if_pos h4]
  exact .oA [] []
 rw [if_neg (by rw [h4];simp)]
 refine ⟨fun h5=>?_,fun h5=>⟨fun h6=>?_,fun h6=>?_⟩⟩
 ·refine C1.im (qg3 s hs q) (by rfl) (by rfl) ?_
  rw [show (if kW s q≠0 then kW s q else if (q.kind≠1∧0 < q.dims.length)∨(q.kind≠2∧0 < q.terms.length)∨(q.kind≠3∧Kl q.event cnd0 = false) then 11 else 0) = tabE s q by
   rw [kW,if_pos h5,tabE]
   grind]
  refine sW ?_
  exact .oA [] []
 ·refine C1.im (qg4 s q) (by rfl) (by rfl) ?_
  rw [show (if kW s q≠0 then kW s q else if (q.kind≠1∧0 < q.dims.length)∨(q.kind≠2∧0 < q.terms.length)∨(q.kind≠3∧Kl q.event cnd0 = false) then 11 else 0) = modE s q by
   rw [kW,if_neg h5,if_pos h6,modE]
   grind]
  refine sW ?_
  exact .oA [] []
 ·refine C1.im (qg5 s hs q) (by rfl) (by rfl) ?_
  rw [show (if kW s q≠0 then kW s q else if (q.kind≠1∧0 < q.dims.length)∨(q.kind≠2∧0 < q.terms.length)∨(q.kind≠3∧Kl q.event cnd0 = false) then 11 else 0) = curE s q by
   rw [kW,if_neg h5,if_neg h6,curE]
   grind]
  refine sW ?_
  exact .oA [] []
end Go.Proofs
namespace Go.Proofs
open Go Go.TL
set_option maxRecDepth 4000
set_option maxHeartbeats 8000000
def usB (q:Qst) (k:Int):Bool:=decide (k > 0) && jn4 q k
theorem Wp (q:Qst) (k:Int) (ht:q.terms.length < 4611686018427387904):Spc Tryz.prog wy [qstT q,vI k] [] (vB (usB q k)) []:=by
 refine qd qp9 mixm (by simp) fun e _ hst=>qg ?_
 unfold Qd
 refine sW ?_
 refine C2.im (fun _=>QF q.terms k ht) (fun _=>rfl) (by rfl) ?_
 refine sW ?_
 rw [show (decide (k > 0) && ((q.meas == k) || q.terms.contains k)) = usB q k from rfl]
 exact .oA [] []
def cnsL (q:Qst):List Cnd:=if q.kind = 3 then [q.filt,q.event] else [q.filt]
theorem Kq (q:Qst):Spc Tryz.prog kP [qstT q] [] (vCs (cnsL q)) []:=by
 refine qd qk3 mixm (by simp) fun e _ hst=>qg ?_
 unfold yz
 simp only [tZ,↓un_u,simprocAttr,beq_iff_eq,beq_eq_false_iff_ne]
 refine ⟨fun h=>?_,fun h=>?_⟩
 ·rw [cnsL,if_pos h]
  show ZD [] _ _ (.sl 6 [cndT q.filt,cndT q.event]) []
  rw [zX,zX]
  exact .oA [] [12304]
 ·rw [cnsL,if_neg h]
  show ZD [] _ _ (.sl 6 [cndT q.filt]) []
  rw [zX]
  exact .oA [] [16392]
def zT4 (s:Sch) (q:Qst) (k a b:Int):Bool:=(usB q k && (a != b)) || (q.dims.any fun d=>(d.col == k) && (qT s k d.lev a != qT s k d.lev b)) || ((cnsL q).any fun c=>(atsC c).any fun x=>(x.col == k) && (wt s x a != wt s x b))
end Go.Proofs
namespace Go.Proofs
open Go Go.TL
set_option maxRecDepth 4000
set_option maxHeartbeats 8000000
def mxl:List Pk→Int→Int
 | [],_=>0
 | p :: r,k=>if p.col = k then max p.lev (mxl r k) else mxl r k
theorem Jg:∀ (l:List Pk) (k:Int),0≤mxl l k
 | [],_=>Int.le_refl _
 | p :: r,k=>by
   have:=Jg r k
   rw [mxl]
   split <;> omega
theorem qG8:∀ (a b:List Pk) (k:Int),mxl (a ++ b) k = max (mxl a k) (mxl b k)
 | [],b,k=>by
   have:=Jg b k
   rw [List.nil_append,mxl];omega
 | p :: r,b,k=>by
   have:=qG8 r b k
   rw [List.cons_append,mxl,mxl,this]
   split <;> omega
theorem jc4 (l:List Pk) (p:Pk) (k:Int):mxl (l ++ [p]) k = if p.col = k then max (mxl l k) p.lev else mxl l k:=by
 have:=Jg l k
 rw [qG8,mxl,mxl]
 split <;> omega
theorem Wj:∀ {l:List Pk} {k:Int},(∀ p∈l,p.col≠k)→mxl l k = 0
 | [],_,_=>rfl
 | p :: r,k,h=>by
   rw [mxl,if_neg (h p (by simp)),Wj fun x hx=>h x (List.mem_cons_of_mem _ hx)]
theorem qy6 {f:Nat→Int} (hf:∀ k,0≤f k):∀ {n:Nat} (k:Nat),mxl (canF f n) k = if k < n then f k else 0
 | 0,k=>by rw [if_neg (by omega)];rfl
 | n + 1,k=>by
   have ih:=qy6 hf (n:=n) k
   have hk:=hf k
   have hn:=hf n
   rw [canF,qG8,ih]
   by_cases e:n = k
   ·subst e
    rw [if_neg (show ¬ n < n by omega),if_pos (show n < n + 1 by omega)]
    split
    ·have:mxl [(⟨(n:Nat),f n⟩:Pk)] n = max (f n) 0:=by rw [mxl,if_pos rfl];rfl
     rw [this];omega
    ·rw [mxl];omega
   ·have h0:mxl (if 0 < f n then [(⟨n,f n⟩:Pk)] else []) k = 0:=Wj fun p hp=>by
     split at hp
     ·rw [List.mem_singleton.1 hp];dsimp only;omega
     ·simp at hp
    rw [h0]
    by_cases h:k < n
    ·rw [if_pos h,if_pos (by omega)];omega
    ·rw [if_neg h,if_neg (by omega)];omega
theorem qs5 {n:Nat}:∀ (l:List Pk) {f:Nat→Int},(∀ k,0≤f k)→(∀ p∈l,0≤p.col∧p.col < n)→JP (canF f n) l = canF (fun k=>max (f k) (mxl l k)) n
 | [],f,hf,_=>by
   show canF f n = _
   exact Zy fun k _=>by have:=hf k;rw [mxl];omega
 | p :: r,f,hf,h=>by
   obtain ⟨h1,h2⟩:=h p (by simp)
   obtain ⟨c,hc⟩:=Int.eq_ofNat_of_zero_le h1
   have e:JP (canF f n) (p :: r) = JP (qa9 (canF f n) p.col p.lev) r:=rfl
   rw [e,hc,qP6 hf (by omega),qs5 r (fun k=>by have:=hf k;unfold upd;split <;> omega) fun x hx=>h x (List.mem_cons_of_mem _ hx)]
   refine Zy fun k _=>?_
   have:=hf k
   have h3:=Jg r k
   unfold upd
   rw [mxl,hc]
   by_cases e:k = c
   ·subst e
    rw [if_pos rfl,if_pos rfl];omega
   ·rw [if_neg e,if_neg (by omega)]
theorem zB7 (n:Nat):canF (fun _=>0) n = []:=qG7 fun _ _=>Int.le_refl _
theorem zh7 {n:Nat} {l:List Pk} (h:∀ p∈l,0≤p.col∧p.col < n):JP [] l = canF (fun k=>mxl l k) n:=by
 rw [← zB7 n,qs5 l (fun _=>Int.le_refl _) h]
 exact Zy fun k _=>by have:=Jg l k;omega
theorem qn8 (a l m:List Pk):JP a (l ++ m) = JP (JP a l) m:=List.foldl_append
theorem zh8 {α:Type} (f:α→Pk) (m:List α):∀ l,JP l (m.map f) = m.foldl (fun l x=>qa9 l (f x).col (f x).lev) l:=by
 induction m with
 | nil=>intro l;rfl
 | cons x r ih=>intro l;exact ih _
def atP (s:Sch) (c:Cnd):List Pk:=(atsC c).map fun a=>⟨a.col,decN s a⟩
theorem zm9 {s:Sch} {c:Cnd} (h:chkC s c = 0):jS s c = JP [] (atP s c):=by
 rw [jS,if_neg (by rw [h];simp),atP,zh8]
theorem YS {s:Sch} {c:Cnd} (h:chkC s c = 0):jS s c = canF (fun k=>mxl (atP s c) k) s.cols.length∧∀ p∈atP s c,1≤p.col∧p.col < s.cols.length:=by
 obtain ⟨hE,k2,k3,k4⟩:=qr9 h
 have hb:∀ p∈atP s c,1≤p.col∧p.col < s.cols.length:=fun p hp=>by
  obtain ⟨a,ha,rfl⟩:=List.mem_map.1 hp
  obtain ⟨hnd,hia⟩:=zw3 c k4 a ha
  obtain ⟨n1,n2,n3⟩:=qF8 hE hnd hia
  obtain ⟨_,c1,c2,_⟩:=Wb (s:=s) (c:=a.col) (by omega)
  exact ⟨c1,c2⟩
 refine ⟨?_,hb⟩
 rw [zm9 h]
 exact zh7 fun p hp=>by have:=hb p hp;omega
theorem jc5 {s:Sch} {c:Cnd} (h:chkC s c = 0):∀ p∈jS s c,1≤p.col∧p.col < s.cols.length:=fun p hp=>by
 obtain ⟨h1,h2⟩:=YS h
 rw [h1,yJ] at hp
 obtain ⟨k,k1,k2,rfl⟩:=hp
 refine ⟨?_,by dsimp only;omega⟩
 dsimp only
 by_cases e:k = 0
 ·subst e
  rw [Wj fun q hq=>by have:=h2 q hq;omega] at k2
  omega
 ·omega
theorem zT5 {s:Sch} {c:Cnd} (h:chkC s c = 0) (k:Nat):mxl (jS s c) k = mxl (atP s c) k:=by
 obtain ⟨h1,h2⟩:=YS h
 rw [h1,qy6 fun k=>Jg _ _]
 split
 ·rfl
 ·exact (Wj fun q hq=>by have:=h2 q hq;omega).symm
def dmP (s:Sch) (q:Qst):List Pk:=q.dims.map fun d=>⟨d.col,yH s d.col d.lev⟩
def usP (s:Sch) (q:Qst) (n:Nat):List Pk:=((List.range n).filter fun k:Nat=>usB q k).map fun k:Nat=>⟨k,yH s k (finI s k)⟩
theorem qV5 (s:Sch) (q:Qst) (n:Nat):usP s q (n + 1) = usP s q n ++ if usB q n = true then [⟨n,yH s n (finI s n)⟩] else []:=by
 rw [usP,List.range_succ,List.filter_append,List.map_append,← usP]
 congr 1
 by_cases h:usB q n = true
 ·rw [if_pos h,List.filter_cons_of_pos (p:=fun k:Nat=>usB q k) h];rfl
 ·rw [if_neg h,List.filter_cons_of_neg (p:=fun k:Nat=>usB q k) h];rfl
theorem zx4 (s:Sch) (q:Qst) (l:List Pk):∀ n:Nat,(List.range n).foldl (qu3 s q) l = JP l (usP s q (n + 1))
 | 0=>by
   show l = _
   have h0:usB q (0:Nat) = false:=by simp [usB]
   rw [qV5,h0,if_neg (by simp)];rfl
 | n + 1=>by
   rw [List.range_succ,List.foldl_append,zx4 s q l n,qV5 _ _ (n + 1),qn8]
   show qu3 s q _ n = _
   have h:usB q ((n + 1:Nat):Int) = jn4 q ((n:Int) + 1):=by
    unfold usB
    rw [decide_eq_true (by omega),Bool.true_and];rfl
   rw [qu3,h]
   split <;> rfl
def evP (s:Sch) (q:Qst):List Pk:=if q.kind = 3 then jS s q.event else []
theorem zn0 {s:Sch} {q:Qst} (h:qstE s q = 0):wW s q = JP (jS s q.filt) (evP s q ++ dmP s q ++ usP s q s.cols.length):=by
 have hq:=qg0 h
 have hnc:=(qZ hq.sch).nc
 rw [wW,if_neg (by rw [h];simp),jn5,zx4,show s.cols.length - 1 + 1 = s.cols.length by omega,qn8,qn8,dmP,zh8,evP]
 congr 2
 split <;> rfl
end Go.Proofs
namespace Go.Proofs
open Go Go.TL
set_option maxRecDepth 4000
set_option maxHeartbeats 8000000
theorem qx4 (s:Sch) (hok:SchOk s) (q:Qst) (hd:q.dims.length≤3) (ht:q.terms.length≤3) (hc:∀ c∈cnsL q,chkC s c = 0) (k a b:Int):Spc Tryz.prog QM [schT s,qstT q,vI k,vI a,vI b] [] (vB (zT4 s q k a b)) []:=by
 have hs:=hok.sm
 have hT:zT4 s q k a b = ((usB q k && (a != b)) || (q.dims.any fun d=>(d.col == k) && (qT s k d.lev a != qT s k d.lev b)) || ((cnsL q).any fun c=>(atsC c).any fun x=>(x.col == k) && (wt s x a != wt s x b))):=rfl
 have hcl:(cnsL q).length≤2:=by unfold cnsL;split <;> simp
 rw [hT]
 refine qd qq1 mixm (by simp) fun e _ hst=>qg ?_
 unfold Qe
 refine sW ?_
 refine C1.im (Wp q k (by omega)) (by rfl) (by rfl) ?_
 refine sW ?_
 generalize (usB q k && (a != b)) = U
 refine ⟨fun h=>?_,fun h=>?_⟩
 ·rw [h]
  exact .oA [] []
 rw [h,Bool.false_or]
 refine qu mixm (α:=Nat) [28] (fun i=>i≤q.dims.length∧((q.dims.take i).any fun d=>(d.col == k) && (qT s k d.lev a != qT s k d.lev b)) = false) (fun i=>[(28,vI i)]) (fun i=>[(4096,.arr 2 [schT s] false),(4100,.arr 17 [qstT q] false)]) (fun i=>q.dims.length - i) 0 ⟨by omega,rfl⟩ ?_ fun i hi=>?_
 ·exact .oA [(4096,some 4096),(4100,some 4100)] []
 refine sD ?_
 refine ⟨fun h3=>?_,fun h3=>?_⟩
 ·have hi2:i < q.dims.length:=by omega
  have hwi:=qh (i:=i) (by omega)
  simp only [tZ,↓un_u,simprocAttr,Int.toNat_natCast,qe hi2]
  refine ⟨by omega,?_⟩
  have hC:=fun v=>YB s hs k q.dims[i].lev v
  refine C2.im (fun _=>hC a) (fun _=>rfl) (by rfl) ?_
  refine sW ?_
  refine C2.im (fun _=>hC b) (fun _=>rfl) (by rfl) ?_
  simp only [tZ,↓un_u,simprocAttr,hwi]
  repeat (first | refine ⟨by omega,?_⟩ | refine ⟨by kernel_rfl,?_⟩)
  refine ⟨fun h4=>?_,fun h4=>?_⟩
  ·rw [qi2 hi2 h4,Bool.true_or]
   exact .oA [] []
  ·refine ⟨i + 1,⟨by omega,zQ hi2 hi.2 h4⟩,by omega,?_⟩
   exact .oA [(4096,some 4096),(4100,some 4100)] []
 ·have hil:i = q.dims.length:=by omega
  subst hil
  have hi2:=hi.2
  rw [List.take_length] at hi2
  rw [hi2,Bool.false_or]
  refine C1.im (Kq q) (by rfl) (by rfl) ?_
  generalize cnsL q = L at hc hcl ⊢
  refine sW ?_
  refine qu mixm (α:=Nat) [55] (fun i=>i≤L.length∧((L.take i).any fun c=>(atsC c).any fun x=>(x.col == k) && (wt s x a != wt s x b)) = false) (fun i=>[(55,vI i)]) (fun i=>[(4096,.arr 2 [schT s] false)]) (fun i=>L.length - i) 0 ⟨by omega,rfl⟩ ?_ fun i hi=>?_
  ·exact .oA [(4096,some 4096)] []
  refine sD ?_
  refine ⟨fun h4=>?_,fun h4=>?_⟩
  ·have hi2:i < L.length:=by omega
   have hwi:=qh (i:=i) (by omega)
   obtain ⟨_,k2,_,k4⟩:=qr9 (hc _ (List.getElem_mem hi2))
   have hal:=qU2 L[i] 41 (by omega) k2
   have hao:=zw3 L[i] k4
   have hhit:(((atsC L[i]).any fun x=>(x.col == k) && (wt s x a != wt s x b)) = true)→(L.any fun c=>(atsC c).any fun x=>(x.col == k) && (wt s x a != wt s x b)) = true:=fun h=>qi2 hi2 h
   have hgo:(((atsC L[i]).any fun x=>(x.col == k) && (wt s x a != wt s x b)) = false)→((L.take (i + 1)).any fun c=>(atsC c).any fun x=>(x.col == k) && (wt s x a != wt s x b)) = false:=fun h=>zQ hi2 hi.2 h
   simp only [tZ,↓un_u,simprocAttr,Int.toNat_natCast,qe hi2,zX]
   refine ⟨by omega,?_⟩
   refine C1.im (Kp L[i] 41 (by omega) (by omega) k2) (by rfl) (by rfl) ?_
   generalize atsC L[i] = A at hal hao hhit hgo ⊢
   refine sW ?_
   refine qu mixm (α:=Nat) [62] (fun j=>j≤A.length∧((A.take j).any fun x=>(x.col == k) && (wt s x a != wt s x b)) = false) (fun j=>[(62,vI j)]) (fun j=>[(4096,.arr 2 [schT s] false)]) (fun j=>A.length - j) 0 ⟨by omega,rfl⟩ ?_ fun j hj=>?_
   ·exact .oA [(4096,some 4096)] []
   refine sD ?_
   refine ⟨fun h5=>?_,fun h5=>?_⟩
   ·have hj2:j < A.length:=by omega
    have hwj:=qh (i:=j) (by omega)
    obtain ⟨hnd,ha⟩:=hao _ (List.getElem_mem hj2)
    have hAt:=Wn s hok A[j] hnd ha
    simp only [tZ,↓un_u,simprocAttr,Int.toNat_natCast,qe hj2,zX]
    refine ⟨by omega,?_⟩
    refine C2.im (fun _=>hAt a) (fun _=>rfl) (by rfl) ?_
    refine sW ?_
    refine C2.im (fun _=>hAt b) (fun _=>rfl) (by rfl) ?_
    simp only [tZ,↓un_u,simprocAttr,hwj]
    repeat (first | refine ⟨by omega,?_⟩ | refine ⟨by kernel_rfl,?_⟩)
    refine ⟨fun h6=>?_,fun h6=>?_⟩
    ·rw [hhit (qi2 hj2 h6)]
     exact .oA [] []
    ·refine ⟨j + 1,⟨by omega,zQ hj2 hj.2 h6⟩,by omega,?_⟩
     exact .oA [(4096,some 4096)] []
   ·have hjl:j = A.length:=by omega
    subst hjl
    have hj2:=hj.2
    rw [List.take_length] at hj2
    simp only [tZ,↓un_u,simprocAttr,hwi]
    refine ⟨i + 1,⟨by omega,hgo hj2⟩,by omega,?_⟩
    exact .oA [(4096,some 4096)] []
  ·have hil:i = L.length:=by omega
   subst hil
   have hi2:=hi.2
   rw [List.take_length] at hi2
   rw [hi2]
   exact .oA [] []
end Go.Proofs
namespace Go.Proofs
open Go Go.TL
set_option maxRecDepth 4000
set_option maxHeartbeats 8000000
def mxc:List Pk→Int
 | []=>0
 | p :: r=>max p.col (mxc r)
theorem zT6:∀ l:List Pk,0≤mxc l
 | []=>Int.le_refl _
 | p :: r=>by have:=zT6 r;rw [mxc];omega
theorem zx5:∀ (l:List Pk) (p:Pk),mxc (l ++ [p]) = max (mxc l) p.col
 | [],p=>by show max p.col 0 = max 0 p.col;omega
 | q :: r,p=>by rw [List.cons_append,mxc,mxc,zx5 r p];omega
theorem jj5 {n:Int} (hn:0≤n):∀ {l:List Pk},(∀ p∈l,p.col≤n)→mxc l≤n
 | [],_=>hn
 | p :: r,h=>by
   have h1:=h p (by simp)
   have h2:=jj5 hn (l:=r) fun q hq=>h q (List.mem_cons_of_mem _ hq)
   rw [mxc];omega
theorem jj6:∀ {l:List Pk} {p:Pk},p∈l→p.col≤mxc l
 | q :: r,p,h=>by
   rw [mxc]
   rcases List.mem_cons.1 h with e | h
   ·rw [e];omega
   ·have:=jj6 h;omega
theorem Kr (ls:List (List Pk)) (n:Nat) (h1:1≤n) (h2:n≤1000) (hls:ls.length≤1000) (hl:∀ l∈ls,l.length≤1000) (hb:∀ l∈ls,∀ p∈l,0≤p.col∧p.col < n) :
 Spc Tryz.prog kO [.sl 1 (ls.map vPs)] [] (vPs (canF (fun k=>mxl ls.flatten k) n)) []:=by
 refine qd qk1 mixm (by simp) fun e _ hst=>qg ?_
 unfold yx
 refine sW ?_
 refine qu mixm (α:=Nat×List (Int×Int)) [4,14] (fun y=>y.1≤ls.length∧∀ k,(TL.look TL.eqI k y.2).getD 0 = mxl (ls.take y.1).flatten k) (fun y=>[(4,vI (mxc (ls.take y.1).flatten)),(14,vI y.1)]) (fun y=>[(8192,.mp (.ii y.2))]) (fun y=>ls.length - y.1) (0,[]) ⟨by simp,fun k=>rfl⟩ ?_ fun y hy=>?_
 ·exact .oA [(8192,some 8192)] []
 obtain ⟨i,M⟩:=y
 obtain ⟨y1,y2⟩:=hy
 dsimp only at y1 y2
 refine sD ?_
 refine ⟨fun h=>?_,fun h=>?_⟩
 ·have hi:i < ls.length:=by omega
  have hwi:=qh (i:=i) (by omega)
  have hll:=hl _ (List.getElem_mem hi)
  have hbb:=hb _ (List.getElem_mem hi)
  have hfl:(ls.take (i + 1)).flatten = (ls.take i).flatten ++ ls[i]:=by rw [qY hi,List.flatten_append];simp
  generalize (ls.take i).flatten = A at y2 hfl ⊢
  simp only [tZ,↓un_u,simprocAttr,Int.toNat_natCast,qe hi]
  refine ⟨by omega,?_⟩
  generalize ls[i] = l at hll hbb hfl ⊢
  refine qu mixm (α:=Nat×List (Int×Int)) [4,20] (fun y=>y.1≤l.length∧∀ k,(TL.look TL.eqI k y.2).getD 0 = mxl (A ++ l.take y.1) k) (fun y=>[(4,vI (mxc (A ++ l.take y.1))),(20,vI y.1)]) (fun y=>[(8192,.mp (.ii y.2))]) (fun y=>l.length - y.1) (0,M) ⟨by simp,fun k=>by rw [List.take_zero,List.append_nil];exact y2 k⟩ ?_ fun y hy=>?_
  ·refine .of [(8192,some 8192)] [] rfl (by first | rfl | (rw [hst];rfl)) ?_ ?_
   all_goals (try simp only [tL,simprocAttr,List.map_append,List.map_cons,List.map_nil,List.cons_append,List.nil_append,List.take_zero,List.append_nil])
   all_goals (try (repeat' (first | exact qR | (apply zd;intro _;exact ⟨rfl,rfl⟩) | (apply qz;intro _;exact ⟨rfl,rfl⟩) | with_reducible apply qG | with_reducible refine qE ⟨rfl,rfl⟩ ?_ | exact qO | with_reducible apply qA | with_reducible refine qJ ⟨rfl,rfl,?_⟩ ?_ | with_reducible apply And.intro | exact qD rfl | exact qD (by assumption) | (refine ⟨⟨?_,rfl,?_,rfl,?_⟩,trivial⟩ <;> first | (simp;done) | (apply qz;intro _;exact ⟨rfl,rfl⟩)) | trivial | rfl | (rw [qh (by omega)]) | omega)))
  obtain ⟨j,N⟩:=y
  obtain ⟨z1,z2⟩:=hy
  dsimp only at z1 z2
  refine sD ?_
  refine ⟨fun h5=>?_,fun h5=>?_⟩
  ·have hj:j < l.length:=by omega
   have hwj:=qh (i:=j) (by omega)
   have hts:A ++ l.take (j + 1) = A ++ l.take j ++ [l[j]]:=by rw [qY hj,List.append_assoc]
   have hnew:∀ k,(TL.look TL.eqI k (TL.asg TL.eqI l[j].col (max (mxl (A ++ l.take j) l[j].col) l[j].lev) N)).getD 0 = mxl (A ++ l.take (j + 1)) k:=fun k=>by
    rw [qn5,hts,jc4]
    by_cases e:k = l[j].col
    ·subst e
     rw [if_pos rfl,if_pos rfl];rfl
    ·rw [if_neg e,if_neg (fun h=>e h.symm)]
     exact z2 k
   have hx:=zx5 (A ++ l.take j) l[j]
   rw [← hts] at hx
   have hz:=z2 l[j].col
   simp only [tZ,↓un_u,simprocAttr,Int.toNat_natCast,qe hj,hwj,zx1,hz,← hx]
   refine ⟨by omega,by kernel_rfl,?_⟩
   refine ⟨(j + 1,_),⟨by dsimp only;omega,hnew⟩,by dsimp only;omega,?_⟩
   exact .oA [(8192,some 8192)] []
  ·have hjl:j = l.length:=by omega
   subst hjl
   rw [List.take_length,← hfl] at z2 ⊢
   simp only [tZ,↓un_u,simprocAttr,hwi]
   refine ⟨(i + 1,N),⟨by dsimp only;omega,z2⟩,by dsimp only;omega,?_⟩
   exact .oA [(8192,some 8192)] []
 ·have hil:i = ls.length:=by omega
  subst hil
  rw [List.take_length] at y2 ⊢
  have hbf:∀ p∈ls.flatten,0≤p.col∧p.col < n:=fun p hp=>by
   obtain ⟨l,hl,hpl⟩:=List.mem_flatten.1 hp
   exact hb l hl p hpl
  have hml:=jj5 (n:=n - 1) (by omega) (l:=ls.flatten) fun p hp=>by have:=hbf p hp;omega
  have hmp:=zT6 ls.flatten
  have hmore:canF (fun k=>mxl ls.flatten k) n = canF (fun k=>mxl ls.flatten k) ((mxc ls.flatten).toNat + 1):=by
   rw [show n = (mxc ls.flatten).toNat + 1 + (n - ((mxc ls.flatten).toNat + 1)) by omega,zh5]
   intro k hk _
   rw [Wj fun p hp=>by have:=jj6 hp;omega]
   exact Int.le_refl _
  rw [hmore]
  obtain ⟨c,hc⟩:=Int.eq_ofNat_of_zero_le hmp
  rw [hc,Int.toNat_natCast]
  have hwc:=qh (i:=c) (by omega)
  rw [hwc]
  generalize ls.flatten = A at y2 ⊢
  refine qu mixm (α:=Nat) [9,42] (fun k=>k≤c + 1) (fun k=>[(9,.asl 1 (canF (fun k=>mxl A k) k).length),(42,vI k)]) (fun k=>[(8192,.mp (.ii M)),(1,.arr 2 ((canF (fun k=>mxl A k) k).map pkT) false)]) (fun k=>c + 1 - k) 0 (by omega) ?_ fun k hk=>?_
  ·exact .oA [(8192,some 8192),(1,none)] []
  have hcl:=qV4 (fun k=>mxl A k) k
  have hcs:canF (fun k=>mxl A k) (k + 1) = canF (fun k=>mxl A k) k ++ (if 0 < mxl A k then [⟨(k:Nat),mxl A k⟩] else []):=by rw [canF]
  have hz:=y2 k
  refine sD ?_
  refine ⟨fun h5=>?_,fun h5=>?_⟩
  ·have hwk:=qh (i:=k) (by omega)
   simp only [tZ,↓un_u,simprocAttr,hz,hwk,gt_iff_lt,tD]
   refine ⟨fun h6=>?_,fun h6=>?_⟩
   ·rw [if_pos h6] at hcs
    refine ⟨by omega,k + 1,by omega,by omega,?_⟩
    rw [hcs,List.map_append,List.length_append]
    exact .oA [(8192,some 8192),(1,some 1)] []
   ·rw [if_neg h6,List.append_nil] at hcs
    refine ⟨k + 1,by omega,by omega,?_⟩
    rw [hcs]
    exact .oA [(8192,some 8192),(1,some 1)] []
  ·rw [show k = c + 1 by omega]
   exact .oA [] [1]
theorem zh9 {s:Sch} {q:Qst} (hq:QstOk s q):∀ d∈q.dims,QC s d = 0∧isB s d.col 2 = true:=fun d hd=>by
 by_cases h1:q.kind = 1
 ·have h2:=(hq.dims h1).1
  unfold ZZ at h2
  split at h2
  ·cases h2
  obtain ⟨i,hi,rfl⟩:=List.getElem_of_mem hd
  have h3:=Zw h2 i hi
  have hp:pkAt q.dims i = q.dims[i]:=by rw [pkAt,qk hi]
  unfold dimE at h3
  rw [hp] at h3
  split at h3
  ·rename_i h4;exact absurd h3 h4
  rename_i h4
  split at h3
  ·cases h3
  rename_i h5
  exact ⟨Classical.byContradiction h4,by simpa using h5⟩
 ·rw [hq.d0 h1] at hd
  simp at hd
theorem zx6 {s:Sch} {q:Qst} (hq:QstOk s q):∀ c∈cnsL q,chkC s c = 0:=fun c hc=>by
 unfold cnsL at hc
 split at hc
 ·rename_i h
  rcases List.mem_cons.1 hc with e | hc
  ·rw [e];exact hq.filt
  ·rw [List.mem_singleton.1 hc];exact (hq.event h).2.2
 ·rw [List.mem_singleton.1 hc];exact hq.filt
theorem zT7 {s:Sch} {q:Qst} {n:Nat} {p:Pk}:p∈usP s q n↔∃ k:Nat,k < n∧usB q k = true∧p = ⟨k,yH s k (finI s k)⟩:=by
 unfold usP
 simp only [List.mem_map,List.mem_filter,List.mem_range]
 constructor
 ·rintro ⟨k,⟨h1,h2⟩,rfl⟩;exact ⟨k,h1,h2,rfl⟩
 ·rintro ⟨k,h1,h2,rfl⟩;exact ⟨k,⟨h1,h2⟩,rfl⟩
theorem jo7 (s:Sch) (q:Qst) (n:Nat):(usP s q n).length≤n:=by
 unfold usP
 rw [List.length_map]
 have:=List.length_filter_le (fun k:Nat=>usB q k) (List.range n)
 rw [List.length_range] at this
 exact this
def qL5 (s:Sch) (q:Qst):List Pk:=dmP s q ++ usP s q s.cols.length ++ (cnsL q).flatMap (jS s)
theorem qV6 {s:Sch} {q:Qst} (hq:QstOk s q):∀ p∈qL5 s q,1≤p.col∧p.col < s.cols.length:=fun p hp=>by
 unfold qL5 at hp
 rcases List.mem_append.1 hp with hp | hp
 ·rcases List.mem_append.1 hp with hp | hp
  ·obtain ⟨d,hd,rfl⟩:=List.mem_map.1 hp
   obtain ⟨_,h1,h2,_⟩:=zw5 (zh9 hq d hd).1
   exact ⟨h1,h2⟩
  ·obtain ⟨k,h1,h2,rfl⟩:=zT7.1 hp
   unfold usB at h2
   rw [Bool.and_eq_true,decide_eq_true_eq] at h2
   exact ⟨by dsimp only;omega,by dsimp only;omega⟩
 ·obtain ⟨c,hc,hp⟩:=List.mem_flatMap.1 hp
  exact jc5 (zx6 hq c hc) p hp
theorem Ks {s:Sch} {q:Qst} (h:qstE s q = 0):wW s q = canF (fun k=>mxl (qL5 s q) k) s.cols.length:=by
 have hq:=qg0 h
 have hb:=qV6 hq
 obtain ⟨n1,n2⟩:=YS hq.filt
 rw [zn0 h,n1,qs5 _ (fun k=>Jg _ _) fun p hp=>?_]
 ·refine Zy fun k _=>?_
  rw [← zT5 hq.filt k]
  have e:(cnsL q).flatMap (jS s) = jS s q.filt ++ evP s q:=by
   unfold cnsL evP
   split <;> simp
  rw [qL5,e]
  simp only [qG8]
  omega
 ·have:p∈qL5 s q:=by
   unfold qL5
   have e:(cnsL q).flatMap (jS s) = jS s q.filt ++ evP s q:=by
    unfold cnsL evP
    split <;> simp
   rw [e]
   simp only [List.mem_append] at hp ⊢
   rcases hp with (h | h) | h
   ·exact .inr (.inr h)
   ·exact .inl (.inl h)
   ·exact .inl (.inr h)
  have:=hb p this
  omega
theorem Kt (s:Sch) (hs:Ze s) (q:Qst):Spc Tryz.prog kN [schT s,qstT q] [] (vPs (wW s q)) []:=by
 refine Ky [15] qj5 mixm (by simp) fun e _ hst=>qg ?_
 unfold yu
 simp only [Wr,List.contains_cons,List.contains_nil,Nat.reduceBEq,Bool.or_false,Bool.or_true,Bool.true_or,Bool.false_or,cond_true,cond_false]
 refine sW ?_
 refine C1.im (yN s hs q) (by rfl) (by rfl) ?_
 simp only [tZ,↓un_u,simprocAttr,bne_iff_ne,bne_eq_false_iff_eq]
 refine ⟨fun h=>?_,fun h=>?_⟩
 ·rw [wW,if_pos h]
  exact .oA [] []
 have hq:=qg0 h
 have hok:=qZ hq.sch
 have hnc:=hok.nc
 have hnd:=hq.nd
 have hnt:=hq.nt
 have hck:=zx6 hq
 have hcl:(cnsL q).length≤2:=by unfold cnsL;split <;> simp
 have hdl:(dmP s q).length = q.dims.length:=List.length_map _
 have hbd:=qV6 hq
 refine qu mixm (α:=Nat) [5,19] (fun i=>i≤q.dims.length) (fun i=>[(5,.asl 1 ((dmP s q).take i).length),(19,vI i)]) (fun i=>[(4096,.arr 2 [schT s] false),(4100,.arr 17 [qstT q] false),(1,.arr 2 (((dmP s q).take i).map pkT) false)]) (fun i=>q.dims.length - i) 0 (by omega) ?_ fun i hi=>?_
 ·exact .oA [(4096,some 4096),(4100,some 4100),(1,none)] []
 refine sD ?_
 refine ⟨fun h3=>?_,fun h3=>?_⟩
 ·have hi2:i < q.dims.length:=by omega
  have hwi:=qh (i:=i) (by omega)
  have hts:(dmP s q).take (i + 1) = (dmP s q).take i ++ [⟨q.dims[i].col,yH s q.dims[i].col q.dims[i].lev⟩]:=by
   rw [qY (by omega)]
   simp only [dmP,List.getElem_map]
  have hLe:=qc3 s hs q.dims[i].col q.dims[i].lev
  have htl:((dmP s q).take i).length≤3:=by rw [List.length_take];omega
  simp only [tZ,↓un_u,simprocAttr,Int.toNat_natCast,qe hi2]
  refine ⟨by omega,?_⟩
  refine C1.im hLe (by rfl) (by rfl) ?_
  simp only [tZ,↓un_u,simprocAttr,hwi]
  refine ⟨by omega,by kernel_rfl,i + 1,by omega,by omega,?_⟩
  rw [hts,List.map_append,List.length_append]
  exact .oA [(4096,some 4096),(4100,some 4100),(1,some 1)] []
 ·have hil:i = q.dims.length:=by omega
  subst hil
  rw [← hdl,List.take_length]
  refine qu mixm (α:=Nat) [5,39] (fun i=>i≤s.cols.length) (fun i=>[(5,.asl 1 (dmP s q ++ usP s q i).length),(39,vI i)]) (fun i=>[(4096,.arr 2 [schT s] false),(4100,.arr 17 [qstT q] false),(1,.arr 2 ((dmP s q ++ usP s q i).map pkT) false)]) (fun i=>s.cols.length - i) 0 (by omega) ?_ fun i hi=>?_
  ·rw [show usP s q 0 = [] from rfl,List.append_nil]
   exact .oA [(4096,some 4096),(4100,some 4100),(1,some 1)] []
  have hul:=jo7 s q i
  have hus:=qV5 s q i
  have hoL:(dmP s q ++ usP s q i).length≤1000000:=by rw [List.length_append];omega
  refine sD ?_
  refine ⟨fun h3=>?_,fun h3=>?_⟩
  ·have hi2:i < s.cols.length:=by omega
   have hwi:=qh (i:=i) (by omega)
   refine C1.im (Wp q i (by omega)) (by rfl) (by rfl) ?_
   refine sW ?_
   refine ⟨fun h4=>?_,fun h4=>?_⟩
   ·rw [if_pos h4] at hus
    refine C1.im (yI s hs i) (by rfl) (by rfl) ?_
    refine sW ?_
    refine C1.im (qc3 s hs i (finI s i)) (by rfl) (by rfl) ?_
    simp only [tZ,↓un_u,simprocAttr,hwi]
    refine ⟨by omega,by kernel_rfl,i + 1,by omega,by omega,?_⟩
    rw [hus,← List.append_assoc,List.map_append,List.length_append (bs:=[_])]
    exact .oA [(4096,some 4096),(4100,some 4100),(1,some 1)] []
   ·rw [if_neg (by rw [h4];simp),List.append_nil] at hus
    simp only [tZ,↓un_u,simprocAttr,hwi]
    refine ⟨i + 1,by omega,by omega,?_⟩
    rw [hus]
    exact .oA [(4096,some 4096),(4100,some 4100),(1,some 1)] []
  ·have hil:i = s.cols.length:=by omega
   subst hil
   rw [Ks h]
   unfold qL5 at hbd ⊢
   have hll:(dmP s q ++ usP s q s.cols.length).length = (dmP s q).length + (usP s q s.cols.length).length:=List.length_append
   generalize dmP s q ++ usP s q s.cols.length = own at hoL hbd hll ⊢
   refine W_le [(2,.ptr 4096 1 0 0),(3,.ptr 4100 1 0 0),(5,vPs own)] [(4096,.arr 2 [schT s] false),(4100,.arr 17 [qstT q] false)] ?_ ?_
   ·exact .oA [(4096,some 4096),(4100,some 4100)] [1]
   refine sW ?_
   refine C1.im (Kq q) (by rfl) (by rfl) ?_
   generalize cnsL q = L at hck hcl hbd ⊢
   refine sW ?_
   refine qu mixm (α:=Nat) [9,62] (fun i=>i≤L.length) (fun i=>[(9,.asl 65540 (i + 1)),(62,vI i)]) (fun i=>[(4096,.arr 2 [schT s] false),(65540,.arr 1 (vPs own :: (L.take i).map fun c=>vPs (jS s c)) false)]) (fun i=>L.length - i) 0 (by omega) ?_ fun i hi=>?_
   ·exact .oA [(4096,some 4096),(65540,some 65540)] []
   have htl:(L.take i).length = i:=by rw [List.length_take];omega
   refine sD ?_
   refine ⟨fun h3=>?_,fun h3=>?_⟩
   ·have hi2:i < L.length:=by omega
    have hwi:=qh (i:=i) (by omega)
    have hN:=qs4 s hs L[i]
    simp only [tZ,↓un_u,simprocAttr,Int.toNat_natCast,qe hi2,zX]
    refine ⟨by omega,?_⟩
    refine C1.im hN (by rfl) (by rfl) ?_
    simp only [tZ,↓un_u,simprocAttr,hwi]
    refine ⟨by omega,i + 1,by omega,by omega,?_⟩
    rw [qY hi2,List.map_append]
    exact .oA [(4096,some 4096),(65540,some 65540)] []
   ·have hil:i = L.length:=by omega
    subst hil
    rw [List.take_length]
    have hfl:(own :: L.map (jS s)).flatten = own ++ L.flatMap (jS s):=by rw [List.flatten_cons,List.flatMap_def]
    have hbb:∀ l∈own :: L.map (jS s),∀ p∈l,0≤p.col∧p.col < s.cols.length:=fun l hl p hp=>by
     have:=hbd p (by rw [← hfl];exact List.mem_flatten.2 ⟨l,hl,hp⟩)
     omega
    have hbl:∀ l∈own :: L.map (jS s),l.length≤1000:=fun l hl=>by
     rcases List.mem_cons.1 hl with e | hl
     ·rw [e];omega
     ·obtain ⟨c,_,rfl⟩:=List.mem_map.1 hl
      have:=qG0 s c
      omega
    have hM:=Kr (own :: L.map (jS s)) s.cols.length (by omega) (by omega) (by rw [List.length_cons,List.length_map];omega) hbl hbb
    rw [hfl,List.map_cons,List.map_map] at hM
    refine C1.shut [65540] hM ?_ (by rfl) rfl ?_
    ·all_goals (try exact clA)
    refine sW ?_
    exact .oA [] []
end Go.Proofs
