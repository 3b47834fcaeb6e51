/- A part of the proof: trees of Go values, short forms, contracts. -/
import Derived.WalkKit
import Derived.Still
import Derived.MapKept
import GoSem.Builtin.Cap
import Derived.Laws.Externs
import GoSem.Extern.SlicesOverlaps
import Derived.Carry
import Derived.ProofKit
import Derived.OpenShut
import Derived.HandedShaped
import Derived.Lay
import Derived.LaidLaws
import Derived.MakeChecks
import Derived.SevenTiedAt
import Derived.Test.YtjckmmphmhafjaaGreatDoorChecked
import Derived.Test.YtjckmmphmhafjaaGreatDoorK16
set_option linter.unusedSimpArgs false
set_option linter.unusedVariables false
namespace Go.Proofs
open Go Go.TL
theorem qm2 {s:Sch} (h:SchOk s) {i:Nat} (hi:i < s.cols.length) (h2:(qu s i).kind = 2):(ja s i).length≤60:=by
 obtain ⟨d1,d2⟩:=h.cdl hi h2
 obtain ⟨_,d5,d6⟩:=jd d2
 unfold ja atL
 rw [if_neg (by rw [d2];simp),List.length_map]
 have:=List.length_filter_le (fun i=>(dep (zG s i).codes i:Int) == yY (zG s i) - 1) (List.range (zG s i).codes.length)
 refine Nat.le_trans (List.length_filter_le _ _) ?_
 rw [List.length_range];exact d6
theorem qz2 (s:Sch) (hok:SchOk s) (i o lev:Nat) (hi:i < s.cols.length) (h0:0 < i) (hl:(lev:Int)≤finI s i):Spc Tryz.prog QQ [schT s,vI i,vI o,vI lev] [] (vB (divB s i o lev)) []:=by
 have hat:qu s i = s.cols[i]:=by rw [qu,qj hi]
 obtain ⟨hE,c1,c2,hfin⟩:=qz1 (s:=s) (c:=i) (by omega)
 rw [Int.toNat_natCast,hat] at hfin
 have hwd:=fun e l=>hok.wid hi (by omega) e (lev:=l)
 have hlv:=Jw s hok i hi
 have hll:=qm2 hok hi
 rw [hat] at hwd hlv hll
 have hE2:divB s i o lev = if lev = 0∨lev≤o then true
  else if s.cols[i].kind = 2 then qI1 (ja s i).length (divP s i (ja s i) o lev)
  else if o = 0 then !s.cols[i].opt && decide ((jW s.cols[i].low (zH s.cols[i] lev) + 1) * zH s.cols[i] lev > s.cols[i].high)
  else divM s.cols[i].high (zH s.cols[i] lev) (zH s.cols[i] o) 2 ((jW s.cols[i].low (zH s.cols[i] lev) + 1) * zH s.cols[i] lev):=by rw [divB,hat]
 rw [hE2]
 refine qe qq5 mixm (by simp) fun e _ hst=>qh ?_
 unfold yU
 simp only [tZ,↓un_u,simprocAttr,Int.toNat_natCast,qd hi]
 generalize s.cols[i] = x at hwd hlv hfin hll ⊢
 simp only [tZ,↓un_u,simprocAttr,tD,beq_iff_eq,beq_eq_false_iff_ne]
 refine ⟨by omega,fun h=>?_,fun h=>?_⟩
 ·rw [if_pos (by omega)]
  exact .oA [] []
 rw [if_neg (by omega)]
 refine ⟨fun h2=>?_,fun h2=>?_⟩
 ·rw [if_pos h2]
  refine C1.im (hlv h2) (by rfl) (by rfl) ?_
  generalize ja s i = L at hll ⊢
  have hll:=hll h2
  refine sW ?_
  refine qr mixm (α:=Nat) [11] (fun j=>j≤L.length∧qI1 j (divP s i L o lev) = true) (fun j=>[(11,vI j)]) (fun j=>[(4096,.arr 2 [schT s] false),(8212,.arr 7 [colT x] false)]) (fun j=>L.length - j) 0 ⟨by omega,rfl⟩ ?_ fun j hj=>?_
  ·exact .oA [(4096,some 4096),(8212,some 8212)] []
  obtain ⟨j1,j2⟩:=hj
  refine sD ?_
  refine ⟨fun h3=>?_,fun h3=>?_⟩
  ·have hj2:j < L.length:=by omega
   have hwj:=qg (i:=j) (by omega)
   have hgj:L.getD j 0 = L[j]:=qj hj2
   refine qr mixm (α:=Nat) [12] (fun k=>k≤j∧(List.range k).all (divP s i L o lev j) = true) (fun k=>[(12,vI k)]) (fun k=>[(4096,.arr 2 [schT s] false),(8212,.arr 7 [colT x] false)]) (fun k=>j - k) 0 ⟨by omega,rfl⟩ ?_ fun k hk=>?_
   ·exact .oA [(4096,some 4096),(8212,some 8212)] []
   obtain ⟨k1,k2⟩:=hk
   refine sD ?_
   refine ⟨fun h4=>?_,fun h4=>?_⟩
   ·have hk2:k < L.length:=by omega
    have hwk:=qg (i:=k) (by omega)
    have hgk:L.getD k 0 = L[k]:=qj hk2
    have hP:divP s i L o lev j k = !(!(jb s i lev L[j] == jb s i lev L[k]) && (jb s i o L[j] == jb s i o L[k])):=by rw [divP,hgj,hgk]
    have hC1:=jc s hok.sm i o L[j]
    have hC2:=jc s hok.sm i o L[k]
    simp only [tZ,↓un_u,simprocAttr,Int.toNat_natCast,qd hj2,qd hk2]
    refine ⟨by omega,?_⟩
    refine C1.im (jc s hok.sm i lev L[j]) (by rfl) (by rfl) ?_
    simp only [tZ,↓un_u,simprocAttr,Int.toNat_natCast,qd hj2,qd hk2]
    refine ⟨by omega,?_⟩
    refine C1.im (jc s hok.sm i lev L[k]) (by rfl) (by rfl) ?_
    simp only [tZ,↓un_u,simprocAttr,Int.toNat_natCast,qd hj2,qd hk2]
    refine ⟨fun _=>by omega,?_⟩
    refine C2.im (fun _=>hC1) (fun _=>rfl) (by rfl) ?_
    simp only [tZ,↓un_u,simprocAttr,Int.toNat_natCast,qd hj2,qd hk2]
    refine ⟨fun _=>by omega,?_⟩
    refine C2.im (fun _=>hC2) (fun _=>rfl) (by rfl) ?_
    simp only [tZ,↓un_u,simprocAttr,hwk,tD,bne_iff_ne,bne_eq_false_iff_eq,beq_iff_eq,beq_eq_false_iff_ne]
    refine ⟨by kernel_rfl,fun h5=>?_,fun h5=>?_⟩
    ·rw [zA1 hj2 (show k < j by omega) (by rw [hP];grind)]
     exact .oA [] []
    ·refine ⟨k + 1,⟨by omega,?_⟩,by omega,?_⟩
     ·rw [ZD,k2,hP];grind
     ·exact .oA [(4096,some 4096),(8212,some 8212)] []
   ·have hkj:k = j:=by omega
    subst hkj
    simp only [tZ,↓un_u,simprocAttr,hwj]
    refine ⟨k + 1,⟨by omega,?_⟩,by omega,?_⟩
    ·rw [qM5,j2,k2];rfl
    ·exact .oA [(4096,some 4096),(8212,some 8212)] []
  ·have hjl:j = L.length:=by omega
   subst hjl
   rw [j2]
   exact .oA [] []
 rw [if_neg h2] at hfin
 rw [if_neg h2]
 obtain ⟨w1,w2,w3,w4,w5,w6,w7,_⟩:=hwd h2 lev (by omega)
 generalize hW:zH x lev = w at w1 w2 ⊢
 have hfm:=zh5 (v:=x.low) (w:=w) (by omega)
 have hfl:=jf7 (v:=x.low) (w:=w) (by omega) (by omega)
 have hw1:IntKind.i64.wrap (jW x.low w + 1) = jW x.low w + 1:=IntWalk.i64_in _ (by omega)
 have hw2:IntKind.i64.wrap ((jW x.low w + 1) * w) = (jW x.low w + 1) * w:=IntWalk.i64_in _ (by rw [Int.add_mul];omega)
 have hF : -3000000≤(jW x.low w + 1) * w∧(jW x.low w + 1) * w≤3000000:=by rw [Int.add_mul];omega
 refine C1.im (QA x lev (by omega) (by omega)) (by rfl) (by rfl) ?_
 rw [hW]
 refine sW ?_
 refine C1.im (qh1 x.low w (by omega) (by omega)) (by rfl) (by rfl) ?_
 simp only [tZ,↓un_u,simprocAttr,hw1,hw2]
 generalize (jW x.low w + 1) * w = F at hF ⊢
 simp only [tZ,↓un_u,simprocAttr,beq_iff_eq,beq_eq_false_iff_ne]
 refine ⟨fun h3=>?_,fun h3=>?_⟩
 ·rw [if_pos (by omega)]
  exact .oA [] []
 rw [if_neg (by omega)]
 obtain ⟨v1,v2,_⟩:=hwd h2 o (by omega)
 have hwo:=QA x o (by omega) (by omega)
 generalize zH x o = wo at v1 v2 hwo ⊢
 refine qr mixm (α:=Nat×Int) [14,15] (fun y=>y.1≤2∧divM x.high w wo 2 F = divM x.high w wo (2 - y.1) y.2∧-3000000 - 1000000 * y.1≤y.2∧y.2≤3000000 + 1000000 * y.1) (fun y=>[(14,vI y.2),(15,vI y.1)]) (fun y=>[(4096,.arr 2 [schT s] false),(8212,.arr 7 [colT x] false)]) (fun y=>2 - y.1) (0,F) ⟨by simp,rfl,by simp;omega,by simp;omega⟩ ?_ fun y hy=>?_
 ·exact .oA [(4096,some 4096),(8212,some 8212)] []
 obtain ⟨n,f⟩:=y
 obtain ⟨y1,y2,y3,y4⟩:=hy
 dsimp only at y1 y2 y3 y4
 have hwn:=qg (i:=n) (by omega)
 have hwf:IntKind.i64.wrap (f + w) = f + w:=IntWalk.i64_in _ (by omega)
 rw [y2]
 refine sD ?_
 refine ⟨fun h4=>?_,fun h4=>?_⟩
 ·obtain ⟨m,hm⟩:∃ m,2 - n = m + 1:=⟨1 - n,by omega⟩
  refine C1.im hwo (by rfl) (by rfl) ?_
  simp only [tZ,↓un_u,simprocAttr,bne_iff_ne,bne_eq_false_iff_eq]
  rw [hm,divM,if_neg (by omega)]
  refine ⟨by omega,fun h5=>?_,fun h5=>?_⟩
  ·rw [if_pos h5]
   exact .oA [] []
  ·simp only [tZ,↓un_u,simprocAttr,hwn,hwf]
   refine ⟨(n + 1,f + w),⟨by dsimp only;omega,?_,by dsimp only;omega,by dsimp only;omega⟩,by dsimp only;omega,?_⟩
   ·dsimp only
    rw [if_neg (by rw [h5];simp),show 2 - (n + 1) = m by omega]
   ·exact .oA [(4096,some 4096),(8212,some 8212)] []
 ·have:divM x.high w wo (2 - n) f = true:=by
   by_cases e:n = 2
   ·subst e;rfl
   ·obtain ⟨m,hm⟩:∃ m,2 - n = m + 1:=⟨1 - n,by omega⟩
    rw [hm,divM,if_pos (by omega)]
  rw [this]
  exact .oA [] []
theorem jf9 (s:Sch) (i lev:Nat):divB s i lev lev = true:=by unfold divB;rw [if_pos (by omega)]
theorem qV2 {s:Sch} {c:Int} (h:schE s = 0):finI s c≤59:=by
 by_cases h0:0≤finI s c
 ·obtain ⟨_,h1,h2,h3⟩:=qz1 h0
  rw [h3]
  split
  ·have:=qU7 (l:=zG s c.toNat);omega
  ·rename_i h4
   have hok:=qT h
   by_cases e:(qu s c.toNat).widths.length = 0
   ·omega
   ·have:=hok.wid (i:=c.toNat) (by omega) (by omega) h4 (lev:=1) (by omega)
    omega
 ·omega
theorem qh6 (s:Sch) (hs:KJ s) (c lev:Int):Spc Tryz.prog Qo [schT s,vI c,vI lev] [] (vI (Zm s c lev)) []:=by
 refine qe qE9 mixm (by simp) fun e _ hst=>qh ?_
 unfold Je
 refine sW ?_
 refine C1.im (kH s hs c) (by rfl) (by rfl) ?_
 refine sW ?_
 refine C1.im (jk lev 0 (finI s c)) (by rfl) (by rfl) ?_
 simp only [tZ,↓un_u,simprocAttr,Bool.not_eq_true',Bool.not_eq_false']
 refine ⟨fun h=>?_,fun h=>?_⟩
 ·rw [Zm,if_pos h]
  exact .oA [] []
 rw [Zm,if_neg (by rw [h];simp)]
 rw [qh4] at h
 obtain ⟨hE,c1,c2,hfin⟩:=qz1 (s:=s) (c:=c) (by omega)
 have hfl:=qV2 (c:=c) hE
 have hok:=qT hE
 obtain ⟨i,rfl⟩:=Int.eq_ofNat_of_zero_le (show 0≤c by omega)
 obtain ⟨v,rfl⟩:=Int.eq_ofNat_of_zero_le h.1
 simp only [Int.toNat_natCast]
 refine qr mixm (α:=Nat) [7] (fun n=>n≤v∧KT (fun n=>divB s i n v) 64 0 = KT (fun n=>divB s i n v) (64 - n) n) (fun n=>[(7,vI n)]) (fun n=>[(4096,.arr 2 [schT s] false)]) (fun n=>v - n) 0 ⟨by omega,rfl⟩ ?_ fun n hn=>?_
 ·exact .oA [(4096,some 4096)] []
 obtain ⟨n1,n2⟩:=hn
 have hwn:=qg (i:=n) (by omega)
 refine sW ?_
 refine C1.im (qz2 s hok i n v (by omega) (by omega) h.2) (by rfl) (by rfl) ?_
 simp only [tZ,↓un_u,simprocAttr,Bool.not_eq_true',Bool.not_eq_false',hwn]
 have e:64 - n = (63 - n) + 1:=by omega
 rw [n2,e,KT]
 refine ⟨fun h3=>?_,fun h3=>?_⟩
 ·have hnv:n≠v:=fun k=>by rw [k,jf9] at h3;cases h3
  refine ⟨n + 1,⟨by omega,?_⟩,by omega,?_⟩
  ·rw [if_neg (by rw [h3];simp),show 63 - n = 64 - (n + 1) by omega]
  ·exact .oA [(4096,some 4096)] []
 ·rw [if_pos h3]
  exact .oA [] []
end Go.Proofs
namespace Go.Proofs
open Go Go.TL
abbrev cnT (c:Cnd):T:=.agg [vI c.op,vI c.col,vI c.code,vI c.lo,vI c.hi,vCs c.kids]
theorem jg0 (c:Cnd):(cndT c).cells.length = 6∧imL (cndT c).cells = true:=by rw [kW];exact ⟨rfl,rfl⟩
theorem yz {α:Type} {f:α→T} {l:List α} {i:Nat} (h:l.length≤i):(l.map f).getD i .junk = .junk:=by simp [List.getD,h]
theorem zW1 {α:Type} {l:List α} {i:Nat} (h:i < l.length):l.drop i = l[i] :: l.drop (i + 1):=List.drop_eq_getElem_cons h
theorem qV3:∀ (c:Cnd) (m:Int),1≤m→m≤1000→Spc Tryz.prog Qs [cnT c,vI m] [] (vI (cntC c m)) []:=by
 refine Cnd.ind' fun c ih m hm hm2=>?_
 rw [qb8]
 refine qe qG1 mixm (by simp) fun e _ hst=>qh ?_
 unfold Jk
 refine sW ?_
 refine qr mixm (α:=Nat×Int) [5,6] (fun y=>y.1≤c.kids.length∧kX c.kids m 1 = kX (c.kids.drop y.1) m y.2∧y.2≤m∧y.1 + 1≤y.2) (fun y=>[(5,vI y.2),(6,vI y.1)]) (fun y=>[(4096,.arr 6 [cnT c] false)]) (fun y=>c.kids.length - y.1) (0,1) ⟨by simp,rfl,hm,by simp⟩ ?_ fun y hy=>?_
 ·exact .oA [(4096,some 4096)] []
 obtain ⟨i,n⟩:=y
 obtain ⟨y1,y2,y3,y4⟩:=hy
 dsimp only at y1 y2 y3 y4
 rw [y2]
 refine sD ?_
 refine ⟨fun h=>?_,fun h=>?_⟩
 ·have hi:i < c.kids.length:=by omega
  have hwi:=qg (i:=i) (by omega)
  have hw:IntKind.i64.wrap (m - n) = m - n:=IntWalk.i64_in _ (by omega)
  have hc:=qz0 c.kids[i] (m - n) (by omega)
  have hw2:IntKind.i64.wrap (n + cntC c.kids[i] (m - n)) = n + cntC c.kids[i] (m - n):=IntWalk.i64_in _ (by omega)
  simp only [tZ,↓un_u,simprocAttr,Int.toNat_natCast,qd hi,kW,hw]
  refine ⟨by omega,?_⟩
  refine C1.im (ih _ (List.getElem_mem hi) (m - n) (by omega) (by omega)) (by rfl) (by rfl) ?_
  simp only [tZ,↓un_u,simprocAttr,hw2,hwi]
  refine ⟨(i + 1,n + cntC c.kids[i] (m - n)),⟨by dsimp only;omega,?_,by dsimp only;omega,by dsimp only;omega⟩,by dsimp only;omega,?_⟩
  ·dsimp only
   rw [zW1 hi,kX,if_pos (by omega)]
  ·exact .oA [(4096,some 4096)] []
 ·have:kX (c.kids.drop i) m n = n:=by
   by_cases hi:i < c.kids.length
   ·rw [zW1 hi,kX,if_neg (by omega)]
   ·rw [List.drop_of_length_le (by omega),kX]
  rw [this]
  exact .oA [] []
theorem qM6:∀ (l:List Cnd) (k:Cnd),kY (l ++ [k]) = max (kY l) (depC k)
 | [],k=>by simp [kY]
 | x :: r,k=>by rw [List.cons_append,kY,qM6 r k,kY];omega
theorem qM7:∀ (l:List Cnd) (i:Nat),kY (l.take i)≤kY l
 | [],i=>by simp
 | x :: r,0=>by simp [kY]
 | x :: r,i + 1=>by rw [List.take_succ_cons,kY,kY];have:=qM7 r i;omega
theorem qV4:∀ {l:List Cnd} {m n:Int},n≤m→kX l m n < m→n + l.length≤kX l m n∧∀ k∈l,∃ m',1≤m'∧m'≤m - n∧cntC k m' < m'
 | [],m,n,_,h=>by rw [kX];simp
 | x :: r,m,n,h1,h=>by
   rw [kX] at h ⊢
   split at h
   ·rename_i h2
    rw [if_pos h2]
    have h3:=qz0 x (m - n) (by omega)
    obtain ⟨h4,h5⟩:=qV4 (l:=r) (by omega) h
    refine ⟨by rw [List.length_cons];omega,fun k hk=>?_⟩
    rcases List.mem_cons.1 hk with e | hk
    ·subst e
     exact ⟨m - n,by omega,by omega,by omega⟩
    ·obtain ⟨m',a,b,c⟩:=h5 k hk
     exact ⟨m',a,by omega,c⟩
   ·omega
theorem qV5:∀ (c:Cnd) (m:Int),1≤m→m≤1000→cntC c m < m→Spc Tryz.prog Qt [cnT c] [] (vI (depC c)) []:=by
 refine Cnd.ind' fun c ih m hm hm2 hc=>?_
 have hd:=js1 c m hm hc
 rw [qb8] at hc hd
 obtain ⟨hk1,hk2⟩:=qV4 (by omega) hc
 rw [qy5] at hd ⊢
 refine qe qG3 mixm (by simp) fun e _ hst=>qh ?_
 unfold Jl
 refine sW ?_
 refine qr mixm (α:=Nat) [3,4] (fun i=>i≤c.kids.length) (fun i=>[(3,vI (kY (c.kids.take i))),(4,vI i)]) (fun i=>[(4096,.arr 6 [cnT c] false)]) (fun i=>c.kids.length - i) 0 (by omega) ?_ fun i hi=>?_
 ·refine .of [(4096,some 4096)] [] rfl (by first | rfl | (rw [hst];rfl)) ?_ ?_
  all_goals (try simp only [tL,simprocAttr,List.map_append,List.map_cons,List.map_nil,List.cons_append,List.nil_append,List.take_zero,kY])
  all_goals (try (repeat' (first | exact qZ | (apply zN;intro _;exact ⟨rfl,rfl⟩) | (apply qA;intro _;exact ⟨rfl,rfl⟩) | with_reducible apply za | with_reducible refine zo ⟨rfl,rfl⟩ ?_ | exact zO | with_reducible apply qV | with_reducible refine qJ ⟨rfl,rfl,?_⟩ ?_ | with_reducible apply And.intro | exact qW rfl | exact qW (by assumption) | (refine ⟨⟨?_,rfl,?_,rfl,?_⟩,trivial⟩ <;> first | (simp;done) | (apply qA;intro _;exact ⟨rfl,rfl⟩)) | trivial | rfl | (rw [qg (by omega)]) | omega)))
 have hdt:=qM7 c.kids i
 refine sD ?_
 refine ⟨fun h=>?_,fun h=>?_⟩
 ·have hi2:i < c.kids.length:=by omega
  have hwi:=qg (i:=i) (by omega)
  have hs:kY (c.kids.take (i + 1)) = max (kY (c.kids.take i)) (depC c.kids[i]):=by rw [qD hi2,qM6]
  obtain ⟨m',a1,a2,a3⟩:=hk2 _ (List.getElem_mem hi2)
  simp only [tZ,↓un_u,simprocAttr,Int.toNat_natCast,qd hi2,kW]
  refine ⟨by omega,?_⟩
  refine C1.im (ih _ (List.getElem_mem hi2) m' a1 (by omega) a3) (by rfl) (by rfl) ?_
  have hmx:maxI (kY (c.kids.take i):Int) (depC c.kids[i]) = (kY (c.kids.take (i + 1)):Int):=by rw [hs];unfold maxI;omega
  simp only [tZ,↓un_u,simprocAttr,hwi,hmx]
  refine ⟨i + 1,by omega,by omega,?_⟩
  exact .oA [(4096,some 4096)] []
 ·have hil:i = c.kids.length:=by omega
  subst hil
  rw [List.take_length] at hdt ⊢
  have hw:=qg (i:=kY c.kids) (by omega)
  simp only [tZ,↓un_u,simprocAttr,hw]
  exact .oA [] []
theorem qM (s:Sch) (col kind:Int):Spc Tryz.prog JE [schT s,vI col,vI kind] [] (vB (isB s col kind)) []:=by
 by_cases h:0≤col∧col < s.cols.length
 ·obtain ⟨i,rfl⟩:=Int.eq_ofNat_of_zero_le h.1
  have hi:i < s.cols.length:=by omega
  have e1:decide ((i:Int)≥0) = true:=decide_eq_true (by omega)
  have e2:decide ((i:Int) < s.cols.length) = true:=decide_eq_true (by omega)
  have e3:isB s i kind = (s.cols[i].kind == kind):=by
   rw [isB,Int.toNat_natCast,qu,qj hi,decide_eq_true h.1,decide_eq_true h.2];rfl
  refine qe qb5 mixm (by simp) fun e _ hst=>qh ?_
  unfold Zi
  simp only [tZ,↓un_u,simprocAttr,e1,e2,Int.toNat_natCast,qd hi]
  rw [e3]
  refine ⟨by omega,?_⟩
  exact .oA [] []
 ·have e1:(decide (col≥0) && decide (col < (s.cols.length:Int))) = false:=by
   rw [Bool.and_eq_false_iff,decide_eq_false_iff_not,decide_eq_false_iff_not];omega
  have e3:isB s col kind = false:=by
   unfold isB
   rw [show (decide (0≤col) && decide (col < (s.cols.length:Int))) = false from e1];rfl
  rcases Nat.lt_or_ge col.toNat s.cols.length with hk | hk
  ·refine qe qb5 mixm (by simp) fun e _ hst=>qh ?_
   unfold Zi
   simp only [tZ,↓un_u,simprocAttr,e1,qd hk]
   rw [e3]
   exact .oA [] []
  ·have hj:(s.cols.map colT).getD col.toNat .junk = .junk:=yz hk
   refine qe qb5 mixm (by simp) fun e _ hst=>qh ?_
   unfold Zi
   simp only [tZ,↓un_u,simprocAttr,e1,hj,List.drop_succ_cons,List.drop_nil]
   rw [e3]
   exact .oA [] []
end Go.Proofs
namespace Go.Proofs
open Go Go.TL
set_option maxRecDepth 4000
set_option maxHeartbeats 8000000
theorem qz3:∀ {s:Sch} {l:List Cnd} {i:Nat} (h:i < l.length),yo s (l.take i) = 0→nodE s l[i]≠0→yo s l = nodE s l[i]
 | s,x :: r,0,h,_,h2=>by
   have h2:nodE s x≠0:=h2
   rw [yo,if_pos h2];rfl
 | s,x :: r,i + 1,h,h1,h2=>by
   rw [List.take_succ_cons,yo] at h1
   split at h1
   ·rename_i h3;exact absurd h1 h3
   ·rename_i h3
    rw [yo,if_neg h3]
    exact qz3 (l:=r) (i:=i) (by simpa using h) h1 h2
theorem qM8:∀ {s:Sch} {l:List Cnd} {k:Cnd},yo s l = 0→nodE s k = 0→yo s (l ++ [k]) = 0
 | s,[],k,_,h=>by simp [yo,h]
 | s,x :: r,k,h1,h2=>by
   rw [yo] at h1
   split at h1
   ·rename_i h3;exact absurd h1 h3
   ·rename_i h3
    rw [List.cons_append,yo,if_neg h3]
    exact qM8 h1 h2
theorem SchOk.list0 {s:Sch} (h:SchOk s) {i:Nat} (hi:i < s.cols.length) (hk:(qu s i).kind≠2):(qu s i).list = 0:=by
 have:=h.cs i hi
 unfold colE at this
 grind
theorem zh6 (s:Sch) (hok:SchOk s) (hL:0 < s.lists.length):∀ (c:Cnd),Spc Tryz.prog Zx [schT s,cnT c] [] (vI (nodE s c)) []:=by
 refine Cnd.ind' fun c ih=>?_
 have hN0:=zp3 s c
 have hn0:=hok.nl
 have hn1:=hok.nc
 generalize nodE s c = N at hN0 ⊢
 obtain ⟨op,col,code,lo,hi,ks⟩:=c
 simp only [Cnd.op,Cnd.col,Cnd.code,Cnd.lo,Cnd.hi,Cnd.kids] at ih hN0 ⊢
 have hn:ndE s (.mk op col code lo hi ks) = if op < 1∨7 < op then 4
 else if ks.length≠arC op∨(op≠2∧op≠3∧op≠4∧col≠0)∨(op≠2∧code≠0)∨(op≠3∧(lo≠0∨hi≠0)) then 11
 else if (op = 2∧isB s col 2 = false)∨(op = 3∧isB s col 3 = false)∨(op = 4∧(isB s col 3 = false∨(qu s col.toNat).opt = false)) then 7
 else if op = 2∧(code < 0∨code≥(zG s col.toNat).codes.length) then 6
 else if op = 3∧(lo < -1000000∨hi > 1000000∨lo > hi) then 2 else 0:=rfl
 have hbad:∀ v,v≠0→ndE s (.mk op col code lo hi ks) = v→N = v:=fun v h1 h2=>by rw [hN0,h2,if_pos h1]
 have hgood:ndE s (.mk op col code lo hi ks) = 0→N = yo s ks:=fun h2=>by rw [hN0,h2,if_neg (by simp)]
 clear hN0
 generalize ndE s (.mk op col code lo hi ks) = E at hn hbad hgood
 have h0p:0 < s.cols.length:=by omega
 have hg0:(s.cols.map colT).getD 0 .junk = colT s.cols[0]:=qd (i:=0) h0p
 have hl0:s.cols[0].list.toNat = 0:=by
  have h1:=hok.c0
  have:=hok.list0 (i:=0) h0p (by rw [h1];decide)
  rw [qu,qj h0p] at this
  rw [this];rfl
 have hgl:(s.lists.map cdlT).getD 0 .junk = cdlT s.lists[0]:=qd hL
 have hop:op = 1∨op = 2∨op = 3∨op = 4∨op = 5∨op = 6∨op = 7∨op < 1∨7 < op:=by omega
 rcases hop with e | e | e | e | e | e | e | e
 focus
  have q1:(op == 1) = true:=by rw [e];rfl
  have q2:(op == 2) = false:=by rw [e];rfl
  have q3:(op == 3) = false:=by rw [e];rfl
  have q4:(op == 4) = false:=by rw [e];rfl
  have q5:(op == 5) = false:=by rw [e];rfl
  have q6:(op == 6) = false:=by rw [e];rfl
  have q7:(op == 7) = false:=by rw [e];rfl
  simp [arC,-List.length_eq_zero_iff,e] at hn
  refine qe zR mixm (by simp) fun e _ hst=>qh ?_
  unfold zn
  simp only [tZ,↓un_u,simprocAttr,Cnd.op,Cnd.col,Cnd.code,Cnd.lo,Cnd.hi,Cnd.kids,q1,q2,q3,q4,q5,q6,q7]
  refine ⟨by kernel_rfl,fun h=>?_,fun h=>?_⟩
  ·rw [hbad 11 (by decide) (by rw [hn,if_pos];grind)]
   exact .oA [] []
  have hks:ks.length≤2:=by grind
  rw [hgood (by rw [hn,if_neg];grind)]
  have hc0:col.toNat = 0:=by grind
  refine C2.im (fun _=>qM s col 2) (fun _=>rfl) (by rfl) ?_
  simp only [tZ,↓un_u,simprocAttr,Cnd.op,Cnd.col,Cnd.code,Cnd.lo,Cnd.hi,Cnd.kids,q1,q2,q3,q4,q5,q6,q7]
  refine C2.im (fun _=>qM s col 3) (fun _=>rfl) (by rfl) ?_
  simp only [tZ,↓un_u,simprocAttr,Cnd.op,Cnd.col,Cnd.code,Cnd.lo,Cnd.hi,Cnd.kids,q1,q2,q3,q4,q5,q6,q7]
  refine C2.im (fun _=>qM s col 3) (fun _=>rfl) (by rfl) ?_
  simp only [tZ,↓un_u,simprocAttr,Cnd.op,Cnd.col,Cnd.code,Cnd.lo,Cnd.hi,Cnd.kids,q1,q2,q3,q4,q5,q6,q7,hc0,hg0,hl0,hgl]
  refine ⟨by kernel_rfl,?_⟩
 rotate_left
 focus
  have q1:(op == 1) = false:=by rw [e];rfl
  have q2:(op == 2) = true:=by rw [e];rfl
  have q3:(op == 3) = false:=by rw [e];rfl
  have q4:(op == 4) = false:=by rw [e];rfl
  have q5:(op == 5) = false:=by rw [e];rfl
  have q6:(op == 6) = false:=by rw [e];rfl
  have q7:(op == 7) = false:=by rw [e];rfl
  simp [arC,-List.length_eq_zero_iff,e] at hn
  refine qe zR mixm (by simp) fun e _ hst=>qh ?_
  unfold zn
  simp only [tZ,↓un_u,simprocAttr,Cnd.op,Cnd.col,Cnd.code,Cnd.lo,Cnd.hi,Cnd.kids,q1,q2,q3,q4,q5,q6,q7]
  refine ⟨by kernel_rfl,?_⟩
  refine ⟨by kernel_rfl,?_⟩
  refine ⟨fun h=>?_,fun h=>?_⟩
  ·rw [hbad 11 (by decide) (by rw [hn,if_pos];grind)]
   exact .oA [] []
  have hks:ks.length≤2:=by grind
  rw [if_neg (by grind)] at hn
  refine C2.im (fun _=>qM s col 2) (fun _=>rfl) (by rfl) ?_
  simp only [tZ,↓un_u,simprocAttr,Cnd.op,Cnd.col,Cnd.code,Cnd.lo,Cnd.hi,Cnd.kids,q1,q2,q3,q4,q5,q6,q7]
  refine C2.im (fun _=>qM s col 3) (fun _=>rfl) (by rfl) ?_
  simp only [tZ,↓un_u,simprocAttr,Cnd.op,Cnd.col,Cnd.code,Cnd.lo,Cnd.hi,Cnd.kids,q1,q2,q3,q4,q5,q6,q7]
  refine C2.im (fun _=>qM s col 3) (fun _=>rfl) (by rfl) ?_
  by_cases h2:isB s col 2 = false
  ·rw [hbad 7 (by decide) (by rw [hn,if_pos (by grind)])]
   rcases Nat.lt_or_ge col.toNat s.cols.length with hk | hk
   ·simp only [tZ,↓un_u,simprocAttr,Cnd.op,Cnd.col,Cnd.code,Cnd.lo,Cnd.hi,Cnd.kids,q1,q2,q3,q4,q5,q6,q7,h2,qd hk]
    exact .oA [] []
   ·simp only [tZ,↓un_u,simprocAttr,Cnd.op,Cnd.col,Cnd.code,Cnd.lo,Cnd.hi,Cnd.kids,q1,q2,q3,q4,q5,q6,q7,h2,yz hk,List.drop_succ_cons,List.drop_nil]
    exact .oA [] []
  rw [Bool.not_eq_false] at h2
  obtain ⟨b1,b2,b3⟩:=jm.1 h2
  obtain ⟨i,hci⟩:∃ i:Nat,col.toNat = i:=⟨_,rfl⟩
  rw [hci] at b3
  try rw [hci] at hn
  have hil:i < s.cols.length:=by omega
  have hat:qu s i = s.cols[i]:=by rw [qu,qj hil]
  have hcd:=hok.cdl hil b3
  have hcd2:=(jv (hok.cs i hil)).2.2.2.1 b3
  have hcl:zG s i = s.lists.getD s.cols[i].list.toNat default:=by rw [zG,hat]
  rw [hat] at hcd hcd2
  rw [hcl,qj hcd.1] at hcd
  have hn:E = if code < 0∨code≥s.lists[s.cols[i].list.toNat].codes.length then 6 else 0:=by
   rw [hn,if_neg (by rw [h2];simp)]
   simp [hil,hcd.1]
  simp only [tZ,↓un_u,simprocAttr,Cnd.op,Cnd.col,Cnd.code,Cnd.lo,Cnd.hi,Cnd.kids,q1,q2,q3,q4,q5,q6,q7,h2,hci,qd hil,qd hcd.1,tD]
  refine ⟨fun _=>by omega,fun _=>by omega,by kernel_rfl,fun h3=>?_,fun h3=>?_⟩
  ·rw [hbad 6 (by decide) (by rw [hn,if_pos (by omega)])]
   exact .oA [] []
  rw [hgood (by rw [hn,if_neg (by omega)])]
 rotate_left
 focus
  have q1:(op == 1) = false:=by rw [e];rfl
  have q2:(op == 2) = false:=by rw [e];rfl
  have q3:(op == 3) = true:=by rw [e];rfl
  have q4:(op == 4) = false:=by rw [e];rfl
  have q5:(op == 5) = false:=by rw [e];rfl
  have q6:(op == 6) = false:=by rw [e];rfl
  have q7:(op == 7) = false:=by rw [e];rfl
  simp [arC,-List.length_eq_zero_iff,e] at hn
  refine qe zR mixm (by simp) fun e _ hst=>qh ?_
  unfold zn
  simp only [tZ,↓un_u,simprocAttr,Cnd.op,Cnd.col,Cnd.code,Cnd.lo,Cnd.hi,Cnd.kids,q1,q2,q3,q4,q5,q6,q7]
  refine ⟨by kernel_rfl,?_⟩
  refine ⟨by kernel_rfl,?_⟩
  refine ⟨fun h=>?_,fun h=>?_⟩
  ·rw [hbad 11 (by decide) (by rw [hn,if_pos];grind)]
   exact .oA [] []
  have hks:ks.length≤2:=by grind
  rw [if_neg (by grind)] at hn
  refine C2.im (fun _=>qM s col 2) (fun _=>rfl) (by rfl) ?_
  simp only [tZ,↓un_u,simprocAttr,Cnd.op,Cnd.col,Cnd.code,Cnd.lo,Cnd.hi,Cnd.kids,q1,q2,q3,q4,q5,q6,q7]
  refine C2.im (fun _=>qM s col 3) (fun _=>rfl) (by rfl) ?_
  simp only [tZ,↓un_u,simprocAttr,Cnd.op,Cnd.col,Cnd.code,Cnd.lo,Cnd.hi,Cnd.kids,q1,q2,q3,q4,q5,q6,q7]
  refine C2.im (fun _=>qM s col 3) (fun _=>rfl) (by rfl) ?_
  by_cases h2:isB s col 3 = false
  ·rw [hbad 7 (by decide) (by rw [hn,if_pos (by grind)])]
   rcases Nat.lt_or_ge col.toNat s.cols.length with hk | hk
   ·simp only [tZ,↓un_u,simprocAttr,Cnd.op,Cnd.col,Cnd.code,Cnd.lo,Cnd.hi,Cnd.kids,q1,q2,q3,q4,q5,q6,q7,h2,qd hk]
    exact .oA [] []
   ·simp only [tZ,↓un_u,simprocAttr,Cnd.op,Cnd.col,Cnd.code,Cnd.lo,Cnd.hi,Cnd.kids,q1,q2,q3,q4,q5,q6,q7,h2,yz hk,List.drop_succ_cons,List.drop_nil]
    exact .oA [] []
  rw [Bool.not_eq_false] at h2
  obtain ⟨b1,b2,b3⟩:=jm.1 h2
  obtain ⟨i,hci⟩:∃ i:Nat,col.toNat = i:=⟨_,rfl⟩
  rw [hci] at b3
  try rw [hci] at hn
  have hil:i < s.cols.length:=by omega
  have hat:qu s i = s.cols[i]:=by rw [qu,qj hil]
  have hli:s.cols[i].list.toNat = 0:=by
   have:=hok.list0 hil (by rw [b3];decide)
   rw [hat] at this
   rw [this];rfl
  rw [if_neg (by rw [h2];simp)] at hn
  simp only [tZ,↓un_u,simprocAttr,Cnd.op,Cnd.col,Cnd.code,Cnd.lo,Cnd.hi,Cnd.kids,q1,q2,q3,q4,q5,q6,q7,h2,hci,qd hil,hli,hgl,tD]
  refine ⟨by kernel_rfl,fun h3=>?_,fun h3=>?_⟩
  ·rw [hbad 2 (by decide) (by rw [hn,if_pos (by omega)])]
   exact .oA [] []
  rw [hgood (by rw [hn,if_neg (by omega)])]
 rotate_left
 focus
  have q1:(op == 1) = false:=by rw [e];rfl
  have q2:(op == 2) = false:=by rw [e];rfl
  have q3:(op == 3) = false:=by rw [e];rfl
  have q4:(op == 4) = true:=by rw [e];rfl
  have q5:(op == 5) = false:=by rw [e];rfl
  have q6:(op == 6) = false:=by rw [e];rfl
  have q7:(op == 7) = false:=by rw [e];rfl
  simp [arC,-List.length_eq_zero_iff,e] at hn
  refine qe zR mixm (by simp) fun e _ hst=>qh ?_
  unfold zn
  simp only [tZ,↓un_u,simprocAttr,Cnd.op,Cnd.col,Cnd.code,Cnd.lo,Cnd.hi,Cnd.kids,q1,q2,q3,q4,q5,q6,q7]
  refine ⟨by kernel_rfl,?_⟩
  refine ⟨fun h=>?_,fun h=>?_⟩
  ·rw [hbad 11 (by decide) (by rw [hn,if_pos];grind)]
   exact .oA [] []
  have hks:ks.length≤2:=by grind
  rw [if_neg (by grind)] at hn
  refine C2.im (fun _=>qM s col 2) (fun _=>rfl) (by rfl) ?_
  simp only [tZ,↓un_u,simprocAttr,Cnd.op,Cnd.col,Cnd.code,Cnd.lo,Cnd.hi,Cnd.kids,q1,q2,q3,q4,q5,q6,q7]
  refine C2.im (fun _=>qM s col 3) (fun _=>rfl) (by rfl) ?_
  simp only [tZ,↓un_u,simprocAttr,Cnd.op,Cnd.col,Cnd.code,Cnd.lo,Cnd.hi,Cnd.kids,q1,q2,q3,q4,q5,q6,q7]
  refine C2.im (fun _=>qM s col 3) (fun _=>rfl) (by rfl) ?_
  by_cases h2:isB s col 3 = false
  ·rw [hbad 7 (by decide) (by rw [hn,if_pos (by grind)])]
   rcases Nat.lt_or_ge col.toNat s.cols.length with hk | hk
   ·simp only [tZ,↓un_u,simprocAttr,Cnd.op,Cnd.col,Cnd.code,Cnd.lo,Cnd.hi,Cnd.kids,q1,q2,q3,q4,q5,q6,q7,h2,qd hk]
    exact .oA [] []
   ·simp only [tZ,↓un_u,simprocAttr,Cnd.op,Cnd.col,Cnd.code,Cnd.lo,Cnd.hi,Cnd.kids,q1,q2,q3,q4,q5,q6,q7,h2,yz hk,List.drop_succ_cons,List.drop_nil]
    exact .oA [] []
  rw [Bool.not_eq_false] at h2
  obtain ⟨b1,b2,b3⟩:=jm.1 h2
  obtain ⟨i,hci⟩:∃ i:Nat,col.toNat = i:=⟨_,rfl⟩
  rw [hci] at b3
  try rw [hci] at hn
  have hil:i < s.cols.length:=by omega
  have hat:qu s i = s.cols[i]:=by rw [qu,qj hil]
  have hli:s.cols[i].list.toNat = 0:=by
   have:=hok.list0 hil (by rw [b3];decide)
   rw [hat] at this
   rw [this];rfl
  have hn:E = if s.cols[i].opt = false then 7 else 0:=by
   rw [hn]
   simp [hil,h2]
  simp only [tZ,↓un_u,simprocAttr,Cnd.op,Cnd.col,Cnd.code,Cnd.lo,Cnd.hi,Cnd.kids,q1,q2,q3,q4,q5,q6,q7,h2,hci,qd hil,hli,hgl,Bool.not_eq_true',Bool.not_eq_false']
  refine ⟨by omega,fun h3=>?_,fun h3=>?_⟩
  ·rw [hbad 7 (by decide) (by rw [hn,if_pos h3])]
   exact .oA [] []
  rw [hgood (by rw [hn,if_neg (by rw [h3];simp)])]
  refine ⟨by kernel_rfl,?_⟩
 rotate_left
 focus
  have q1:(op == 1) = false:=by rw [e];rfl
  have q2:(op == 2) = false:=by rw [e];rfl
  have q3:(op == 3) = false:=by rw [e];rfl
  have q4:(op == 4) = false:=by rw [e];rfl
  have q5:(op == 5) = true:=by rw [e];rfl
  have q6:(op == 6) = false:=by rw [e];rfl
  have q7:(op == 7) = false:=by rw [e];rfl
  simp [arC,-List.length_eq_zero_iff,e] at hn
  refine qe zR mixm (by simp) fun e _ hst=>qh ?_
  unfold zn
  simp only [tZ,↓un_u,simprocAttr,Cnd.op,Cnd.col,Cnd.code,Cnd.lo,Cnd.hi,Cnd.kids,q1,q2,q3,q4,q5,q6,q7]
  refine ⟨by kernel_rfl,fun h=>?_,fun h=>?_⟩
  ·rw [hbad 11 (by decide) (by rw [hn,if_pos];grind)]
   exact .oA [] []
  have hks:ks.length≤2:=by grind
  rw [hgood (by rw [hn,if_neg];grind)]
  have hc0:col.toNat = 0:=by grind
  refine C2.im (fun _=>qM s col 2) (fun _=>rfl) (by rfl) ?_
  simp only [tZ,↓un_u,simprocAttr,Cnd.op,Cnd.col,Cnd.code,Cnd.lo,Cnd.hi,Cnd.kids,q1,q2,q3,q4,q5,q6,q7]
  refine C2.im (fun _=>qM s col 3) (fun _=>rfl) (by rfl) ?_
  simp only [tZ,↓un_u,simprocAttr,Cnd.op,Cnd.col,Cnd.code,Cnd.lo,Cnd.hi,Cnd.kids,q1,q2,q3,q4,q5,q6,q7]
  refine C2.im (fun _=>qM s col 3) (fun _=>rfl) (by rfl) ?_
  simp only [tZ,↓un_u,simprocAttr,Cnd.op,Cnd.col,Cnd.code,Cnd.lo,Cnd.hi,Cnd.kids,q1,q2,q3,q4,q5,q6,q7,hc0,hg0,hl0,hgl]
  refine ⟨by kernel_rfl,?_⟩
 rotate_left
 focus
  have q1:(op == 1) = false:=by rw [e];rfl
  have q2:(op == 2) = false:=by rw [e];rfl
  have q3:(op == 3) = false:=by rw [e];rfl
  have q4:(op == 4) = false:=by rw [e];rfl
  have q5:(op == 5) = false:=by rw [e];rfl
  have q6:(op == 6) = true:=by rw [e];rfl
  have q7:(op == 7) = false:=by rw [e];rfl
  simp [arC,-List.length_eq_zero_iff,e] at hn
  refine qe zR mixm (by simp) fun e _ hst=>qh ?_
  unfold zn
  simp only [tZ,↓un_u,simprocAttr,Cnd.op,Cnd.col,Cnd.code,Cnd.lo,Cnd.hi,Cnd.kids,q1,q2,q3,q4,q5,q6,q7]
  refine ⟨by kernel_rfl,fun h=>?_,fun h=>?_⟩
  ·rw [hbad 11 (by decide) (by rw [hn,if_pos];grind)]
   exact .oA [] []
  have hks:ks.length≤2:=by grind
  rw [hgood (by rw [hn,if_neg];grind)]
  have hc0:col.toNat = 0:=by grind
  refine C2.im (fun _=>qM s col 2) (fun _=>rfl) (by rfl) ?_
  simp only [tZ,↓un_u,simprocAttr,Cnd.op,Cnd.col,Cnd.code,Cnd.lo,Cnd.hi,Cnd.kids,q1,q2,q3,q4,q5,q6,q7]
  refine C2.im (fun _=>qM s col 3) (fun _=>rfl) (by rfl) ?_
  simp only [tZ,↓un_u,simprocAttr,Cnd.op,Cnd.col,Cnd.code,Cnd.lo,Cnd.hi,Cnd.kids,q1,q2,q3,q4,q5,q6,q7]
  refine C2.im (fun _=>qM s col 3) (fun _=>rfl) (by rfl) ?_
  simp only [tZ,↓un_u,simprocAttr,Cnd.op,Cnd.col,Cnd.code,Cnd.lo,Cnd.hi,Cnd.kids,q1,q2,q3,q4,q5,q6,q7,hc0,hg0,hl0,hgl]
  refine ⟨by kernel_rfl,?_⟩
 rotate_left
 focus
  have q1:(op == 1) = false:=by rw [e];rfl
  have q2:(op == 2) = false:=by rw [e];rfl
  have q3:(op == 3) = false:=by rw [e];rfl
  have q4:(op == 4) = false:=by rw [e];rfl
  have q5:(op == 5) = false:=by rw [e];rfl
  have q6:(op == 6) = false:=by rw [e];rfl
  have q7:(op == 7) = true:=by rw [e];rfl
  simp [arC,-List.length_eq_zero_iff,e] at hn
  refine qe zR mixm (by simp) fun e _ hst=>qh ?_
  unfold zn
  simp only [tZ,↓un_u,simprocAttr,Cnd.op,Cnd.col,Cnd.code,Cnd.lo,Cnd.hi,Cnd.kids,q1,q2,q3,q4,q5,q6,q7]
  refine ⟨by kernel_rfl,fun h=>?_,fun h=>?_⟩
  ·rw [hbad 11 (by decide) (by rw [hn,if_pos];grind)]
   exact .oA [] []
  have hks:ks.length≤2:=by grind
  rw [hgood (by rw [hn,if_neg];grind)]
  have hc0:col.toNat = 0:=by grind
  refine C2.im (fun _=>qM s col 2) (fun _=>rfl) (by rfl) ?_
  simp only [tZ,↓un_u,simprocAttr,Cnd.op,Cnd.col,Cnd.code,Cnd.lo,Cnd.hi,Cnd.kids,q1,q2,q3,q4,q5,q6,q7]
  refine C2.im (fun _=>qM s col 3) (fun _=>rfl) (by rfl) ?_
  simp only [tZ,↓un_u,simprocAttr,Cnd.op,Cnd.col,Cnd.code,Cnd.lo,Cnd.hi,Cnd.kids,q1,q2,q3,q4,q5,q6,q7]
  refine C2.im (fun _=>qM s col 3) (fun _=>rfl) (by rfl) ?_
  simp only [tZ,↓un_u,simprocAttr,Cnd.op,Cnd.col,Cnd.code,Cnd.lo,Cnd.hi,Cnd.kids,q1,q2,q3,q4,q5,q6,q7,hc0,hg0,hl0,hgl]
  refine ⟨by kernel_rfl,?_⟩
 rotate_left
 focus
  have q1:(op == 1) = false:=beq_eq_false_iff_ne.2 (by omega)
  have q2:(op == 2) = false:=beq_eq_false_iff_ne.2 (by omega)
  have q3:(op == 3) = false:=beq_eq_false_iff_ne.2 (by omega)
  have q4:(op == 4) = false:=beq_eq_false_iff_ne.2 (by omega)
  have q5:(op == 5) = false:=beq_eq_false_iff_ne.2 (by omega)
  have q6:(op == 6) = false:=beq_eq_false_iff_ne.2 (by omega)
  have q7:(op == 7) = false:=beq_eq_false_iff_ne.2 (by omega)
  rw [hbad 4 (by decide) (by rw [hn,if_pos e])]
  refine qe zR mixm (by simp) fun e _ hst=>qh ?_
  unfold zn
  simp only [tZ,↓un_u,simprocAttr,Cnd.op,Cnd.col,Cnd.code,Cnd.lo,Cnd.hi,Cnd.kids,q1,q2,q3,q4,q5,q6,q7]
  refine ⟨by kernel_rfl,?_⟩
  exact .oA [] []
 all_goals (
  refine qr mixm (α:=Nat) [7,77,121,147,167] (fun i=>i≤ks.length∧yo s (ks.take i) = 0) (fun i=>[(7,vI i)]) (fun i=>[(4096,.arr 2 [schT s] false),(4100,.arr 6 [.agg [vI op,vI col,vI code,vI lo,vI hi,vCs ks]] false)]) (fun i=>ks.length - i) 0 ⟨by omega,by rw [List.take_zero,yo]⟩ ?_ fun i hi2=>?_
  ·exact .oA [(4096,some 4096),(4100,some 4100)] []
  obtain ⟨i1,i2⟩:=hi2
  refine sD ?_
  refine ⟨fun h5=>?_,fun h5=>?_⟩
  ·have hi2:i < ks.length:=by omega
   have hwi:=qg (i:=i) (by omega)
   simp only [tZ,↓un_u,simprocAttr,Int.toNat_natCast,qd hi2,kW]
   refine ⟨by omega,?_⟩
   refine C1.im (ih _ (List.getElem_mem hi2)) (by rfl) (by rfl) ?_
   simp only [tZ,↓un_u,simprocAttr,hwi,bne_iff_ne,bne_eq_false_iff_eq]
   refine ⟨by kernel_rfl,fun h6=>?_,fun h6=>?_⟩
   ·rw [qz3 hi2 i2 h6]
    exact .oA [] []
   ·refine ⟨i + 1,⟨by omega,by rw [qD hi2];exact qM8 i2 h6⟩,by omega,?_⟩
    exact .oA [(4096,some 4096),(4100,some 4100)] []
  ·have hil:i = ks.length:=by omega
   subst hil
   rw [List.take_length] at i2
   rw [i2]
   exact .oA [] []
  )
end Go.Proofs
namespace Go.Proofs
open Go Go.TL
set_option maxHeartbeats 4000000
theorem wR (s:Sch) (hs:KJ s) (hL:0 < s.lists.length) (c:Cnd):Spc Tryz.prog jq [schT s,cnT c] [] (vI (chkC s c)) []:=by
 refine qe qE5 mixm (by simp) fun e _ hst=>qh ?_
 unfold Jc
 refine sW ?_
 refine C1.im (zS s hs) (by rfl) (by rfl) ?_
 simp only [tZ,↓un_u,simprocAttr,bne_iff_ne,bne_eq_false_iff_eq]
 refine ⟨fun h=>?_,fun h=>?_⟩
 ·rw [chkC,if_pos h]
  exact .oA [] []
 have hok:=qT h
 refine C1.im (qV3 c 41 (by omega) (by omega)) (by rfl) (by rfl) ?_
 refine sD ?_
 refine ⟨fun h2=>?_,fun h2=>?_⟩
 ·rw [chkC,if_neg (by rw [h];simp),if_pos h2]
  exact .oA [] []
 refine C1.im (qV5 c 41 (by omega) (by omega) (by omega)) (by rfl) (by rfl) ?_
 refine sD ?_
 refine ⟨fun h3=>?_,fun h3=>?_⟩
 ·rw [chkC,if_neg (by rw [h];simp),if_neg h2,if_pos (by omega)]
  exact .oA [] []
 rw [chkC,if_neg (by rw [h];simp),if_neg h2,if_neg (by omega)]
 refine C1.im (zh6 s hok hL c) (by rfl) (by rfl) ?_
 refine sW ?_
 exact .oA [] []
theorem zp6 {s:Sch} {c:Cnd} (h:chkC s c = 0):schE s = 0∧cntC c 41 < 41∧depC c≤10∧nodE s c = 0:=by
 unfold chkC at h
 split at h
 ·rename_i h1;exact absurd h h1
 rename_i h1
 split at h
 ·cases h
 rename_i h2
 split at h
 ·cases h
 rename_i h3
 exact ⟨Classical.byContradiction h1,by omega,by omega,h⟩
theorem WT (s:Sch) (hok:SchOk s) (c:Cnd) (hc:NdOk s c) (v:Int):Spc Tryz.prog yF [schT s,cnT c,vI v] [] (vI (qy6 s c v)) []:=by
 have hn0:=hok.nl
 have hn1:=hok.nc
 have hA:qy6 s c v = if c.op = 2 then tf (zz5 (zG s c.col.toNat) v c.code)
 else if c.op = 3 then (if v = Yx then 0 else tf (decide (c.lo≤v) && decide (v≤c.hi)))
 else if c.op = 4 then tf (v == Yx) else -1:=rfl
 rw [hA]
 by_cases h2:c.op = 2
 ·obtain ⟨b,b4,b5⟩:=hc.under h2
  obtain ⟨b1,b2,b3⟩:=jm.1 b
  obtain ⟨i,hci⟩:=Int.eq_ofNat_of_zero_le b1
  rw [hci] at b2 b5
  rw [hci,Int.toNat_natCast] at b3
  rw [Int.toNat_natCast] at b5
  have hil:i < s.cols.length:=by omega
  have hat:qu s i = s.cols[i]:=by rw [qu,qj hil]
  have hcd:=hok.cdl hil b3
  have hcd2:=(jv (hok.cs i hil)).2.2.2.1 b3
  have hcl:zG s i = s.lists.getD s.cols[i].list.toNat default:=by rw [zG,hat]
  rw [hat] at hcd hcd2
  rw [if_pos h2,hci,Int.toNat_natCast]
  rw [hcl,qj hcd.1] at hcd ⊢
  obtain ⟨_,d5,d6⟩:=jd hcd.2
  have q:(c.op == 2) = true:=beq_iff_eq.2 h2
  refine qe Qz mixm (by simp) fun e _ hst=>qh ?_
  unfold kh
  simp only [tZ,↓un_u,simprocAttr,q,hci,Int.toNat_natCast,qd hil,qd hcd.1]
  refine ⟨by omega,by omega,?_⟩
  refine C1.im (qU5 _ v c.code (by omega)) (by rfl) (by rfl) ?_
  refine sW ?_
  refine ⟨by kernel_rfl,fun h=>?_,fun h=>?_⟩
  ·rw [h]
   exact .oA [] []
  ·rw [h]
   exact .oA [] []
 have q:(c.op == 2) = false:=beq_eq_false_iff_ne.2 h2
 rw [if_neg h2]
 by_cases h3:c.op = 3
 ·have q3:(c.op == 3) = true:=beq_iff_eq.2 h3
  rw [if_pos h3]
  refine qe Qz mixm (by simp) fun e _ hst=>qh ?_
  unfold kh
  simp only [tZ,↓un_u,simprocAttr,q,q3,beq_iff_eq,beq_eq_false_iff_ne]
  rw [show (-1099511627776:Int) = Yx from rfl]
  refine ⟨fun h=>?_,fun h=>?_⟩
  ·rw [if_pos h]
   exact .oA [] []
  ·rw [if_neg h]
   refine ⟨fun h=>?_,fun h=>?_⟩
   ·rw [h]
    exact .oA [] []
   ·rw [h]
    exact .oA [] []
 have q3:(c.op == 3) = false:=beq_eq_false_iff_ne.2 h3
 rw [if_neg h3]
 by_cases h4:c.op = 4
 ·have q4:(c.op == 4) = true:=beq_iff_eq.2 h4
  rw [if_pos h4]
  refine qe Qz mixm (by simp) fun e _ hst=>qh ?_
  unfold kh
  simp only [tZ,↓un_u,simprocAttr,q,q3,q4]
  rw [show (-1099511627776:Int) = Yx from rfl]
  refine ⟨fun h=>?_,fun h=>?_⟩
  ·rw [h]
   exact .oA [] []
  ·rw [h]
   exact .oA [] []
 have q4:(c.op == 4) = false:=beq_eq_false_iff_ne.2 h4
 rw [if_neg h4]
 refine qe Qz mixm (by simp) fun e _ hst=>qh ?_
 unfold kh
 simp only [tZ,↓un_u,simprocAttr,q,q3,q4]
 exact .oA [] []
theorem zh7 (op:Int) (ks:List Int) (h7:op = 7→1≤ks.length) (h5:op = 5∨op = 6→2≤ks.length) (hv:∀ k∈ks,-1≤k∧k≤1):Spc Tryz.prog Wx [vI op,vIs ks] [] (vI (qI0 op ks)) []:=by
 refine qe qU2 mixm (by simp) fun e _ hst=>qh ?_
 unfold KH
 simp only [tZ,↓un_u,simprocAttr,beq_iff_eq,beq_eq_false_iff_ne]
 refine ⟨fun h=>?_,fun h=>⟨fun h2=>?_,fun h2=>⟨fun h3=>?_,fun h3=>?_⟩⟩⟩
 ·have h0:0 < ks.length:=by have:=h7 h;omega
  have hk:=hv _ (List.getElem_mem h0)
  have hw:IntKind.i64.wrap ((0:Int) - ks[0]) = - ks[0]:=by rw [IntWalk.i64_in _ (by omega)];omega
  rw [qI0,if_pos h,qj h0]
  simp only [tZ,↓un_u,simprocAttr,qd h0]
  rw [hw]
  refine ⟨by omega,?_⟩
  exact .oA [] []
 ·have h0:0 < ks.length:=by have:=h5 (.inl h2);omega
  have h1:1 < ks.length:=by have:=h5 (.inl h2);omega
  rw [qI0,if_neg h,if_pos h2,qj h0,qj h1]
  have hm:minI ks[0] ks[1] = min ks[0] ks[1]:=by unfold minI;omega
  simp only [tZ,↓un_u,simprocAttr,qd h0,qd h1,hm]
  refine ⟨by omega,by omega,by kernel_rfl,?_⟩
  exact .oA [] []
 ·have h0:0 < ks.length:=by have:=h5 (.inr h3);omega
  have h1:1 < ks.length:=by have:=h5 (.inr h3);omega
  rw [qI0,if_neg h,if_neg h2,if_pos h3,qj h0,qj h1]
  have hm:maxI ks[0] ks[1] = max ks[0] ks[1]:=by unfold maxI;omega
  simp only [tZ,↓un_u,simprocAttr,qd h0,qd h1,hm]
  refine ⟨by omega,by omega,by kernel_rfl,?_⟩
  exact .oA [] []
 ·rw [qI0,if_neg h,if_neg h2,if_neg h3]
  exact .oA [] []
theorem jg1 (s:Sch) (c:Cnd) (v:Int) : -1≤qy6 s c v∧qy6 s c v≤1:=by
 unfold qy6 tf
 grind
theorem jg2 {op:Int} {ks:List Int} (h:∀ k∈ks,-1≤k∧k≤1) : -1≤qI0 op ks∧qI0 op ks≤1:=by
 have key:∀ i,-1≤ks.getD i 0∧ks.getD i 0≤1:=fun i=>by
  rcases Nat.lt_or_ge i ks.length with hi | hi
  ·rw [qj hi];exact h _ (List.getElem_mem hi)
  ·rw [List.getD_eq_getElem?_getD,List.getElem?_eq_none hi];simp
 have h0:=key 0
 have h1:=key 1
 unfold qI0
 grind
theorem jx6 (s:Sch) (row:List Int):∀ c,-1≤evC s row c∧evC s row c≤1:=by
 refine Cnd.ind' fun c ih=>?_
 rw [jo3]
 split
 ·exact jg1 s c _
 ·refine jg2 fun k hk=>?_
  obtain ⟨x,hx,rfl⟩:=List.mem_map.1 hk
  exact ih x hx
theorem zh8 (s:Sch) (hok:SchOk s) (row:List Int) (hr:row.length = s.cols.length):∀ (c:Cnd),nodE s c = 0→Spc Tryz.prog Zz [schT s,cnT c,vIs row] [] (vI (evC s row c)) []:=by
 refine Cnd.ind' fun c ih hE=>?_
 obtain ⟨hE1,hE2⟩:=zV8 hE
 have hnd:=jo2 hE1
 have hks:c.kids.length≤2:=by have:=hnd.nk;unfold arC at this;grind
 rw [jo3]
 have hi:isAt c = ((c.op == 2) || (c.op == 3) || (c.op == 4)):=rfl
 refine qe qT1 mixm (by simp) fun e _ hst=>qh ?_
 unfold KB
 refine sW ?_
 rw [← hi]
 refine ⟨fun h=>?_,fun h=>?_⟩
 ·rw [if_pos h]
  have hb:∃ k,isB s c.col k = true:=by
   rw [hi] at h
   simp only [tD,beq_iff_eq] at h
   rcases h with (h | h) | h
   ·exact ⟨2,(hnd.under h).1⟩
   ·exact ⟨3,(hnd.between h).1⟩
   ·exact ⟨3,(hnd.miss h).1⟩
  obtain ⟨kk,hb⟩:=hb
  obtain ⟨b1,b2,_⟩:=jm.1 hb
  have hil:c.col.toNat < row.length:=by omega
  rw [qj hil]
  simp only [tZ,↓un_u,simprocAttr,qd hil]
  refine ⟨by omega,?_⟩
  refine C1.im (WT s hok c hnd _) (by rfl) (by rfl) ?_
  refine sW ?_
  refine ⟨by kernel_rfl,?_⟩
  exact .oA [] []
 ·rw [if_neg (by rw [h];simp)]
  refine qr mixm (α:=Nat) [7,8,21] (fun i=>i≤c.kids.length) (fun i=>[(7,.asl 1 i),(8,vI i)]) (fun i=>[(4096,.arr 2 [schT s] false),(4100,.arr 6 [cnT c] false),(1,.arr 1 (((c.kids.take i).map (evC s row)).map vI) false)]) (fun i=>c.kids.length - i) 0 (by omega) ?_ fun i hi2=>?_
  ·exact .oA [(4096,some 4096),(4100,some 4100),(1,none)] []
  refine sD ?_
  refine ⟨fun h5=>?_,fun h5=>?_⟩
  ·have hi2:i < c.kids.length:=by omega
   have hwi:=qg (i:=i) (by omega)
   simp only [tZ,↓un_u,simprocAttr,Int.toNat_natCast,qd hi2,kW]
   refine ⟨by omega,?_⟩
   refine C1.im (ih _ (List.getElem_mem hi2) (hE2 _ (List.getElem_mem hi2))) (by rfl) (by rfl) ?_
   simp only [tZ,↓un_u,simprocAttr,hwi]
   have hlt:(c.kids.take i).length = i:=by simp;omega
   refine ⟨by omega,by kernel_rfl,i + 1,by omega,by omega,?_⟩
   rw [qD hi2,List.map_append,List.map_append]
   exact .oA [(4096,some 4096),(4100,some 4100),(1,some 1)] []
  ·have hil:i = c.kids.length:=by omega
   subst hil
   rw [List.take_length]
   have hj:=zh7 c.op (c.kids.map (evC s row)) (fun e=>by rw [List.length_map,hnd.nk,e];decide) (fun e=>by rw [List.length_map,hnd.nk];rcases e with e | e <;> rw [e] <;> decide) (fun k hk=>by
    obtain ⟨x,_,rfl⟩:=List.mem_map.1 hk
    exact jx6 s row x)
   refine C1.shut [1] hj ?_ (by rfl) rfl ?_
   ·simp only [tL,simprocAttr]
    exact zy6 _
   refine sW ?_
   exact .oA [] []
theorem zh9 (s:Sch) (hs:KJ s) (hL:0 < s.lists.length) (c:Cnd) (row:List Int) (hr:row.length < 4611686018427387904):Spc Tryz.prog Ws [schT s,cnT c,vIs row] [] (vI (zV9 s c row)) []:=by
 have hR:=qb7 s hs row hr
 refine qe qS4 mixm (by simp) fun e _ hst=>qh ?_
 unfold Kw
 refine sW ?_
 refine C1.im (wR s hs hL c) (by rfl) (by rfl) ?_
 refine sW ?_
 refine C2.im (fun _=>hR) (fun _=>rfl) (by rfl) ?_
 simp only [tZ,↓un_u,simprocAttr,tD,bne_iff_ne,bne_eq_false_iff_eq]
 refine ⟨fun h=>?_,fun h=>?_⟩
 ·rw [zV9,if_pos h]
  exact .oA [] []
 obtain ⟨k1,k2,k3,k4⟩:=zp6 h.1
 rw [zV9,if_neg (by omega)]
 refine C1.im (zh8 s (qT k1) row (WO h.2).2.1 c k4) (by rfl) (by rfl) ?_
 refine sW ?_
 exact .oA [] []
theorem zp7:∀ c m,1≤m→cntC c m < m→((atsC c).length:Int)≤cntC c m:=by
 refine Cnd.ind' fun c ih m hm h=>?_
 have hc:=qz0 c m hm
 rw [qU8]
 split
 ·simp;omega
 ·rw [qb8] at h ⊢
  have key:∀ l:List Cnd,(∀ k∈l,k∈c.kids)→∀ n,1≤n→n≤m→kX l m n < m→n + (JM l).length≤kX l m n:=by
   intro l
   induction l with
   | nil=>intro _ n h1 h2 _;rw [kX,JM];simp
   | cons k r ihl=>
     intro hk n h1 h2 h3
     rw [kX] at h3 ⊢
     rw [JM,List.length_append]
     split at h3
     ·rename_i h4
      rw [if_pos h4]
      have c1:=qz0 k (m - n) (by omega)
      have c2:=qU9 r m (n + cntC k (m - n)) (by omega)
      have c3:=ih k (hk k (by simp)) (m - n) (by omega) (by omega)
      have c4:=ihl (fun x hx=>hk x (List.mem_cons_of_mem _ hx)) (n + cntC k (m - n)) (by omega) (by omega) h3
      omega
     ·omega
  have:=key c.kids (fun k hk=>hk) 1 (by omega) hm h
  omega
theorem KL:∀ (l:List Cnd) (i:Nat),(JM (l.take i)).length≤(JM l).length
 | [],i=>by simp
 | x :: r,0=>by simp [JM]
 | x :: r,i + 1=>by rw [List.take_succ_cons,JM,JM,List.length_append,List.length_append];have:=KL r i;omega
theorem zW2 (l:List Cnd):ImXs 6 (l.map cndT):=qA jg0 l
theorem zW3 {st:Sto} {ρ:Ren} {B:List Nat} (l:List Cnd):ltXs st ρ B 6 (l.map cndT) (l.map cndT):=zw (zW2 l)
theorem qV6:∀ (c:Cnd) (m:Int),1≤m→m≤1000→cntC c m < m→Spc Tryz.prog Qu [cnT c] [] (vCs (atsC c)) []:=by
 refine Cnd.ind' fun c ih m hm hm2 hc=>?_
 have hal:=zp7 c m hm hc
 rw [qb8] at hc hal
 obtain ⟨hk1,hk2⟩:=qV4 (by omega) hc
 have hi:isAt c = ((c.op == 2) || (c.op == 3) || (c.op == 4)):=rfl
 refine qe qG7 mixm (by simp) fun e _ hst=>qh ?_
 unfold Jn
 refine sW ?_
 rw [← hi]
 refine ⟨fun h=>?_,fun h=>?_⟩
 ·rw [qU8,if_pos h]
  show yb [] _ _ (.sl 6 [cndT c]) []
  rw [kW]
  exact .oA [] [12292]
 ·rw [qU8,if_neg (by rw [h];simp)] at hal ⊢
  refine qr mixm (α:=Nat) [3,4,17] (fun i=>i≤c.kids.length) (fun i=>[(3,.asl 1 (JM (c.kids.take i)).length),(4,vI i)]) (fun i=>[(4096,.arr 6 [cnT c] false),(1,.arr 6 ((JM (c.kids.take i)).map cndT) false)]) (fun i=>c.kids.length - i) 0 (by omega) ?_ fun i hi2=>?_
  ·exact .oA [(4096,some 4096),(1,none)] []
  have htl:=KL c.kids i
  refine sD ?_
  refine ⟨fun h5=>?_,fun h5=>?_⟩
  ·have hi2:i < c.kids.length:=by omega
   have hwi:=qg (i:=i) (by omega)
   obtain ⟨m',a1,a2,a3⟩:=hk2 _ (List.getElem_mem hi2)
   have htl2:=KL c.kids (i + 1)
   rw [qD hi2,qm0,List.length_append] at htl2
   simp only [tZ,↓un_u,simprocAttr,Int.toNat_natCast,qd hi2,kW]
   refine ⟨by omega,?_⟩
   refine C1.im (ih _ (List.getElem_mem hi2) m' a1 (by omega) a3) (by rfl) (by rfl) ?_
   simp only [tZ,↓un_u,simprocAttr,hwi]
   refine ⟨by omega,i + 1,by omega,by omega,?_⟩
   rw [qD hi2,qm0,List.map_append]
   refine .of [(4096,some 4096),(1,some 1)] [] rfl (by first | rfl | (rw [hst];rfl)) ?_ ?_
   all_goals (try simp only [tL,simprocAttr,List.map_append,List.map_cons,List.map_nil,List.cons_append,List.nil_append,List.append_assoc])
   all_goals (try (repeat' (first | exact qZ | (apply zN;intro _;exact ⟨rfl,rfl⟩) | (apply qA;intro _;exact ⟨rfl,rfl⟩) | with_reducible apply za | with_reducible refine zo ⟨rfl,rfl⟩ ?_ | exact zO | with_reducible apply qV | with_reducible refine qJ ⟨rfl,rfl,?_⟩ ?_ | with_reducible apply And.intro | exact qW rfl | exact qW (by assumption) | (refine ⟨⟨?_,rfl,?_,rfl,?_⟩,trivial⟩ <;> first | (simp;done) | (apply qA;intro _;exact ⟨rfl,rfl⟩)) | trivial | rfl | (rw [qg (by omega)]) | omega)))
   all_goals first | exact zW3 _ | exact zW2 _
  ·have hil:i = c.kids.length:=by omega
   subst hil
   rw [List.take_length]
   refine .of [] [1] rfl (by first | rfl | (rw [hst];rfl)) ?_ ?_
   all_goals (try simp only [tL,simprocAttr,List.map_append,List.map_cons,List.map_nil,List.cons_append,List.nil_append,List.append_assoc])
   all_goals (try (repeat' (first | exact qZ | (apply zN;intro _;exact ⟨rfl,rfl⟩) | (apply qA;intro _;exact ⟨rfl,rfl⟩) | with_reducible apply za | with_reducible refine zo ⟨rfl,rfl⟩ ?_ | exact zO | with_reducible apply qV | with_reducible refine qJ ⟨rfl,rfl,?_⟩ ?_ | with_reducible apply And.intro | exact qW rfl | exact qW (by assumption) | (refine ⟨⟨?_,rfl,?_,rfl,?_⟩,trivial⟩ <;> first | (simp;done) | (apply qA;intro _;exact ⟨rfl,rfl⟩)) | trivial | rfl | (rw [qg (by omega)]) | omega)))
   all_goals first | exact zW3 _ | exact zW2 _
end Go.Proofs
namespace Go.Proofs
open Go Go.TL
set_option maxHeartbeats 4000000
theorem qz4 (col lev:Int):∀ (l:List Pk) (x:List Pk×Bool),(l.foldl (qb9 col lev) x).1.length + (if (l.foldl (qb9 col lev) x).2 = true then 0 else 1)≤x.1.length + (if x.2 = true then 0 else 1) + l.length
 | [],x=>Nat.le_refl _
 | p :: r,x=>by
   have h:=qz4 col lev r (qb9 col lev x p)
   have h2:(qb9 col lev x p).1.length + (if (qb9 col lev x p).2 = true then 0 else 1)≤x.1.length + (if x.2 = true then 0 else 1) + 1:=by
    unfold qb9
    obtain ⟨a,b⟩:=x
    dsimp only
    split <;> split <;> cases b <;> simp_all <;> omega
   rw [List.foldl_cons,List.length_cons]
   omega
theorem qh7 (l:List Pk) (col lev:Int):(KK l col lev).length≤l.length + 1:=by
 have h:=qz4 col lev l ([],decide (lev≤0))
 unfold KK
 dsimp only at h ⊢
 split
 ·simp_all
  split at h <;> omega
 ·rename_i k
  rw [if_neg k] at h
  rw [List.length_append]
  simp at h ⊢
  split at h <;> omega
theorem wS (l:List Pk) (col lev:Int) (hl:l.length < 1000000000):Spc Tryz.prog jn [vPs l,vI col,vI lev] [] (vPs (KK l col lev)) []:=by
 have hP:KK l col lev = if (l.foldl (qb9 col lev) ([],decide (lev≤0))).2 then (l.foldl (qb9 col lev) ([],decide (lev≤0))).1 else (l.foldl (qb9 col lev) ([],decide (lev≤0))).1 ++ [⟨col,lev⟩]:=rfl
 have hS:∀ i,i≤l.length→((l.take i).foldl (qb9 col lev) ([],decide (lev≤0))).1.length≤l.length + 1:=fun i hi=>by
  have h:=qz4 col lev (l.take i) ([],decide (lev≤0))
  simp only [List.length_nil,List.length_take] at h
  split at h <;> split at h <;> omega
 refine qe qC9 mixm (by simp) fun e _ hst=>qh ?_
 unfold ZU
 refine sW ?_
 refine qr mixm (α:=Nat×List Pk×Bool) [7,8,9] (fun x=>x.1≤l.length∧x.2 = (l.take x.1).foldl (qb9 col lev) ([],decide (lev≤0))) (fun x=>[(7,.asl 1 x.2.1.length),(8,vB x.2.2),(9,vI x.1)]) (fun x=>[(1,.arr 2 (x.2.1.map pkT) false)]) (fun x=>l.length - x.1) (0,[],decide (lev≤0)) ⟨by simp,by simp⟩ ?_ fun x hx=>?_
 ·exact .oA [(1,none)] []
 obtain ⟨i,a,b⟩:=x
 obtain ⟨x1,x2⟩:=hx
 dsimp only at x1 x2
 have hSi:=hS i x1
 rw [← x2] at hSi
 dsimp only at hSi
 refine sD ?_
 refine ⟨fun h=>?_,fun h=>?_⟩
 ·have hi2:i < l.length:=by omega
  have hwi:=qg (i:=i) (by omega)
  have hs:(l.take (i + 1)).foldl (qb9 col lev) ([],decide (lev≤0)) = qb9 col lev (a,b) l[i]:=by rw [qD hi2,List.foldl_append,← x2];rfl
  simp only [tZ,↓un_u,simprocAttr,Int.toNat_natCast,qd hi2]
  generalize l[i] = p at hs ⊢
  have hmx:maxI p.lev lev = max p.lev lev:=by unfold maxI;omega
  have hr:qb9 col lev (a,b) p = (if p.col = col then ((if p.col > col∧b = false then (a ++ [⟨col,lev⟩],true) else (a,b)).1 ++ [⟨p.col,max p.lev lev⟩],true) else ((if p.col > col∧b = false then (a ++ [⟨col,lev⟩],true) else (a,b)).1 ++ [p],(if p.col > col∧b = false then (a ++ [(⟨col,lev⟩:Pk)],true) else (a,b)).2)):=rfl
  rw [hr] at hs
  simp only [tZ,↓un_u,simprocAttr,tD,beq_iff_eq,beq_eq_false_iff_ne,Bool.not_eq_true',Bool.not_eq_false',hwi,hmx]
  refine ⟨by omega,fun h2=>⟨by omega,fun h3=>by omega,fun h3=>?_⟩,fun h2=>⟨fun h3=>?_,fun h3=>?_⟩⟩
  ·rw [if_neg h3,if_pos h2] at hs
   refine ⟨by omega,(i + 1,a ++ [⟨col,lev⟩] ++ [p],true),⟨by dsimp only;omega,hs.symm⟩,by dsimp only;omega,?_⟩
   exact .oA [(1,some 1)] []
  ·rw [if_pos h3,if_neg (by grind)] at hs
   refine ⟨by omega,(i + 1,a ++ [⟨p.col,max p.lev lev⟩],true),⟨by dsimp only;omega,hs.symm⟩,by dsimp only;omega,?_⟩
   exact .oA [(1,some 1)] []
  ·rw [if_neg h3,if_neg (by grind)] at hs
   refine ⟨by omega,(i + 1,a ++ [p],b),⟨by dsimp only;omega,hs.symm⟩,by dsimp only;omega,?_⟩
   exact .oA [(1,some 1)] []
 ·have hil:i = l.length:=by omega
  subst hil
  rw [List.take_length] at x2
  rw [← x2] at hP
  dsimp only at hP
  simp only [tZ,↓un_u,simprocAttr,Bool.not_eq_true',Bool.not_eq_false']
  refine ⟨fun h2=>?_,fun h2=>?_⟩
  ·rw [hP,h2,if_neg (by simp)]
   refine ⟨by omega,?_⟩
   show yb [] _ _ (.sl 2 ((a ++ [(⟨col,lev⟩:Pk)]).map pkT)) []
   rw [List.map_append]
   exact .oA [] [1]
  ·rw [hP,if_pos h2]
   exact .oA [] [1]
theorem qI2 (a b:List Pk) (ha:a.length < 4611686018427387904) (hb:b.length < 4611686018427387904):Spc Tryz.prog ZM [vPs a,vPs b] [] (vB (covB a b)) []:=by
 refine qe qy0 mixm (by simp) fun e _ hst=>qh ?_
 unfold Zh
 refine sW ?_
 refine qr mixm (α:=Nat) [5] (fun i=>i≤a.length∧(covB (a.take i) b = true)) (fun i=>[(5,vI i)]) (fun i=>[]) (fun i=>a.length - i) 0 ⟨by omega,?_⟩ ?_ fun i hi=>?_
 ·rfl
 ·exact .oA [] []
 simp only [tZ,↓un_u,simprocAttr,decide_eq_true_eq,decide_eq_false_iff_not]
 refine ⟨fun h=>?_,fun h=>?_⟩
 ·have hi2:i < a.length:=by omega
  have hwi:=qg (i:=i) (by omega)
  refine qr mixm (α:=Nat) [6,7] (fun k=>k≤b.length) (fun k=>[(6,vB ((b.take k).any fun y=>(y.col == a[i].col) && decide (y.lev≥a[i].lev))),(7,vI k)]) (fun k=>[]) (fun k=>b.length - k) 0 (by omega) ?_ fun k hk=>?_
  ·exact .oA [] []
  refine sD ?_
  refine ⟨fun h4=>?_,fun h4=>?_⟩
  ·have hk2:k < b.length:=by omega
   have hwk:=qg (i:=k) (by omega)
   simp only [tZ,↓un_u,simprocAttr,Int.toNat_natCast,qd hi2,qd hk2,hwk]
   refine ⟨fun _=>by omega,fun _=>by omega,fun _=>by omega,fun _=>by omega,by kernel_rfl,k + 1,by omega,by omega,?_⟩
   rw [qD hk2,List.any_append,List.any_cons,List.any_nil,Bool.or_false]
   exact .oA [] []
  ·have hkl:k = b.length:=by omega
   subst hkl
   rw [List.take_length]
   have hcs:covB (a.take (i + 1)) b = (covB (a.take i) b && b.any fun y=>(y.col == a[i].col) && decide (y.lev≥a[i].lev)):=by
    unfold covB
    rw [qD hi2,List.all_append]
    simp
   simp only [tZ,↓un_u,simprocAttr,Bool.not_eq_true',Bool.not_eq_false',hwi]
   refine ⟨fun h5=>?_,fun h5=>?_⟩
   ·have:covB a b = false:=List.all_eq_false.2 ⟨_,List.getElem_mem hi2,by rw [h5];simp⟩
    rw [this]
    exact .oA [] []
   ·refine ⟨i + 1,⟨by omega,by rw [hcs,hi.2,h5];rfl⟩,by omega,?_⟩
    exact .oA [] []
 ·have hi2:i = a.length:=by omega
  subst hi2
  have h3:=hi.2
  rw [List.take_length] at h3
  rw [h3]
  exact .oA [] []
theorem zi0:∀ {a b:List Cnd},a.length≠b.length→wY a b = false
 | [],[],h=>by simp at h
 | x :: r,y :: t,h=>by rw [wY,zi0 (a:=r) (b:=t) (by simpa using h),Bool.and_false]
 | [],y :: t,_=>rfl
 | x :: r,[],_=>rfl
theorem qz5:∀ {a b:List Cnd} {i:Nat} (ha:i < a.length) (hb:i < b.length),wY (a.take (i + 1)) (b.take (i + 1)) = (wY (a.take i) (b.take i) && qy9 a[i] b[i])
 | x :: r,y :: t,0,_,_=>by simp [wY]
 | x :: r,y :: t,i + 1,ha,hb=>by
   rw [List.take_succ_cons,List.take_succ_cons,wY,qz5 (a:=r) (b:=t) (by simpa using ha) (by simpa using hb),List.take_succ_cons,List.take_succ_cons,wY]
   simp [Bool.and_assoc]
theorem qM9:∀ {a b:List Cnd} {i:Nat} (ha:i < a.length) (hb:i < b.length),qy9 a[i] b[i] = false→wY a b = false
 | x :: r,y :: t,0,_,_,h=>by
   have h:qy9 x y = false:=h
   rw [wY,h,Bool.false_and]
 | x :: r,y :: t,i + 1,ha,hb,h=>by rw [wY,qM9 (a:=r) (b:=t) (i:=i) (by simpa using ha) (by simpa using hb) h,Bool.and_false]
inductive SmC:Cnd→Prop
 | mk (c:Cnd) (h1:c.kids.length < 4611686018427387904) (h2:∀ k∈c.kids,SmC k):SmC c
theorem zi1:∀ (a b:Cnd),(a.kids.length = b.kids.length→SmC a)→Spc Tryz.prog ZA [cnT a,cnT b] [] (vB (qy9 a b)) []:=by
 refine Cnd.ind' fun a ih b hs=>?_
 rw [jf5]
 refine qe qT9 mixm (by simp) fun e _ hst=>qh ?_
 unfold KG
 simp only [tZ,↓un_u,simprocAttr,tD,bne_iff_ne,bne_eq_false_iff_eq]
 refine ⟨fun h=>?_,fun h=>?_⟩
 ·have:((a.op == b.op) && (a.col == b.col) && (a.code == b.code) && (a.lo == b.lo) && (a.hi == b.hi) && wY a.kids b.kids) = false:=by
   rcases h with ((((h | h) | h) | h) | h) | h
   ·rw [beq_eq_false_iff_ne.2 h];simp
   ·rw [beq_eq_false_iff_ne.2 h];simp
   ·rw [beq_eq_false_iff_ne.2 h];simp
   ·rw [beq_eq_false_iff_ne.2 h];simp
   ·rw [beq_eq_false_iff_ne.2 h];simp
   ·rw [zi0 (by omega)];simp
  rw [this]
  exact .oA [] []
 have e:((a.op == b.op) && (a.col == b.col) && (a.code == b.code) && (a.lo == b.lo) && (a.hi == b.hi) && wY a.kids b.kids) = wY a.kids b.kids:=by
  rw [beq_iff_eq.2 h.1.1.1.1.1,beq_iff_eq.2 h.1.1.1.1.2,beq_iff_eq.2 h.1.1.1.2,beq_iff_eq.2 h.1.1.2,beq_iff_eq.2 h.1.2];simp
 have hl:a.kids.length = b.kids.length:=by omega
 obtain ⟨_,s1,s2⟩:=hs hl
 rw [e]
 refine qr mixm (α:=Nat) [5,47] (fun i=>i≤a.kids.length∧wY (a.kids.take i) (b.kids.take i) = true) (fun i=>[(5,vI i)]) (fun i=>[(4096,.arr 6 [cnT a] false),(4100,.arr 6 [cnT b] false)]) (fun i=>a.kids.length - i) 0 ⟨by omega,by simp [wY]⟩ ?_ fun i hi=>?_
 ·exact .oA [(4096,some 4096),(4100,some 4100)] []
 refine sD ?_
 refine ⟨fun h5=>?_,fun h5=>?_⟩
 ·have hi2:i < a.kids.length:=by omega
  have hib:i < b.kids.length:=by omega
  have hwi:=qg (i:=i) (by omega)
  simp only [tZ,↓un_u,simprocAttr,Int.toNat_natCast,qd hi2,qd hib,kW]
  refine ⟨by omega,by omega,?_⟩
  refine C1.im (ih _ (List.getElem_mem hi2) b.kids[i] fun _=>s2 _ (List.getElem_mem hi2)) (by rfl) (by rfl) ?_
  simp only [tZ,↓un_u,simprocAttr,Bool.not_eq_true',Bool.not_eq_false',hwi]
  refine ⟨by kernel_rfl,fun h6=>?_,fun h6=>?_⟩
  ·rw [qM9 hi2 hib h6]
   exact .oA [] []
  ·refine ⟨i + 1,⟨by omega,by rw [qz5 hi2 hib,hi.2,h6];rfl⟩,by omega,?_⟩
   exact .oA [(4096,some 4096),(4100,some 4100)] []
 ·have hil:i = a.kids.length:=by omega
  have h2:=hi.2
  rw [hil,List.take_length,hl,List.take_length] at h2
  rw [h2]
  exact .oA [] []
end Go.Proofs
