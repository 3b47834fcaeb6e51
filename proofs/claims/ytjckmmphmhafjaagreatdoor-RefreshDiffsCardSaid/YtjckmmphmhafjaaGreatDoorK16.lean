/- A part of the proof: trees of Go values, short forms, contracts. -/
import Derived.WalkKit
import Derived.Still
import Derived.MapKept
import GoSem.Builtin.Cap
import Derived.Laws.Externs
import GoSem.Extern.SlicesOverlaps
import Derived.Carry
import Derived.ProofKit
import Derived.OpenShut
import Derived.HandedShaped
import Derived.Lay
import Derived.LaidLaws
import Derived.MakeChecks
import Derived.SevenTiedAt
import Derived.Test.YtjckmmphmhafjaaGreatDoorChecked
import Derived.Test.YtjckmmphmhafjaaGreatDoorK15
set_option linter.unusedSimpArgs false
set_option linter.unusedVariables false
namespace Go.Proofs
open Go Go.TL
theorem zz8 {s:Sch}:∀ {n:Nat},(∀ i,i < n→colE s i = 0)→Yw s n = 0
 | 0,_=>rfl
 | n + 1,h=>by
   rw [Yw,zz8 fun i hi=>h i (by omega),if_neg (by simp)]
   exact h n (by omega)
theorem zV4 {s:Sch} {i:Nat} (h1:jV (qu s i).name = true) (h2:((s.cols.take i).any fun x=>eqB x.name (qu s i).name) = false) (h3:(qu s i).kind = 3) (h4:(qu s i).list = 0) (h5:measE (qu s i) = 0):colE s i = 0:=by
 rw [colE,if_neg (by rw [h1];simp),if_neg (by rw [h2];simp),if_neg (by rw [h3];simp [inB]),if_neg (by rw [h3];simp),if_neg (by rw [h5];simp),if_neg (by rw [h3,h4];simp)]
theorem qy4 {s:Sch} {i:Nat} (h1:jV (qu s i).name = true) (h2:((s.cols.take i).any fun x=>eqB x.name (qu s i).name) = false) (h3:(qu s i).kind = 2) (h4:inB (qu s i).list 0 (s.lists.length - 1) = true)
 (h5:(qu s i).low = 0∧(qu s i).high = 0∧(qu s i).widths = []∧(qu s i).opt = false):colE s i = 0:=by
 rw [colE,if_neg (by rw [h1];simp),if_neg (by rw [h2];simp),if_neg (by rw [h3];simp [inB]),if_neg (by rw [h4];simp),if_neg (by rw [h3];simp),if_neg (by rw [h3,h5.1,h5.2.1,h5.2.2.1,h5.2.2.2];simp)]
theorem zV5 {s:Sch} (h1:jV (qu s 0).name = true) (h3:(qu s 0).kind = 1) (h5:(qu s 0).list = 0∧(qu s 0).low = 0∧(qu s 0).high = 0∧(qu s 0).widths = []∧(qu s 0).opt = false):colE s 0 = 0:=by
 rw [colE,if_neg (by rw [h1];simp),if_neg (by simp),if_neg (by rw [h3];simp [inB]),if_neg (by rw [h3];simp),if_neg (by rw [h3];simp),if_neg (by rw [h3,h5.1,h5.2.1,h5.2.2.1,h5.2.2.2.1,h5.2.2.2.2];simp)]
def whoC:Col:=⟨⟨#[119,104,111]⟩,1,0,0,0,[],false⟩
def sexC:Col:=⟨⟨#[115,101,120]⟩,2,0,0,0,[],false⟩
def jobC:Col:=⟨⟨#[106,111,98]⟩,2,1,0,0,[],false⟩
def wTab:List (List Int):=[[1],[1,5],[1,5,20],[1,2,4,12]]
structure DrM (n:Nat) (c:Col):Prop where
 nm:c.name = ⟨#[109,dgt n]⟩
 kind:c.kind = 3
 list:c.list = 0
 low : -4≤c.low∧c.low≤2
 high:c.low≤c.high∧c.high≤c.low + 44
 wid:c.widths∈wTab
theorem DrM.measE {n:Nat} {c:Col} (h:DrM n c):measE c = 0:=by
 have hl:=h.low
 have hh:=h.high
 have hw:=h.wid
 have h1:inB c.low (-1000000) 1000000 = true:=by simp only [inB,Bool.and_eq_true,decide_eq_true_eq];omega
 have h2:inB c.high (-1000000) 1000000 = true:=by simp only [inB,Bool.and_eq_true,decide_eq_true_eq];omega
 have h3:1≤c.widths.length∧c.widths.length≤4∧jr8 c.widths = true:=by
  simp only [wTab,List.mem_cons,List.not_mem_nil,or_false] at hw
  rcases hw with hw | hw | hw | hw <;> rw [hw] <;> decide
 rw [_root_.Go.Proofs.measE,if_neg (by rw [h1,h2];simp;omega),if_neg (by omega),if_neg (by rw [h3.2.2];simp)]
structure DrS (s:Sch):Prop where
 ls:∃ a b,s.lists = [a,b]∧DrL zg7 a∧DrL zg8 b
 cs:∃ ms,(s.cols = whoC :: sexC :: ms∧(∀ i (h:i < ms.length),DrM (2 + i) ms[i])∨s.cols = whoC :: sexC :: jobC :: ms∧∀ i (h:i < ms.length),DrM (3 + i) ms[i])∧1≤ms.length∧ms.length≤3
theorem jz8:∀ n:Nat,n < 10→jV ⟨#[109,dgt n]⟩ = true:=by
 have:∀ n:Fin 10,jV ⟨#[109,dgt n.1]⟩ = true:=by decide +kernel
 exact fun n h=>this ⟨n,h⟩
theorem jz9:∀ i j:Nat,i < 10→j < 10→i≠j→eqB ⟨#[109,dgt i]⟩ ⟨#[109,dgt j]⟩ = false:=by
 have:∀ i j:Fin 10,i.1≠j.1→eqB ⟨#[109,dgt i.1]⟩ ⟨#[109,dgt j.1]⟩ = false:=by decide +kernel
 exact fun i j hi hj h=>this ⟨i,hi⟩ ⟨j,hj⟩ h
theorem jx3:∀ j:Nat,j < 10→eqB whoC.name ⟨#[109,dgt j]⟩ = false∧eqB sexC.name ⟨#[109,dgt j]⟩ = false∧eqB jobC.name ⟨#[109,dgt j]⟩ = false:=by
 have:∀ j:Fin 10,eqB whoC.name ⟨#[109,dgt j.1]⟩ = false∧eqB sexC.name ⟨#[109,dgt j.1]⟩ = false∧eqB jobC.name ⟨#[109,dgt j.1]⟩ = false:=by decide +kernel
 exact fun j hj=>this ⟨j,hj⟩
theorem jr9 {s:Sch} {a b:CodL} (h:s.lists = [a,b]) (ha:DrL zg7 a) (hb:DrL zg8 b):Zl s s.lists.length = 0:=by
 have e1:Zl s 1 = 0:=by
  rw [Zl,Zl,if_neg (by simp),h]
  show (if lstE a≠0 then lstE a else _) = 0
  rw [if_neg (by rw [ha.ok];simp)]
  rfl
 rw [h]
 show Zl s 2 = 0
 rw [Zl,e1,if_neg (by simp),h]
 show (if lstE b≠0 then lstE b else if ([a].any fun x=>eqB x.name b.name) = true then (10:Int) else 0) = 0
 rw [if_neg (by rw [hb.ok];simp),if_neg]
 simp only [List.any_cons,List.any_nil,Bool.or_false,ha.nm,hb.nm]
 rw [show eqB zg7 zg8 = false by decide +kernel]
 simp
theorem qg9:jV whoC.name = true∧jV sexC.name = true∧jV jobC.name = true∧eqB whoC.name sexC.name = false∧eqB whoC.name jobC.name = false∧eqB sexC.name jobC.name = false∧eqB zg7 zg8 = false:=by decide +kernel
theorem js0 {s:Sch} {pre ms:List Col} (hl:s.lists.length = 2) (hc:s.cols = pre ++ ms) (hp:pre = [whoC,sexC]∨pre = [whoC,sexC,jobC]) (hm:∀ i (h:i < ms.length),DrM (pre.length + i) ms[i]) (hn:ms.length≤3):Yw s s.cols.length = 0:=by
 refine zz8 fun i hi=>?_
 by_cases h:i < pre.length
 ·have ha:qu s i = pre[i]:=by
   rw [qu,hc,List.getD_eq_getElem?_getD,List.getElem?_append_left h,List.getElem?_eq_getElem h];rfl
  have ht:s.cols.take i = pre.take i:=by rw [hc,List.take_append_of_le_length (by omega)]
  rcases hp with hp | hp
  ·subst hp
   have h2:i = 0∨i = 1:=by simp at h;omega
   rcases h2 with h2 | h2 <;> subst h2
   ·exact zV5 (by rw [ha];exact qg9.1) (by rw [ha];rfl) (by rw [ha];exact ⟨rfl,rfl,rfl,rfl,rfl⟩)
   ·exact qy4 (by rw [ha];exact qg9.2.1) (by rw [ha,ht];show (eqB whoC.name sexC.name || false) = false;rw [qg9.2.2.2.1];rfl) (by rw [ha];rfl) (by rw [ha,hl];rfl) (by rw [ha];exact ⟨rfl,rfl,rfl,rfl⟩)
  ·subst hp
   have h2:i = 0∨i = 1∨i = 2:=by simp at h;omega
   rcases h2 with h2 | h2 | h2 <;> subst h2
   ·exact zV5 (by rw [ha];exact qg9.1) (by rw [ha];rfl) (by rw [ha];exact ⟨rfl,rfl,rfl,rfl,rfl⟩)
   ·exact qy4 (by rw [ha];exact qg9.2.1) (by rw [ha,ht];show (eqB whoC.name sexC.name || false) = false;rw [qg9.2.2.2.1];rfl) (by rw [ha];rfl) (by rw [ha,hl];rfl) (by rw [ha];exact ⟨rfl,rfl,rfl,rfl⟩)
   ·exact qy4 (by rw [ha];exact qg9.2.2.1) (by rw [ha,ht];show (eqB whoC.name jobC.name || (eqB sexC.name jobC.name || false)) = false;rw [qg9.2.2.2.2.1,qg9.2.2.2.2.2.1];rfl) (by rw [ha];rfl) (by rw [ha,hl];rfl) (by rw [ha];exact ⟨rfl,rfl,rfl,rfl⟩)
 ·have hi2:i - pre.length < ms.length:=by rw [hc,List.length_append] at hi;omega
  have hpl:pre.length≤3:=by rcases hp with hp | hp <;> subst hp <;> simp
  have ha:qu s i = ms[i - pre.length]:=by
   rw [qu,hc,List.getD_eq_getElem?_getD,List.getElem?_append_right (by omega),List.getElem?_eq_getElem hi2];rfl
  have d:=hm _ hi2
  rw [show pre.length + (i - pre.length) = i by omega] at d
  refine zV4 (by rw [ha,d.nm];exact jz8 i (by omega)) ?_ (by rw [ha];exact d.kind) (by rw [ha];exact d.list) (by rw [ha];exact d.measE)
  rw [ha,d.nm,hc,List.any_eq_false]
  intro x hx
  rw [List.take_append] at hx
  rcases List.mem_append.1 hx with hx | hx
  ·have hx:=List.mem_of_mem_take hx
   have hf:=jx3 i (by omega)
   have:x = whoC∨x = sexC∨x = jobC:=by
    rcases hp with hp | hp <;> subst hp <;> simp at hx <;> rcases hx with h | h | h <;> simp [h]
   rcases this with h | h | h <;> subst h <;> simp [hf.1,hf.2.1,hf.2.2]
  ·obtain ⟨j,hj,rfl⟩:=List.mem_take_iff_getElem.1 hx
   have dj:=hm j (by omega)
   rw [dj.nm,jz9 (pre.length + j) i (by omega) (by omega) (by omega)]
   simp
theorem DrS.ok {s:Sch} (h:DrS s):schE s = 0:=by
 obtain ⟨a,b,hl,ha,hb⟩:=h.ls
 obtain ⟨ms,hc,hm1,hm3⟩:=h.cs
 have h2:s.lists.length = 2:=by rw [hl];rfl
 have key:∀ pre:List Col,(pre = [whoC,sexC]∨pre = [whoC,sexC,jobC])→s.cols = pre ++ ms→(∀ i (h:i < ms.length),DrM (pre.length + i) ms[i])→schE s = 0:=by
  intro pre hp hc hd
  have hpl:2≤pre.length∧pre.length≤3:=by rcases hp with hp | hp <;> subst hp <;> simp
  have h0:(qu s 0).kind = 1:=by
   rw [qu,hc]
   rcases hp with hp | hp <;> subst hp <;> rfl
  rw [schE,if_neg (by rw [h2,hc,List.length_append];omega),if_neg (by rw [jr9 hl ha hb];simp),if_neg (by rw [hc,List.length_append];omega)]
  exact js0 h2 hc hp hd hm3
 rcases hc with ⟨hc,hd⟩ | ⟨hc,hd⟩
 ·exact key [whoC,sexC] (.inl rfl) hc hd
 ·exact key [whoC,sexC,jobC] (.inr rfl) hc hd
end Go.Proofs
namespace Go.Proofs
open Go Go.TL
theorem zp2 {l:CodL} (h:lstE l = 0) {lev v:Int}:v∈atL l lev↔∃ i:Nat,i < l.codes.length∧(dep l.codes i:Int) = lev∧v = (i:Int):=by
 rw [atL,if_neg (by rw [h];simp)]
 simp only [List.mem_map,List.mem_filter,List.mem_range,beq_iff_eq]
 constructor
 ·rintro ⟨i,⟨h1,h2⟩,rfl⟩;exact ⟨i,h1,h2,rfl⟩
 ·rintro ⟨i,h1,h2,rfl⟩;exact ⟨i,⟨h1,h2⟩,rfl⟩
theorem qU6 {l:CodL} (h:lstE l = 0):yY l - 1 = (dep l.codes (l.codes.length - 1):Int):=by
 rw [yY,if_neg (by rw [h];simp)]
 omega
theorem zV6 {l:CodL} (h:lstE l = 0):0 < (atL l (yY l - 1)).length:=by
 obtain ⟨_,h1,_⟩:=jd h
 have:((l.codes.length - 1:Nat):Int)∈atL l (yY l - 1):=(zp2 h).2 ⟨l.codes.length - 1,by omega,(qU6 h).symm,rfl⟩
 exact List.length_pos_of_mem this
theorem qM4 {s:Sch} {i:Nat} (hk:(qu s i).kind = 2) (hl:lstE (zG s i) = 0) {v:Int} (hv:v∈ja s i):wX s i v = true:=by
 obtain ⟨j,h1,h2,rfl⟩:=(zp2 hl).1 hv
 rw [wX,if_neg (by rw [hk];decide),if_pos hk,Bool.and_eq_true]
 refine ⟨by simp only [inB,Bool.and_eq_true,decide_eq_true_eq];omega,?_⟩
 rw [beq_iff_eq,lvlC,if_neg (by rw [hl];omega),Int.toNat_natCast,h2]
theorem zV7 {s:Sch} {row:List Int} (hs:schE s = 0) (hl:row.length = s.cols.length) (h:∀ i,i < row.length→wX s i (row.getD i 0) = true):rowE s row = 0:=by
 rw [rowE,if_neg (by rw [hs];simp),if_neg (by rw [hl];simp),if_neg]
 rw [Bool.not_eq_false,List.all_eq_true]
 intro i hi
 exact h i (List.mem_range.1 hi)
theorem WO {s:Sch} {row:List Int} (h:rowE s row = 0):schE s = 0∧row.length = s.cols.length∧∀ i,i < row.length→wX s i (row.getD i 0) = true:=by
 unfold rowE at h
 split at h
 ·rename_i h1;exact absurd h h1
 ·split at h
  ·cases h
  ·split at h
   ·cases h
   ·rename_i h1 h2 h3
    rw [Bool.not_eq_false,List.all_eq_true] at h3
    exact ⟨Classical.byContradiction h1,by omega,fun i hi=>h3 i (List.mem_range.2 hi)⟩
theorem zg9 {s:Sch}:∀ {n:Nat},Yw s n = 0→∀ i,i < n→colE s i = 0
 | 0,_,i,h=>by omega
 | n + 1,h,i,hi=>by
   rw [Yw] at h
   split at h
   ·rename_i h2;exact absurd h h2
   ·rename_i h2
    by_cases e:i = n
    ·rw [e];exact h
    ·exact zg9 (Classical.byContradiction h2) i (by omega)
theorem zh0 {s:Sch}:∀ {n:Nat},Zl s n = 0→∀ i,i < n→lstE (s.lists.getD i default) = 0
 | 0,_,i,h=>by omega
 | n + 1,h,i,hi=>by
   rw [Zl] at h
   split at h
   ·rename_i h2;exact absurd h h2
   ·rename_i h2
    split at h
    ·rename_i h3;exact absurd h h3
    ·rename_i h3
     by_cases e:i = n
     ·rw [e];exact Classical.byContradiction h3
     ·exact zh0 (Classical.byContradiction h2) i (by omega)
structure SchOk (s:Sch):Prop where
 nl:s.lists.length≤6
 nc:1≤s.cols.length∧s.cols.length≤8
 ls:∀ i,i < s.lists.length→lstE (s.lists.getD i default) = 0
 c0:(qu s 0).kind = 1
 cs:∀ i,i < s.cols.length→colE s i = 0
theorem qT {s:Sch} (h:schE s = 0):SchOk s:=by
 unfold schE at h
 split at h
 ·cases h
 ·split at h
  ·rename_i h2;exact absurd h h2
  ·split at h
   ·cases h
   ·rename_i h1 h2 h3
    refine ⟨by omega,by omega,zh0 (Classical.byContradiction h2),?_,zg9 h⟩
    exact Classical.byContradiction fun e=>h3 (.inr e)
theorem jv {s:Sch} {i:Nat} (h:colE s i = 0):1≤(qu s i).kind∧(qu s i).kind≤3∧(0 < i→(qu s i).kind≠1)∧((qu s i).kind = 2→0≤(qu s i).list∧(qu s i).list < s.lists.length)∧((qu s i).kind = 3→measE (qu s i) = 0):=by
 unfold colE at h
 split at h
 ·cases h
 ·split at h
  ·cases h
  ·split at h
   ·cases h
   ·split at h
    ·cases h
    ·rename_i h1 h2 h3 h4
     have hk:inB (qu s i).kind 1 3 = true:=by
      cases e:inB (qu s i).kind 1 3 with
      | true=>rfl
      | false=>exact absurd (.inl e) h3
     simp only [inB,Bool.and_eq_true,decide_eq_true_eq] at hk
     refine ⟨hk.1,hk.2,fun h0 e=>h3 (.inr ⟨h0,e⟩),fun e=>?_,fun e=>?_⟩
     ·have:inB (qu s i).list 0 (s.lists.length - 1) = true:=by
       cases e2:inB (qu s i).list 0 (s.lists.length - 1) with
       | true=>rfl
       | false=>exact absurd ⟨e,e2⟩ h4
      simp only [inB,Bool.and_eq_true,decide_eq_true_eq] at this
      omega
     ·split at h
      ·rename_i h5;exact absurd h h5.2
      ·rename_i h5
       exact Classical.byContradiction fun e2=>h5 ⟨e,e2⟩
theorem SchOk.cdl {s:Sch} (h:SchOk s) {i:Nat} (hi:i < s.cols.length) (hk:(qu s i).kind = 2):(qu s i).list.toNat < s.lists.length∧lstE (zG s i) = 0:=by
 have h1:=(jv (h.cs i hi)).2.2.2.1 hk
 exact ⟨by omega,h.ls _ (by omega)⟩
end Go.Proofs
namespace Go.Proofs
open Go Go.TL
theorem SchOk.sm {s:Sch} (h:SchOk s):KJ s:=by
 have h1:=h.nl
 have h2:=h.nc
 refine ⟨by omega,by omega,fun l hl=>?_⟩
 obtain ⟨i,hi,rfl⟩:=List.getElem_of_mem hl
 have h3:=h.ls i hi
 rw [qj hi] at h3
 have:=(jd h3).2.2
 omega
theorem qU7 {l:CodL} : -1≤yY l∧yY l≤60:=by
 unfold yY
 split
 ·omega
 ·rename_i h
  obtain ⟨hp,h1,h2⟩:=jd (Classical.byContradiction h)
  have:=jo0 hp (l.codes.length - 1) (by omega)
  omega
theorem qh0 (s:Sch) (h:SchOk s) (i:Nat) (hi:i < s.cols.length) (v:Int):Spc Tryz.prog Qq [schT s,vI i,vI v] [] (vB (wX s i v)) []:=by
 have hat:qu s i = s.cols[i]:=by rw [qu,qj hi]
 have hk:=jv (h.cs i hi)
 have hcd:=fun e=>h.cdl hi e
 have hE:wX s i v = if s.cols[i].kind = 1 then inB v 1 1048575
  else if s.cols[i].kind = 2 then inB v 0 ((zG s i).codes.length - 1) && (lvlC (zG s i) v == yY (zG s i) - 1)
  else (s.cols[i].opt && (v == Yx)) || inB v s.cols[i].low s.cols[i].high:=by rw [wX,hat]
 have hcl:zG s i = s.lists.getD s.cols[i].list.toNat default:=by rw [zG,hat]
 rw [hat] at hk hcd
 rw [hE]
 rw [hcl] at hcd ⊢
 refine qe qF3 mixm (by simp) fun e _ hst=>qh ?_
 unfold Jg
 simp only [tZ,↓un_u,simprocAttr,Int.toNat_natCast,qd hi]
 generalize s.cols[i] = c at hk hcd ⊢
 simp only [tZ,↓un_u,simprocAttr,beq_iff_eq,beq_eq_false_iff_ne]
 refine ⟨by omega,fun h1=>?_,fun h1=>⟨fun h2=>?_,fun h2=>?_⟩⟩
 ·rw [if_pos h1]
  refine C1.im (jk v 1 1048575) (by rfl) (by rfl) ?_
  refine sW ?_
  exact .oA [] []
 ·obtain ⟨d1,d2⟩:=hcd h2
  obtain ⟨d3,d4⟩:=hk.2.2.2.1 h2
  have hgl:s.lists.getD c.list.toNat default = s.lists[c.list.toNat]:=qj d1
  rw [if_neg h1,if_pos h2]
  rw [hgl] at d2 ⊢
  obtain ⟨_,d5,d6⟩:=jd d2
  simp only [tZ,↓un_u,simprocAttr,qd d1]
  generalize s.lists[c.list.toNat] = l at d2 d5 d6 ⊢
  have hw:IntKind.i64.wrap ((l.codes.length:Int) - 1) = (l.codes.length:Int) - 1:=IntWalk.i64_in _ (by omega)
  have hlv:=qU7 (l:=l)
  have hw2:IntKind.i64.wrap (yY l - 1) = yY l - 1:=IntWalk.i64_in _ (by omega)
  simp only [tZ,↓un_u,simprocAttr,hw]
  refine ⟨by omega,?_⟩
  refine C1.im (jk v 0 _) (by rfl) (by rfl) ?_
  refine sW ?_
  refine C2.im (fun _=>KI l v (by omega)) (fun _=>rfl) (by rfl) ?_
  refine sW ?_
  refine C2.im (fun _=>Jv l (by omega)) (fun _=>rfl) (by rfl) ?_
  simp only [tZ,↓un_u,simprocAttr,hw2]
  refine ⟨by kernel_rfl,?_⟩
  exact .oA [] []
 ·rw [if_neg h1,if_neg h2]
  refine C2.im (fun _=>jk v c.low c.high) (fun _=>rfl) (by rfl) ?_
  refine sW ?_
  rw [show (c.opt && v == -1099511627776) = (c.opt && (v == Yx)) from rfl]
  exact .oA [] []
theorem jf4 {s:Sch} {row:List Int} {i:Nat} (h1:schE s = 0) (h2:row.length = s.cols.length) (hi:i < row.length) (h:wX s i row[i] = false):rowE s row = 9:=by
 rw [rowE,if_neg (by rw [h1];simp),if_neg (by omega),if_pos]
 exact List.all_eq_false.2 ⟨i,List.mem_range.2 hi,by rw [qj hi,h];simp⟩
theorem qb7 (s:Sch) (hs:KJ s) (row:List Int) (hr:row.length < 4611686018427387904):Spc Tryz.prog QN [schT s,vIs row] [] (vI (rowE s row)) []:=by
 refine qe zg4 mixm (by simp) fun e _ hst=>qh ?_
 unfold WJ
 refine sW ?_
 refine C1.im (zS s hs) (by rfl) (by rfl) ?_
 simp only [tZ,↓un_u,simprocAttr,bne_iff_ne,bne_eq_false_iff_eq]
 refine ⟨fun h=>?_,fun h=>⟨fun h2=>?_,fun h2=>?_⟩⟩
 ·rw [rowE,if_pos h]
  exact .oA [] []
 ·rw [rowE,if_neg (by rw [h];simp),if_pos (by omega)]
  exact .oA [] []
 have hok:=qT h
 have h0:=h
 refine qr mixm (α:=Nat) [6] (fun i=>i≤row.length∧(∀ j,j < i→wX s j (row.getD j 0) = true)) (fun i=>[(6,vI i)]) (fun i=>[(4096,.arr 2 [schT s] false)]) (fun i=>row.length - i) 0 ⟨by omega,?_⟩ ?_ fun i hi=>?_
 ·intro j hj;omega
 ·exact .oA [(4096,some 4096)] []
 simp only [tZ,↓un_u,simprocAttr,decide_eq_true_eq,decide_eq_false_iff_not]
 refine ⟨fun h=>?_,fun h=>?_⟩
 ·have hi2:i < row.length:=by omega
  have hwi:=qg (i:=i) (by omega)
  simp only [tZ,↓un_u,simprocAttr,Int.toNat_natCast,qd hi2,hwi]
  refine ⟨by omega,?_⟩
  refine C1.im (qh0 s hok i (by omega) row[i]) (by rfl) (by rfl) ?_
  simp only [tZ,↓un_u,simprocAttr,Bool.not_eq_true',Bool.not_eq_false']
  refine ⟨by kernel_rfl,fun h3=>?_,fun h3=>?_⟩
  ·rw [jf4 h0 (by omega) hi2 h3]
   exact .oA [] []
  ·refine ⟨i + 1,⟨by omega,fun j hj=>?_⟩,by omega,?_⟩
   ·by_cases e:j = i
    ·rw [e,qj hi2];exact h3
    ·exact hi.2 j (by omega)
   ·exact .oA [(4096,some 4096)] []
 ·have hi2:i = row.length:=by omega
  subst hi2
  rw [zV7 h0 (by omega) hi.2]
  exact .oA [] []
theorem kH (s:Sch) (hs:KJ s) (c:Int):Spc Tryz.prog zX [schT s,vI c] [] (vI (finI s c)) []:=by
 have hs2:=hs.2.1
 refine qe qx0 mixm (by simp) fun e _ hst=>qh ?_
 unfold Zc
 refine sW ?_
 refine C1.im (zS s hs) (by rfl) (by rfl) ?_
 simp only [tZ,↓un_u,simprocAttr,tD,bne_iff_ne,bne_eq_false_iff_eq]
 refine ⟨fun h=>?_,fun h=>?_⟩
 ·rw [finI,if_pos (by omega)]
  exact .oA [] []
 have hok:=qT h.1.1
 obtain ⟨i,rfl⟩:=Int.eq_ofNat_of_zero_le (show 0≤c by omega)
 have hi:i < s.cols.length:=by omega
 have hat:qu s i = s.cols[i]:=by rw [qu,qj hi]
 have hk:=jv (hok.cs i hi)
 have hcd:=fun e=>hok.cdl hi e
 have hcl:zG s i = s.lists.getD s.cols[i].list.toNat default:=by rw [zG,hat]
 rw [hat] at hk hcd
 rw [hcl] at hcd
 rw [finI,if_neg (by omega),Int.toNat_natCast,hcl,hat]
 simp only [tZ,↓un_u,simprocAttr,Int.toNat_natCast,qd hi]
 generalize s.cols[i] = x at hk hcd ⊢
 simp only [tZ,↓un_u,simprocAttr,beq_iff_eq,beq_eq_false_iff_ne]
 refine ⟨by omega,fun h2=>?_,fun h2=>?_⟩
 ·obtain ⟨d1,d2⟩:=hcd h2
  obtain ⟨d3,d4⟩:=hk.2.2.2.1 h2
  have hgl:s.lists.getD x.list.toNat default = s.lists[x.list.toNat]:=qj d1
  rw [if_pos h2]
  rw [hgl] at d2 ⊢
  obtain ⟨_,d5,d6⟩:=jd d2
  simp only [tZ,↓un_u,simprocAttr,qd d1]
  generalize s.lists[x.list.toNat] = l at d2 d5 d6 ⊢
  have hlv:=qU7 (l:=l)
  have hw2:IntKind.i64.wrap (yY l - 1) = yY l - 1:=IntWalk.i64_in _ (by omega)
  refine ⟨by omega,?_⟩
  refine C1.im (Jv l (by omega)) (by rfl) (by rfl) ?_
  simp only [tZ,↓un_u,simprocAttr,hw2]
  exact .oA [] []
 ·rw [if_neg h2]
  exact .oA [] []
theorem zz9 {a b:Int} (hb:0 < b):jW a b = if a.tmod b < 0 then a.tdiv b - 1 else a.tdiv b:=by
 have h1:=Int.mul_tdiv_add_tmod a b
 have h2:=Int.tmod_lt_of_pos a hb
 have h3:=Int.lt_tmod_of_pos a hb
 unfold jW
 rw [Int.fdiv_eq_ediv_of_nonneg _ (by omega)]
 split
 ·refine ((Int.ediv_emod_unique (r:=a.tmod b + b) hb).2 ⟨?_,by omega,by omega⟩).1
  rw [Int.mul_sub];omega
 ·refine ((Int.ediv_emod_unique (r:=a.tmod b) hb).2 ⟨by omega,by omega,by omega⟩).1
theorem qh1 (a b:Int) (hb:0 < b) (ha : -4611686018427387904 < a∧a < 4611686018427387904):Spc Tryz.prog Qr [vI a,vI b] [] (vI (jW a b)) []:=by
 rw [zz9 hb]
 have hq:=Int.natAbs_tdiv_le_natAbs a b
 have hw:IntKind.i64.wrap (a.tdiv b) = a.tdiv b:=IntWalk.i64_in _ (by omega)
 have hw2:IntKind.i64.wrap (a.tdiv b - 1) = a.tdiv b - 1:=IntWalk.i64_in _ (by omega)
 refine qe qF7 mixm (by simp) fun e _ hst=>qh ?_
 unfold Ji
 simp only [tZ,↓un_u,simprocAttr,hw,hw2,tD]
 refine ⟨by omega,by omega,fun h=>?_,fun h=>?_⟩
 ·rw [if_pos h]
  exact .oA [] []
 ·rw [if_neg h]
  exact .oA [] []
theorem QA (c:Col) (lev:Int) (h1:1≤lev∧lev≤c.widths.length) (h2:c.widths.length < 4611686018427387904):Spc Tryz.prog kg [colT c,vI lev] [] (vI (zH c lev)) []:=by
 have hw:IntKind.i64.wrap ((c.widths.length:Int) - lev) = (c.widths.length:Int) - lev:=IntWalk.i64_in _ (by omega)
 have hk:((c.widths.length:Int) - lev).toNat < c.widths.length:=by omega
 refine qe qF5 mixm (by simp) fun e _ hst=>qh ?_
 unfold Jh
 simp only [tZ,↓un_u,simprocAttr,hw,qd hk]
 rw [zH,qj hk]
 refine ⟨by omega,?_⟩
 exact .oA [] []
end Go.Proofs
namespace Go.Proofs
open Go Go.TL
namespace Cnd
mutual
theorem ind' {p:Cnd→Prop} (h:∀ c,(∀ k∈c.kids,p k)→p c):∀ c,p c
 | .mk _ _ _ _ _ ks=>h _ (inds h ks)
theorem inds {p:Cnd→Prop} (h:∀ c,(∀ k∈c.kids,p k)→p c):∀ ks:List Cnd,∀ k∈ks,p k
 | [],_,hk=>absurd hk (by simp)
 | x :: r,k,hk=>by
   rcases List.mem_cons.1 hk with e | hk
   ·rw [e];exact ind' h x
   ·exact inds h r k hk
end
end Cnd
mutual
def cntC:Cnd→Int→Int
 | .mk _ _ _ _ _ ks,m=>kX ks m 1
def kX:List Cnd→Int→Int→Int
 | [],_,n=>n
 | k :: r,m,n=>if n < m then kX r m (n + cntC k (m - n)) else n
end
theorem qb8 (c:Cnd) (m:Int):cntC c m = kX c.kids m 1:=by cases c;rw [cntC];rfl
mutual
def depC:Cnd→Nat
 | .mk _ _ _ _ _ ks=>kY ks + 1
def kY:List Cnd→Nat
 | []=>0
 | k :: r=>max (depC k) (kY r)
end
theorem qy5 (c:Cnd):depC c = kY c.kids + 1:=by cases c;rw [depC];rfl
def isB (s:Sch) (col kind:Int):Bool:=decide (0≤col) && decide (col < s.cols.length) && ((qu s col.toNat).kind == kind)
def arC (op:Int):Nat:=if op = 5∨op = 6 then 2 else if op = 7 then 1 else 0
def ndE (s:Sch) (c:Cnd):Int:=
 if c.op < 1∨7 < c.op then 4
 else if c.kids.length≠arC c.op∨(c.op≠2∧c.op≠3∧c.op≠4∧c.col≠0)∨(c.op≠2∧c.code≠0)∨(c.op≠3∧(c.lo≠0∨c.hi≠0)) then 11
 else if (c.op = 2∧isB s c.col 2 = false)∨(c.op = 3∧isB s c.col 3 = false)∨(c.op = 4∧(isB s c.col 3 = false∨(qu s c.col.toNat).opt = false)) then 7
 else if c.op = 2∧(c.code < 0∨c.code≥(zG s c.col.toNat).codes.length) then 6
 else if c.op = 3∧(c.lo < -1000000∨c.hi > 1000000∨c.lo > c.hi) then 2 else 0
mutual
def nodE (s:Sch):Cnd→Int
 | .mk op col code lo hi ks=>if ndE s (.mk op col code lo hi ks)≠0 then ndE s (.mk op col code lo hi ks) else yo s ks
def yo (s:Sch):List Cnd→Int
 | []=>0
 | k :: r=>if nodE s k≠0 then nodE s k else yo s r
end
theorem zp3 (s:Sch) (c:Cnd):nodE s c = if ndE s c≠0 then ndE s c else yo s c.kids:=by cases c;rw [nodE];rfl
def chkC (s:Sch) (c:Cnd):Int:=if schE s≠0 then schE s else if cntC c 41 > 40 then 1 else if depC c > 10 then 22 else nodE s c
theorem zh1 {s:Sch}:∀ {l:List Cnd},yo s l = 0→∀ k∈l,nodE s k = 0
 | [],_,k,hk=>absurd hk (by simp)
 | x :: r,h,k,hk=>by
   rw [yo] at h
   split at h
   ·rename_i h1;exact absurd h h1
   ·rename_i h1
    rcases List.mem_cons.1 hk with e | hk
    ·rw [e];exact Classical.byContradiction h1
    ·exact zh1 h k hk
theorem zV8 {s:Sch} {c:Cnd} (h:nodE s c = 0):ndE s c = 0∧∀ k∈c.kids,nodE s k = 0:=by
 rw [zp3] at h
 split at h
 ·rename_i h1;exact absurd h h1
 ·rename_i h1
  exact ⟨Classical.byContradiction h1,zh1 h⟩
theorem jm {s:Sch} {col kind:Int}:isB s col kind = true↔0≤col∧col < s.cols.length∧(qu s col.toNat).kind = kind:=by
 unfold isB
 simp only [Bool.and_eq_true,decide_eq_true_eq,beq_iff_eq,and_assoc]
structure NdOk (s:Sch) (c:Cnd):Prop where
 op:1≤c.op∧c.op≤7
 nk:c.kids.length = arC c.op
 under:c.op = 2→isB s c.col 2 = true∧0≤c.code∧c.code < (zG s c.col.toNat).codes.length
 between:c.op = 3→isB s c.col 3 = true∧-1000000≤c.lo∧c.hi≤1000000∧c.lo≤c.hi
 miss:c.op = 4→isB s c.col 3 = true∧(qu s c.col.toNat).opt = true
theorem jo2 {s:Sch} {c:Cnd} (h:ndE s c = 0):NdOk s c:=by
 unfold ndE at h
 split at h
 ·cases h
 rename_i h1
 split at h
 ·cases h
 rename_i h2
 split at h
 ·cases h
 rename_i h3
 split at h
 ·cases h
 rename_i h4
 split at h
 ·cases h
 rename_i h5
 refine ⟨by omega,Classical.byContradiction fun e=>h2 (.inl e),fun e=>⟨?_,by omega,by omega⟩,fun e=>⟨?_,by omega,by omega,by omega⟩,fun e=>⟨?_,?_⟩⟩
 ·cases e2:isB s c.col 2 with
  | true=>rfl
  | false=>exact absurd (.inl ⟨e,e2⟩) h3
 ·cases e2:isB s c.col 3 with
  | true=>rfl
  | false=>exact absurd (.inr (.inl ⟨e,e2⟩)) h3
 ·cases e2:isB s c.col 3 with
  | true=>rfl
  | false=>exact absurd (.inr (.inr ⟨e,.inl e2⟩)) h3
 ·cases e2:(qu s c.col.toNat).opt with
  | true=>rfl
  | false=>exact absurd (.inr (.inr ⟨e,.inr e2⟩)) h3
def isAt (c:Cnd):Bool:=(c.op == 2) || (c.op == 3) || (c.op == 4)
def tf (b:Bool):Int:=if b then 1 else -1
def qy6 (s:Sch) (c:Cnd) (v:Int):Int:=
 if c.op = 2 then tf (zz5 (zG s c.col.toNat) v c.code)
 else if c.op = 3 then (if v = Yx then 0 else tf (decide (c.lo≤v) && decide (v≤c.hi)))
 else if c.op = 4 then tf (v == Yx) else -1
def qI0 (op:Int) (ks:List Int):Int:=if op = 7 then - ks.getD 0 0 else if op = 5 then min (ks.getD 0 0) (ks.getD 1 0) else if op = 6 then max (ks.getD 0 0) (ks.getD 1 0) else 1
mutual
def evC (s:Sch) (row:List Int):Cnd→Int
 | .mk op col code lo hi ks=>if isAt (.mk op col code lo hi ks) = true then qy6 s (.mk op col code lo hi ks) (row.getD col.toNat 0) else qI0 op (evCs s row ks)
def evCs (s:Sch) (row:List Int):List Cnd→List Int
 | []=>[]
 | k :: r=>evC s row k :: evCs s row r
end
theorem zA0 (s:Sch) (row:List Int):∀ l,evCs s row l = l.map (evC s row)
 | []=>by simp [evCs]
 | k :: r=>by simp [evCs,zA0 s row r]
theorem jo3 (s:Sch) (row:List Int) (c:Cnd):evC s row c = if isAt c = true then qy6 s c (row.getD c.col.toNat 0) else qI0 c.op (c.kids.map (evC s row)):=by
 cases c
 rw [evC,zA0];rfl
def zV9 (s:Sch) (c:Cnd) (row:List Int):Int:=if chkC s c≠0∨rowE s row≠0 then 0 else evC s row c
mutual
def atsC:Cnd→List Cnd
 | .mk op col code lo hi ks=>if isAt (.mk op col code lo hi ks) = true then [.mk op col code lo hi ks] else JM ks
def JM:List Cnd→List Cnd
 | []=>[]
 | k :: r=>atsC k ++ JM r
end
theorem qU8 (c:Cnd):atsC c = if isAt c = true then [c] else JM c.kids:=by cases c;rw [atsC];rfl
theorem qm0:∀ (l:List Cnd) (k:Cnd),JM (l ++ [k]) = JM l ++ atsC k
 | [],k=>by simp [JM]
 | x :: r,k=>by simp [JM,qm0 r k]
theorem jx4 {s:Sch}:∀ c,nodE s c = 0→∀ a∈atsC c,NdOk s a∧isAt a = true:=by
 refine Cnd.ind' fun c ih h a ha=>?_
 obtain ⟨h1,h2⟩:=zV8 h
 rw [qU8] at ha
 split at ha
 ·rename_i h3
  rw [List.mem_singleton] at ha
  rw [ha]
  exact ⟨jo2 h1,h3⟩
 ·have key:∀ l:List Cnd,(∀ k∈l,k∈c.kids)→a∈JM l→NdOk s a∧isAt a = true:=by
   intro l
   induction l with
   | nil=>intro _ h;simp [JM] at h
   | cons k r ihl=>
     intro hk h
     rw [JM,List.mem_append] at h
     rcases h with h | h
     ·exact ih k (hk k (by simp)) (h2 k (hk k (by simp))) a h
     ·exact ihl (fun x hx=>hk x (List.mem_cons_of_mem _ hx)) h
  exact key c.kids (fun k hk=>hk) ha
def qI1 (n:Nat) (p:Nat→Nat→Bool):Bool:=(List.range n).all fun i=>(List.range i).all fun k=>p i k
theorem ZD {p:Nat→Bool} {n:Nat}:(List.range (n + 1)).all p = ((List.range n).all p && p n):=by rw [List.range_succ,List.all_append];simp
theorem qy7 {p:Nat→Bool} {n i:Nat} (h:i < n) (hp:p i = false):(List.range n).all p = false:=List.all_eq_false.2 ⟨i,List.mem_range.2 h,by rw [hp];simp⟩
theorem qM5 {p:Nat→Nat→Bool} {n:Nat}:qI1 (n + 1) p = (qI1 n p && (List.range n).all (p n)):=ZD
theorem zA1 {p:Nat→Nat→Bool} {n i k:Nat} (h:i < n) (hk:k < i) (hp:p i k = false):qI1 n p = false:=qy7 h (qy7 hk hp)
def decP (s:Sch) (c:Cnd) (lev:Nat) (i k:Nat):Bool:=
 !((jb s c.col lev ((ja s c.col.toNat).getD i 0) == jb s c.col lev ((ja s c.col.toNat).getD k 0)) && !(qy6 s c ((ja s c.col.toNat).getD i 0) == qy6 s c ((ja s c.col.toNat).getD k 0)))
def decB (s:Sch) (c:Cnd) (lev:Nat):Bool:=
 if c.op = 2 then qI1 (ja s c.col.toNat).length (decP s c lev)
 else if c.op = 4 then decide (0 < lev)
 else
  let x:=qu s c.col.toNat
  let first:=decide (x.low < c.lo) && decide (c.lo≤x.high)
  let behind:=decide (x.low≤c.hi) && decide (c.hi < x.high)
  if lev = 0 then !x.opt && !first && !behind
  else (!first || (c.lo.tmod (zH x lev) == 0)) && (!behind || ((c.hi + 1).tmod (zH x lev) == 0))
def KT (p:Nat→Bool):Nat→Nat→Nat
 | 0,n=>n
 | f + 1,n=>if p n = true then n else KT p f (n + 1)
theorem qy8 {p:Nat→Bool} {N:Nat} (h:p N = true):∀ (f n:Nat),n≤N→N - n≤f→p (KT p f n) = true∧KT p f n≤N∧n≤KT p f n∧∀ m,n≤m→m < KT p f n→p m = false
 | 0,n,h1,h2=>by
   have:n = N:=by omega
   subst this
   exact ⟨h,Nat.le_refl _,Nat.le_refl _,fun m h3 h4=>by rw [KT] at h4;omega⟩
 | f + 1,n,h1,h2=>by
   rw [KT]
   split
   ·rename_i hp
    exact ⟨hp,h1,Nat.le_refl _,fun m h3 h4=>by omega⟩
   ·rename_i hp
    have hn:n≠N:=fun e=>hp (e ▸ h)
    obtain ⟨a,b,c,d⟩:=qy8 h f (n + 1) (by omega) (by omega)
    refine ⟨a,b,by omega,fun m h3 h4=>?_⟩
    by_cases e:m = n
    ·rw [e];simpa using hp
    ·exact d m (by omega) h4
def decN (s:Sch) (c:Cnd):Nat:=KT (decB s c) 64 0
def qb9 (col lev:Int):List Pk×Bool→Pk→List Pk×Bool:=fun x p=>
 let y:=if p.col > col∧x.2 = false then (x.1 ++ [⟨col,lev⟩],true) else x
 if p.col = col then (y.1 ++ [⟨p.col,max p.lev lev⟩],true) else (y.1 ++ [p],y.2)
def KK (l:List Pk) (col lev:Int):List Pk:=
 let x:=l.foldl (qb9 col lev) ([],decide (lev≤0))
 if x.2 then x.1 else x.1 ++ [⟨col,lev⟩]
def yZ (s:Sch) (c:Cnd):List Pk:=if chkC s c≠0 then [] else (atsC c).foldl (fun l a=>KK l a.col (decN s a)) []
def covB (a b:List Pk):Bool:=a.all fun x=>b.any fun y=>(y.col == x.col) && decide (y.lev≥x.lev)
mutual
def qy9:Cnd→Cnd→Bool
 | .mk a1 a2 a3 a4 a5 ks,.mk b1 b2 b3 b4 b5 ls=>(a1 == b1) && (a2 == b2) && (a3 == b3) && (a4 == b4) && (a5 == b5) && wY ks ls
def wY:List Cnd→List Cnd→Bool
 | [],[]=>true
 | k :: r,l :: t=>qy9 k l && wY r t
 | [],_ :: _=>false
 | _ :: _,[]=>false
end
theorem jf5 (a b:Cnd):qy9 a b = ((a.op == b.op) && (a.col == b.col) && (a.code == b.code) && (a.lo == b.lo) && (a.hi == b.hi) && wY a.kids b.kids):=by cases a;cases b;rw [qy9];rfl
theorem qz0:∀ c,∀ m,1≤m→1≤cntC c m∧cntC c m≤m:=by
 refine Cnd.ind' fun c ih m hm=>?_
 rw [qb8]
 have key:∀ l:List Cnd,(∀ k∈l,k∈c.kids)→∀ n,1≤n→n≤m→1≤kX l m n∧kX l m n≤m:=by
  intro l
  induction l with
  | nil=>intro _ n h1 h2;rw [kX];exact ⟨h1,h2⟩
  | cons k r ihl=>
    intro hk n h1 h2
    rw [kX]
    split
    ·have:=ih k (hk k (by simp)) (m - n) (by omega)
     exact ihl (fun x hx=>hk x (List.mem_cons_of_mem _ hx)) _ (by omega) (by omega)
    ·exact ⟨h1,h2⟩
 exact key c.kids (fun k hk=>hk) 1 (by omega) hm
theorem qU9:∀ (l:List Cnd) (m n:Int),n≤m→n≤kX l m n
 | [],m,n,_=>by rw [kX];omega
 | k :: r,m,n,h=>by
   rw [kX]
   split
   ·have:=qz0 k (m - n) (by omega)
    have:=qU9 r m (n + cntC k (m - n)) (by omega)
    omega
   ·omega
theorem js1:∀ c,∀ m,1≤m→cntC c m < m→(depC c:Int)≤cntC c m:=by
 refine Cnd.ind' fun c ih m hm h=>?_
 rw [qb8] at h ⊢
 rw [qy5]
 have key:∀ l:List Cnd,(∀ k∈l,k∈c.kids)→∀ n,1≤n→n≤m→kX l m n < m→n + kY l≤kX l m n:=by
  intro l
  induction l with
  | nil=>intro _ n h1 h2 _;rw [kX,kY];omega
  | cons k r ihl=>
    intro hk n h1 h2 h3
    rw [kX] at h3 ⊢
    rw [kY]
    split at h3
    ·rename_i h4
     rw [if_pos h4]
     have c1:=qz0 k (m - n) (by omega)
     have c2:=qU9 r m (n + cntC k (m - n)) (by omega)
     have c3:=ih k (hk k (by simp)) (m - n) (by omega) (by omega)
     have c4:=ihl (fun x hx=>hk x (List.mem_cons_of_mem _ hx)) (n + cntC k (m - n)) (by omega) (by omega) h3
     omega
    ·omega
 have:=key c.kids (fun k hk=>hk) 1 (by omega) (by omega) h
 omega
end Go.Proofs
namespace Go.Proofs
open Go Go.TL
def jw (f:Nat→Int):Nat→Int
 | 0=>0
 | n + 1=>if jw f n≠0 then jw f n else f n
theorem zh2 {f:Nat→Int} {i:Nat} (h:jw f i≠0):∀ n,i≤n→jw f n = jw f i:=by
 intro n hn
 induction n with
 | zero=>have:i = 0:=by omega
         rw [this]
 | succ n ih=>
   by_cases e:i = n + 1
   ·rw [e]
   ·have:=ih (by omega)
    rw [jw,this,if_pos h]
theorem qm1 {f:Nat→Int}:∀ {n:Nat},jw f n = 0→∀ i,i < n→f i = 0
 | 0,_,i,h=>by omega
 | n + 1,h,i,hi=>by
   rw [jw] at h
   split at h
   ·rename_i h2;exact absurd h h2
   ·rename_i h2
    by_cases e:i = n
    ·rw [e];exact h
    ·exact qm1 (Classical.byContradiction h2) i (by omega)
theorem qh2 {f:Nat→Int}:∀ {n:Nat},(∀ i,i < n→f i = 0)→jw f n = 0
 | 0,_=>rfl
 | n + 1,h=>by
   rw [jw,qh2 fun i hi=>h i (by omega),if_neg (by simp)]
   exact h n (by omega)
theorem kZ {f:Nat→Int} {n:Nat} (h:jw f n = 0):jw f (n + 1) = f n:=by rw [jw,if_neg (by rw [h];simp)]
theorem JN {f:Nat→Int} {i n:Nat} (h:jw f i = 0) (hi:i < n) (hf:f i≠0):jw f n = f i:=by
 rw [zh2 (i:=i + 1) (by rw [kZ h];exact hf) n (by omega),kZ h]
def Wb (s:Sch) (p:Pk):Int:=if schE s≠0 then schE s else if p.col < 1∨p.col≥s.cols.length then 7 else if inB p.lev 0 (finI s p.col) = false then 8 else 0
abbrev pkAt (l:List Pk) (i:Nat):Pk:=l.getD i default
def zh3 (s:Sch) (l:List Pk) (i:Nat):Int:=if Wb s (pkAt l i)≠0 then Wb s (pkAt l i) else if 0 < i∧(pkAt l i).col≤(pkAt l (i - 1)).col then 10 else 0
def WQ (s:Sch) (l:List Pk):Int:=if schE s≠0 then schE s else jw (zh3 s l) l.length
def dimE (s:Sch) (l:List Pk) (i:Nat):Int:=if Wb s (pkAt l i)≠0 then Wb s (pkAt l i) else if isB s (pkAt l i).col 2 = false then 7 else if ((l.take i).any fun x=>x.col == (pkAt l i).col) = true then 10 else 0
def qr2 (s:Sch) (l:List Pk):Int:=if l.length < 1∨l.length > 3 then 1 else jw (dimE s l) l.length
def zW0 (s:Sch) (m:Int) (l:List Int) (i:Nat):Int:=if isB s (l.getD i 0) 3 = false then 7 else if l.getD i 0 = m∨(l.take i).contains (l.getD i 0) = true then 10 else 0
def WR (s:Sch) (m:Int) (l:List Int):Int:=if l.length < 1∨l.length > 3 then 1 else jw (zW0 s m l) l.length
def JO (s:Sch) (q:Qst):Int:=
 if q.kind = 1 then (if qr2 s q.dims≠0 then qr2 s q.dims else if q.meas≠-1∧isB s q.meas 3 = false then 7 else 0)
 else if q.kind = 2 then (if isB s q.meas 3 = false then 7 else WR s q.meas q.terms)
 else if isB s q.meas 3 = false then 7 else if (qu s q.meas.toNat).low < 0 then 2 else chkC s q.event
def qstE (s:Sch) (q:Qst):Int:=
 if schE s≠0 then schE s else if jV q.name = false then 3 else if q.kind < 1∨3 < q.kind then 4
 else if chkC s q.filt≠0 then chkC s q.filt else if JO s q≠0 then JO s q
 else if (q.kind≠1∧0 < q.dims.length)∨(q.kind≠2∧0 < q.terms.length)∨(q.kind≠3∧qy9 q.event cnd0 = false) then 11 else 0
abbrev qAt (l:List Qst) (i:Nat):Qst:=l.getD i default
def qsE (s:Sch) (l:List Qst) (i:Nat):Int:=if qstE s (qAt l i)≠0 then qstE s (qAt l i) else if ((l.take i).any fun x=>eqB x.name (qAt l i).name) = true then 10 else 0
def smpE (x:Smp):Int:=if x.of < 1∨x.of > 1000∨x.part < 1∨x.part > x.of∨x.seed < 0∨x.seed > 1099511627776 then 2 else 0
def dclE (s:Sch) (d:Dcl):Int:=
 if schE s≠0 then schE s else if jV d.proj = false∨jV d.src = false then 3 else if chkC s d.coh≠0 then chkC s d.coh
 else if smpE d.smp≠0 then 2 else if d.qs.length < 1∨d.qs.length > 8 then 1 else jw (qsE s d.qs) d.qs.length
theorem zp4 {s:Sch} {d:Dcl} (h:dclE s d = 0):schE s = 0∧jV d.proj = true∧jV d.src = true∧chkC s d.coh = 0∧smpE d.smp = 0∧1≤d.qs.length∧d.qs.length≤8∧∀ i,i < d.qs.length→qstE s (qAt d.qs i) = 0:=by
 unfold dclE at h
 split at h
 ·rename_i h1;exact absurd h h1
 rename_i h1
 split at h
 ·cases h
 rename_i h2
 split at h
 ·rename_i h3;exact absurd h h3
 rename_i h3
 split at h
 ·cases h
 rename_i h4
 split at h
 ·cases h
 rename_i h5
 refine ⟨Classical.byContradiction h1,?_,?_,Classical.byContradiction h3,Classical.byContradiction h4,by omega,by omega,fun i hi=>?_⟩
 ·cases e:jV d.proj with
  | true=>rfl
  | false=>exact absurd (.inl e) h2
 ·cases e:jV d.src with
  | true=>rfl
  | false=>exact absurd (.inr e) h2
 ·have:=qm1 h i hi
  unfold qsE at this
  split at this
  ·rename_i h6;exact absurd this h6
  ·rename_i h6;exact Classical.byContradiction h6
theorem zh4 {s:Sch} {l:List Pk} (h:WQ s l = 0):schE s = 0∧(∀ p∈l,Wb s p = 0)∧l.Pairwise fun a b=>a.col < b.col:=by
 unfold WQ at h
 split at h
 ·rename_i h1;exact absurd h h1
 rename_i h1
 have key:∀ i,i < l.length→Wb s (pkAt l i) = 0∧¬ (0 < i∧(pkAt l i).col≤(pkAt l (i - 1)).col):=fun i hi=>by
  have:=qm1 h i hi
  unfold zh3 at this
  split at this
  ·rename_i h2;exact absurd this h2
  rename_i h2
  split at this
  ·cases this
  ·rename_i h3;exact ⟨Classical.byContradiction h2,h3⟩
 refine ⟨Classical.byContradiction h1,fun p hp=>?_,?_⟩
 ·obtain ⟨i,hi,rfl⟩:=List.getElem_of_mem hp
  have:=(key i hi).1
  rw [pkAt,qj hi] at this
  exact this
 ·rw [List.pairwise_iff_getElem]
  have k2:∀ (d i:Nat) (hj:i + d + 1 < l.length),(l[i]'(by omega)).col < l[i + d + 1].col:=by
   intro d
   induction d with
   | zero=>
     intro i hj
     have:=(key (i + 1) (by omega)).2
     rw [pkAt,pkAt,qj (by omega),qj (by omega)] at this
     simp at this
     simpa using this
   | succ d ih=>
     intro i hj
     have h1:=ih i (by omega)
     have h2:=(key (i + d + 1 + 1) (by omega)).2
     rw [pkAt,pkAt,qj (by omega),qj (by omega)] at h2
     simp only [Nat.add_sub_cancel] at h2
     have e:i + (d + 1) + 1 = i + d + 1 + 1:=by omega
     simp only [e]
     omega
  intro i j hi hj hij
  have:=k2 (j - i - 1) i (by omega)
  have e:i + (j - i - 1) + 1 = j:=by omega
  simp only [e] at this
  exact this
theorem qV0 {s:Sch} {p:Pk} (h:Wb s p = 0):schE s = 0∧1≤p.col∧p.col < s.cols.length∧0≤p.lev∧p.lev≤finI s p.col:=by
 unfold Wb at h
 split at h
 ·rename_i h1;exact absurd h h1
 rename_i h1
 split at h
 ·cases h
 rename_i h2
 split at h
 ·cases h
 rename_i h3
 rw [Bool.not_eq_false,inB,Bool.and_eq_true,decide_eq_true_eq,decide_eq_true_eq] at h3
 exact ⟨Classical.byContradiction h1,by omega,by omega,h3.1,h3.2⟩
end Go.Proofs
namespace Go.Proofs
open Go Go.TL
def divM (high w wo:Int):Nat→Int→Bool
 | 0,_=>true
 | k + 1,f=>if f > high then true else if f.tmod wo≠0 then false else divM high w wo k (f + w)
def divP (s:Sch) (col:Nat) (L:List Int) (other lev:Nat) (i k:Nat):Bool:=
 !(!(jb s col lev (L.getD i 0) == jb s col lev (L.getD k 0)) && (jb s col other (L.getD i 0) == jb s col other (L.getD k 0)))
def divB (s:Sch) (col other lev:Nat):Bool:=
 if lev = 0∨lev≤other then true
 else if (qu s col).kind = 2 then qI1 (ja s col).length (divP s col (ja s col) other lev)
 else
  let x:=qu s col
  let w:=zH x lev
  let first:=(jW x.low w + 1) * w
  if other = 0 then !x.opt && decide (first > x.high)
  else divM x.high w (zH x other) 2 first
def Zm (s:Sch) (col lev:Int):Int:=if inB lev 0 (finI s col) = false then -1 else KT (fun n=>divB s col.toNat n lev.toNat) 64 0
def jf6 (q:Qst) (k:Int):Bool:=(q.meas == k) || q.terms.contains k
def WS (l m:List Pk):List Pk:=m.foldl (fun l p=>KK l p.col p.lev) l
def Qe (s:Sch) (q:Qst):List Pk→Nat→List Pk:=fun l k=>if jf6 q (k + 1) = true then KK l (k + 1) (Zm s (k + 1) (finI s (k + 1))) else l
def jx5 (s:Sch) (q:Qst) (l:List Pk):List Pk:=(List.range (s.cols.length - 1)).foldl (Qe s q) l
def qh3 (s:Sch) (q:Qst):List Pk:=if qstE s q≠0 then [] else
 jx5 s q (q.dims.foldl (fun l p=>KK l p.col (Zm s p.col p.lev)) (if q.kind = 3 then WS (yZ s q.filt) (yZ s q.event) else yZ s q.filt))
def sufB (s:Sch) (q:Qst) (l:List Pk):Bool:=(qstE s q == 0) && (WQ s l == 0) && covB (qh3 s q) l
def qV1 (s:Sch) (d:Dcl):List Pk:=if dclE s d≠0 then [] else d.qs.foldl (fun l q=>WS l (qh3 s q)) []
def zp5 (s:Sch) (d:Dcl) (l:List Pk):Int:=if dclE s d≠0 then dclE s d else if WQ s l≠0 then WQ s l else jw (fun i=>if sufB s (qAt d.qs i) l = true then 0 else 23) d.qs.length
end Go.Proofs
namespace Go.Proofs
open Go Go.TL
theorem qz1 {s:Sch} {c:Int} (h:0≤finI s c):schE s = 0∧1≤c∧c < s.cols.length∧finI s c = (if (qu s c.toNat).kind = 2 then yY (zG s c.toNat) - 1 else (qu s c.toNat).widths.length):=by
 unfold finI at h ⊢
 split at h
 ·omega
 ·rename_i h1
  rw [if_neg h1]
  exact ⟨by omega,by omega,by omega,rfl⟩
theorem qh4 {n lo hi:Int}:inB n lo hi = true↔lo≤n∧n≤hi:=by simp [inB]
theorem SchOk.wid {s:Sch} (h:SchOk s) {i:Nat} (hi:i < s.cols.length) (h0:0 < i) (hk:(qu s i).kind≠2) {lev:Int} (hl:1≤lev∧lev≤(qu s i).widths.length) :
 1≤zH (qu s i) lev∧zH (qu s i) lev≤1000000∧(qu s i).kind = 3∧(qu s i).widths.length≤4∧-1000000≤(qu s i).low∧(qu s i).high≤1000000∧(qu s i).low≤(qu s i).high∧zH (qu s i) (qu s i).widths.length = 1:=by
 have hk2:=jv (h.cs i hi)
 have hk3:(qu s i).kind = 3:=by have:=hk2.2.2.1 h0;omega
 have hm:=hk2.2.2.2.2 hk3
 generalize qu s i = c at hl hm hk3 ⊢
 unfold measE at hm
 split at hm
 ·cases hm
 rename_i h1
 split at hm
 ·cases hm
 rename_i h2
 split at hm
 ·cases hm
 rename_i h3
 rw [Bool.not_eq_false] at h3
 have hw:∀ j,j < c.widths.length→wdOk c.widths j = true:=fun j hj=>List.all_eq_true.1 h3 j (List.mem_range.2 hj)
 have e1:inB c.low (-1000000) 1000000 = true:=by grind
 have e2:inB c.high (-1000000) 1000000 = true:=by grind
 rw [qh4] at e1 e2
 have hn:((c.widths.length:Int) - lev).toNat < c.widths.length:=by omega
 have hp:=zV2 (ws:=c.widths) hw _ hn
 have h0:=hw 0 (by omega)
 rw [wdOk,if_pos rfl,beq_iff_eq] at h0
 have hmax:c.widths.getD ((c.widths.length:Int) - lev).toNat 0≤1000000:=by
  have:=hw _ hn
  unfold wdOk at this
  split at this
  ·rename_i e;rw [e,h0];omega
  ·simp only [Bool.and_eq_true,decide_eq_true_eq] at this;omega
 refine ⟨hp,hmax,hk3,by omega,by omega,by omega,by omega,?_⟩
 rw [zH,show ((c.widths.length:Int) - c.widths.length).toNat = 0 by omega,h0]
theorem zh5 {v w:Int} (hw:0 < w):v - w < jW v w * w∧jW v w * w≤v:=by
 unfold jW
 rw [Int.fdiv_eq_ediv_of_nonneg _ (by omega),Int.mul_comm]
 have h1:=Int.mul_ediv_add_emod v w
 have h2:=Int.emod_nonneg v (b:=w) (by omega)
 have h3:=Int.emod_lt_of_pos v hw
 omega
theorem jf7 {v w:Int} (hw:0 < w) (hv : -4611686018427387904 < v∧v < 4611686018427387904) : -4611686018427387904 < jW v w∧jW v w < 4611686018427387904:=by
 have hq:=Int.natAbs_tdiv_le_natAbs v w
 have h1:=Int.mul_tdiv_add_tmod v w
 rw [zz9 hw]
 unfold jW at *
 split
 ·rename_i h
  have h2:v < 0:=Classical.byContradiction fun k=>by
   have:=Int.tmod_nonneg w (show 0≤v by omega)
   omega
  have h3 : -4611686018427387904 < v.tdiv w - 1:=by
   by_cases e:w = 1
   ·subst e;rw [Int.tmod_one] at h;omega
   ·refine Classical.byContradiction fun k=>?_
    have h4:v.tdiv w≤-4611686018427387903:=by omega
    have h5:w * v.tdiv w≤2 * v.tdiv w:=Int.mul_le_mul_of_nonpos_right (by omega) (by omega)
    have h6:=Int.lt_tmod_of_pos v hw
    have h7:=Int.tmod_lt_of_pos v hw
    omega
  omega
 ·omega
theorem jc (s:Sch) (hs:KJ s) (c lev v:Int):Spc Tryz.prog zl [schT s,vI c,vI lev,vI v] [] (vI (jb s c lev v)) []:=by
 refine qe qw8 mixm (by simp) fun e _ hst=>qh ?_
 unfold Zb
 refine sW ?_
 refine C1.im (kH s hs c) (by rfl) (by rfl) ?_
 refine sW ?_
 refine C1.im (jk lev 0 (finI s c)) (by rfl) (by rfl) ?_
 simp only [tZ,↓un_u,simprocAttr,Bool.not_eq_true',Bool.not_eq_false']
 refine ⟨fun h=>?_,fun h=>?_⟩
 ·rw [jb,if_pos h]
  exact .oA [] []
 rw [qh4] at h
 obtain ⟨hE,c1,c2,hfin⟩:=qz1 (s:=s) (c:=c) (by omega)
 have hok:=qT hE
 obtain ⟨i,rfl⟩:=Int.eq_ofNat_of_zero_le (show 0≤c by omega)
 rw [Int.toNat_natCast] at hfin
 have hi:i < s.cols.length:=by omega
 have hat:qu s i = s.cols[i]:=by rw [qu,qj hi]
 have hk:=jv (hok.cs i hi)
 have hcd:=fun e=>hok.cdl hi e
 have hwd:=fun e l=>hok.wid hi (by omega) e (lev:=l)
 have hcl:zG s i = s.lists.getD s.cols[i].list.toNat default:=by rw [zG,hat]
 have hE2:jb s i lev v = if s.cols[i].kind = 2 then (if wX s i v = false then -1 else upC (zG s i) v lev)
  else if v≠Yx∧inB v (-1000000) 1000000 = false then -1
  else if lev = 0 then 0 else if v = Yx then v else jW v (zH s.cols[i] lev) * zH s.cols[i] lev:=by
  rw [jb,if_neg (by rw [Bool.not_eq_false,qh4];exact h),Int.toNat_natCast,hat]
 rw [hE2]
 rw [hat] at hk hcd hwd hfin
 rw [hcl] at hcd ⊢
 simp only [tZ,↓un_u,simprocAttr,Int.toNat_natCast,qd hi]
 have hho:=qh0 s hok i hi v
 generalize s.cols[i] = x at hk hcd hwd hfin ⊢
 simp only [tZ,↓un_u,simprocAttr,beq_iff_eq,beq_eq_false_iff_ne]
 refine ⟨by omega,fun h2=>?_,fun h2=>?_⟩
 ·rw [if_pos h2]
  obtain ⟨d1,d2⟩:=hcd h2
  obtain ⟨d3,d4⟩:=hk.2.2.2.1 h2
  have hgl:s.lists.getD x.list.toNat default = s.lists[x.list.toNat]:=qj d1
  rw [hgl] at d2 ⊢
  obtain ⟨_,d5,d6⟩:=jd d2
  refine C1.im hho (by rfl) (by rfl) ?_
  simp only [tZ,↓un_u,simprocAttr,Bool.not_eq_true',Bool.not_eq_false']
  refine ⟨fun h3=>?_,fun h3=>?_⟩
  ·rw [if_pos h3]
   exact .oA [] []
  rw [if_neg (by rw [h3];simp)]
  simp only [tZ,↓un_u,simprocAttr,qd d1]
  generalize s.lists[x.list.toNat] = l at d2 d5 d6 ⊢
  refine ⟨by omega,?_⟩
  refine C1.im (qM2 l v lev (by omega)) (by rfl) (by rfl) ?_
  refine sW ?_
  exact .oA [] []
 rw [if_neg h2]
 rw [if_neg h2] at hfin
 refine C2.im (fun _=>jk v (-1000000) 1000000) (fun _=>rfl) (by rfl) ?_
 simp only [tZ,↓un_u,simprocAttr,tD,bne_iff_ne,bne_eq_false_iff_eq,Bool.not_eq_true',Bool.not_eq_false',beq_iff_eq,beq_eq_false_iff_ne]
 rw [show (-1099511627776:Int) = Yx from rfl]
 refine ⟨fun h3=>?_,fun h3=>?_⟩
 ·rw [if_pos h3]
  exact .oA [] []
 rw [if_neg (by grind)]
 refine ⟨fun h4=>?_,fun h4=>?_⟩
 ·rw [if_pos h4]
  exact .oA [] []
 rw [if_neg h4]
 refine ⟨fun h5=>?_,fun h5=>?_⟩
 ·rw [if_pos h5]
  exact .oA [] []
 rw [if_neg h5]
 have hv:inB v (-1000000) 1000000 = true:=by grind
 rw [qh4] at hv
 obtain ⟨w1,w2,w3,w4,_⟩:=hwd h2 lev (by omega)
 have hfm:=zh5 (v:=v) (w:=zH x lev) (by omega)
 have hw:IntKind.i64.wrap (jW v (zH x lev) * zH x lev) = jW v (zH x lev) * zH x lev:=IntWalk.i64_in _ (by omega)
 refine C1.im (QA x lev (by omega) (by omega)) (by rfl) (by rfl) ?_
 refine sW ?_
 refine C1.im (qh1 v (zH x lev) (by omega) (by omega)) (by rfl) (by rfl) ?_
 simp only [tZ,↓un_u,simprocAttr,hw]
 exact .oA [] []
theorem Jw (s:Sch) (hok:SchOk s) (i:Nat) (hi:i < s.cols.length) (h2:(qu s i).kind = 2):Spc Tryz.prog kF [schT s,vI i] [] (vIs (ja s i)) []:=by
 have hat:qu s i = s.cols[i]:=by rw [qu,qj hi]
 obtain ⟨d1,d2⟩:=hok.cdl hi h2
 obtain ⟨d3,d4⟩:=(jv (hok.cs i hi)).2.2.2.1 h2
 have hcl:zG s i = s.lists.getD s.cols[i].list.toNat default:=by rw [zG,hat]
 rw [hcl] at d2
 rw [hat] at d1 d3 d4
 have hgl:s.lists.getD s.cols[i].list.toNat default = s.lists[s.cols[i].list.toNat]:=qj d1
 rw [hgl] at d2
 obtain ⟨_,d5,d6⟩:=jd d2
 rw [ja,hcl,hgl]
 have hlv:=qU7 (l:=s.lists[s.cols[i].list.toNat])
 have hw2:IntKind.i64.wrap (yY s.lists[s.cols[i].list.toNat] - 1) = yY s.lists[s.cols[i].list.toNat] - 1:=IntWalk.i64_in _ (by omega)
 refine qe qx2 mixm (by simp) fun e _ hst=>qh ?_
 unfold Zd
 simp only [tZ,↓un_u,simprocAttr,Int.toNat_natCast,qd hi,qd d1]
 refine ⟨by omega,by omega,by kernel_rfl,?_⟩
 refine C1.im (Jv _ (by omega)) (by rfl) (by rfl) ?_
 simp only [tZ,↓un_u,simprocAttr,hw2]
 refine C1.im (zF0 _ _ (by omega)) (by rfl) (by rfl) ?_
 refine sW ?_
 refine ⟨by kernel_rfl,?_⟩
 exact .oA [] []
theorem qo7 (s:Sch) (hs:KJ s) (p:Pk):Spc Tryz.prog Zy [schT s,pkT p] [] (vI (Wb s p)) []:=by
 refine qe qS9 mixm (by simp) fun e _ hst=>qh ?_
 unfold KA
 refine sW ?_
 refine C1.im (zS s hs) (by rfl) (by rfl) ?_
 simp only [tZ,↓un_u,simprocAttr,tD,bne_iff_ne,bne_eq_false_iff_eq]
 refine ⟨fun h=>?_,fun h=>⟨fun h2=>?_,fun h2=>?_⟩⟩
 ·rw [Wb,if_pos h]
  exact .oA [] []
 ·rw [Wb,if_neg (by rw [h];simp),if_pos (by omega)]
  exact .oA [] []
 rw [Wb,if_neg (by rw [h];simp),if_neg (by omega)]
 refine C1.im (kH s hs p.col) (by rfl) (by rfl) ?_
 refine sW ?_
 refine C1.im (jk p.lev 0 (finI s p.col)) (by rfl) (by rfl) ?_
 simp only [tZ,↓un_u,simprocAttr,Bool.not_eq_true',Bool.not_eq_false']
 refine ⟨by kernel_rfl,fun h3=>?_,fun h3=>?_⟩
 ·rw [if_pos h3]
  exact .oA [] []
 ·rw [if_neg (by rw [h3];simp)]
  exact .oA [] []
theorem qh5 (s:Sch) (hs:KJ s) (l:List Pk) (hl:l.length < 4611686018427387904):Spc Tryz.prog Qp [schT s,vPs l] [] (vI (WQ s l)) []:=by
 refine qe qF1 mixm (by simp) fun e _ hst=>qh ?_
 unfold Jf
 refine sW ?_
 refine C1.im (zS s hs) (by rfl) (by rfl) ?_
 simp only [tZ,↓un_u,simprocAttr,bne_iff_ne,bne_eq_false_iff_eq]
 refine ⟨fun h=>?_,fun hE=>?_⟩
 ·rw [WQ,if_pos h]
  exact .oA [] []
 rw [WQ,if_neg (by rw [hE];simp)]
 refine qr mixm (α:=Nat) [6] (fun i=>i≤l.length∧(jw (zh3 s l) i = 0)) (fun i=>[(6,vI i)]) (fun i=>[(4096,.arr 2 [schT s] false)]) (fun i=>l.length - i) 0 ⟨by omega,?_⟩ ?_ fun i hi=>?_
 ·rfl
 ·exact .oA [(4096,some 4096)] []
 simp only [tZ,↓un_u,simprocAttr,decide_eq_true_eq,decide_eq_false_iff_not]
 refine ⟨fun h=>?_,fun h=>?_⟩
 ·have hi2:i < l.length:=by omega
  have hpi:pkAt l i = l[i]:=by rw [pkAt,qj hi2]
  have hstep:=JN hi.2 hi2
  have hnext:=kZ hi.2
  have hA:zh3 s l i = if Wb s l[i]≠0 then Wb s l[i] else if 0 < i∧l[i].col≤(pkAt l (i - 1)).col then 10 else 0:=by rw [zh3,hpi]
  have hi2:i < l.length:=by omega
  have hwi:=qg (i:=i) (by omega)
  simp only [tZ,↓un_u,simprocAttr,Int.toNat_natCast,qd hi2,hwi]
  refine ⟨by omega,?_⟩
  refine C1.im (qo7 s hs l[i]) (by rfl) (by rfl) ?_
  simp only [tZ,↓un_u,simprocAttr,bne_iff_ne,bne_eq_false_iff_eq]
  refine ⟨by kernel_rfl,fun h3=>?_,fun h3=>?_⟩
  ·rw [if_pos h3] at hA
   rw [hstep (by rw [hA];exact h3),hA]
   exact .oA [] []
  rw [if_neg (by rw [h3];simp)] at hA
  rcases Nat.eq_zero_or_pos i with h0 | h0
  ·subst h0
   rw [if_neg (by omega)] at hA
   have hz:((0:Nat):Int) = 0:=rfl
   have hz2:(IntKind.i64.wrap (-1)).toNat = 0:=by decide
   have hz3:=qg (i:=0) (by omega)
   rw [hz] at hz3
   simp only [tZ,↓un_u,simprocAttr,Int.toNat_natCast,hz,beq_self_eq_true,gt_iff_lt,Int.lt_irrefl,Bool.true_and,hz2,qd hi2,hz3]
   refine ⟨by kernel_rfl,1,⟨by omega,by rw [hnext,hA]⟩,by omega,?_⟩
   exact .oA [(4096,some 4096)] []
  ·obtain ⟨k,rfl⟩:∃ k,i = k + 1:=⟨i - 1,by omega⟩
   have hk3:k < l.length:=by omega
   have e2:decide (((k + 1:Nat):Int) > 0) = true:=decide_eq_true (by omega)
   have e3:=zk (i:=k + 1) (by omega) (by omega)
   rw [Nat.add_sub_cancel] at e3 hA
   rw [pkAt,qj hk3] at hA
   simp only [tZ,↓un_u,simprocAttr,Int.toNat_natCast,qd hi2,qd hk3,e2,e3,hwi,tD]
   refine ⟨by omega,by omega,by kernel_rfl,fun h4=>?_,fun h4=>?_⟩
   ·rw [if_pos ⟨by omega,h4⟩] at hA
    rw [hstep (by rw [hA];simp),hA]
    exact .oA [] []
   ·rw [if_neg (by omega)] at hA
    refine ⟨k + 2,⟨by omega,by rw [hnext,hA]⟩,by omega,?_⟩
    exact .oA [(4096,some 4096)] []
 ·have hi2:i = l.length:=by omega
  subst hi2
  rw [hi.2]
  exact .oA [] []
theorem jf8 {x y:Pk}:eqPk x y = true↔x = y:=by
 cases x;cases y
 simp [eqPk]
theorem zF1 {a b:List Pk}:yH a b = true↔a = b:=qe3 fun x y=>jf8
theorem JP (a b:List Pk) (ha:a.length < 4611686018427387904):Spc Tryz.prog jZ [vPs a,vPs b] [] (vB (yH a b)) []:=by
 refine qe qf0 mixm (by simp) fun e _ hst=>qh ?_
 unfold wH
 simp only [tZ,↓un_u,simprocAttr,bne_iff_ne,bne_eq_false_iff_eq]
 refine ⟨fun h=>?_,fun h=>?_⟩
 ·rw [yH,Ye (by omega)]
  exact .oA [] []
 have hl:a.length = b.length:=by omega
 refine qr mixm (α:=Nat) [5] (fun i=>i≤a.length∧(yH (a.take i) (b.take i) = true)) (fun i=>[(5,vI i)]) (fun i=>[]) (fun i=>a.length - i) 0 ⟨by omega,?_⟩ ?_ fun i hi=>?_
 ·rfl
 ·exact .oA [] []
 simp only [tZ,↓un_u,simprocAttr,decide_eq_true_eq,decide_eq_false_iff_not]
 refine ⟨fun h=>?_,fun h=>?_⟩
 ·have hib:i < b.length:=by omega
  have hi2:i < a.length:=by omega
  have hwi:=qg (i:=i) (by omega)
  simp only [tZ,↓un_u,simprocAttr,Int.toNat_natCast,qd hi2,hwi,qd hib]
  rw [show (a[i].col == b[i].col && a[i].lev == b[i].lev) = eqPk a[i] b[i] from rfl]
  refine ⟨by omega,by omega,by kernel_rfl,fun h3=>?_,fun h3=>⟨i + 1,⟨by omega,?_⟩,by omega,?_⟩⟩
  ·rw [yH,QM (i:=i) hl (by omega) h3]
   exact .oA [] []
  ·rw [yH,QE hi2 hib,← yH,hi.2]
   simpa using h3
  ·exact .oA [] []
 ·have hi2:i = a.length:=by omega
  subst hi2
  have h3:=hi.2
  rw [List.take_length,List.take_of_length_le (by omega)] at h3
  rw [h3]
  exact .oA [] []
end Go.Proofs
