/- A part of the proof: trees of Go values, short forms, contracts. -/
import Derived.WalkKit
import Derived.Still
import Derived.MapKept
import GoSem.Builtin.Cap
import Derived.Laws.Externs
import GoSem.Extern.SlicesOverlaps
import Derived.Carry
import Derived.ProofKit
import Derived.OpenShut
import Derived.HandedShaped
import Derived.Lay
import Derived.LaidLaws
import Derived.MakeChecks
import Derived.SevenTiedAt
import Derived.Test.YtiddpnhnaooohaaGreatDoorChecked
import Derived.Test.YtiddpnhnaooohaaGreatDoorK16
set_option linter.unusedSimpArgs false
set_option linter.unusedVariables false
namespace Go.Proofs
open Go Go.TL
set_option maxRecDepth 4000
set_option maxHeartbeats 8000000
theorem qu8 {cs:List Cod}:∀ {n:Nat} {v:Int},lvs cs n = some v→∀ j,j < n→qc7 cs j = true→(dep cs j:Int) = v
 | 0,_,_,j,h,_=>by omega
 | n + 1,v,h,j,hj,hl=>by
   rw [qu7] at h
   cases e:lvs cs n with
   | none=>rw [e] at h;cases h
   | some w=>
     rw [e] at h
     have ih:=fun k hk h2=>qu8 e k hk h2
     unfold lvS at h
     dsimp only at h
     split at h
     ·split at h
      ·cases h
      ·rename_i h2
       have hv:(dep cs n:Int) = v:=by simpa using h
       by_cases e2:j = n
       ·rw [e2];exact hv
       ·have:=ih j (by omega) hl
        omega
     ·rename_i h2
      have hv:w = v:=by simpa using h
      by_cases e2:j = n
      ·rw [e2] at hl;exact absurd hl h2
      ·have:=ih j (by omega) hl
       omega
theorem qS7 {cs:List Cod} {c:Nat}:qc7 cs c = true↔∀ i,i < cs.length→parC cs i≠c:=by
 unfold qc7
 rw [Bool.not_eq_true',List.any_eq_false]
 constructor
 ·intro h i hi e
  have:=h cs[i] (List.getElem_mem hi)
  rw [parC,cdAt,qk hi] at e
  simp [e] at this
 ·intro h x hx
  obtain ⟨i,hi,rfl⟩:=List.getElem_of_mem hx
  have:=h i hi
  rw [parC,cdAt,qk hi] at this
  simpa using this
theorem zY8 {l:CodL} (h:lstE l = 0):∃ v,lvs l.codes l.codes.length = some v:=by
 unfold lstE at h
 split at h
 ·cases h
 ·split at h
  ·cases h
  ·split at h
   ·cases h
   ·split at h
    ·rename_i h2;exact absurd h h2
    ·split at h
     ·cases h
     ·rename_i v e;exact ⟨v,e⟩
theorem zl5 {l:CodL} (h:lstE l = 0) {c:Nat} (hc:c < l.codes.length):(dep l.codes c:Int)≤zk l - 1∧(qc7 l.codes c = true→(dep l.codes c:Int) = zk l - 1)∧(qc7 l.codes c = false→(dep l.codes c:Int) < zk l - 1):=by
 obtain ⟨hp,h1,h2⟩:=zc h
 obtain ⟨v,hv⟩:=zY8 h
 have hlast:qc7 l.codes (l.codes.length - 1) = true:=qS7.2 fun i hi e=>by
  have:=(hp i hi).2
  omega
 have hlv:=qu8 hv (l.codes.length - 1) (by omega) hlast
 have hL:zk l - 1 = v:=by rw [zk,if_neg (by rw [h];simp)];omega
 have hall:∀ k c,l.codes.length - c = k→c < l.codes.length→(dep l.codes c:Int)≤v∧(qc7 l.codes c = false→(dep l.codes c:Int) < v):=by
  intro k
  induction k using Nat.strongRecOn with
  | _ k ih=>
    intro c hk hc
    cases hl:qc7 l.codes c with
    | true=>
      have:=qu8 hv c hc hl
      exact ⟨by omega,fun e=>by cases e⟩
    | false=>
      have hn:¬ ∀ i,i < l.codes.length→parC l.codes i≠c:=fun k=>by rw [qS7.2 k] at hl;cases hl
      simp only [Classical.not_forall] at hn
      obtain ⟨i,hi,hn⟩:=hn
      have hpc:parC l.codes i = c:=Classical.byContradiction hn
      have h3:=hp i hi
      have h4:=qo2 hp hi (by omega)
      rw [hpc,Int.toNat_natCast] at h4
      have h5:=ih (l.codes.length - i) (by omega) i rfl hi
      have:=h5.1
      exact ⟨by omega,fun _=>by omega⟩
 have:=hall _ c rfl hc
 rw [hL]
 exact ⟨this.1,fun hl=>qu8 hv c hc hl,this.2⟩
theorem zY9 {l:CodL} (h:lstE l = 0) {c:Nat} (hc:c < l.codes.length):qc7 l.codes c = true↔(dep l.codes c:Int) = zk l - 1:=by
 obtain ⟨_,h2,h3⟩:=zl5 h hc
 cases hl:qc7 l.codes c with
 | true=>exact ⟨fun _=>h2 hl,fun _=>rfl⟩
 | false=>
   have:=h3 hl
   exact ⟨(by intro e;cases e),fun e=>by omega⟩
theorem KO (p:Cod→Bool) (f:FuncId) (caps:List T) (hcap:imL caps = true) (l:List Cod) (hf:∀ y∈l,Spc Tryz.prog f (codT y :: caps) [] (vB (p y)) []) (hl:l.length < 4611686018427387904) :
 Spc Tryz.prog jA [.sl 2 (l.map codT),.clo f caps] [] (vI (idxI p l)) []:=by
 refine qd JS mixm (by simp) fun e _ hst=>qg ?_
 unfold js
 refine sW ?_
 refine qw mixm (α:=Nat) [8] (fun i=>i≤l.length∧((l.take i).any p = false)) (fun i=>[(8,vI i)]) (fun i=>[]) (fun i=>l.length - i) 0 ⟨by omega,?_⟩ ?_ fun i hi=>?_
 ·simp
 ·exact .oA [] []
 simp only [tZ,↓un_u,simprocAttr,decide_eq_true_eq,decide_eq_false_iff_not]
 refine ⟨fun h=>?_,fun h=>?_⟩
 ·have hi2:i < l.length:=by omega
  have hwi:=qj (i:=i) (by omega)
  simp only [tZ,↓un_u,simprocAttr,Int.toNat_natCast,qe hi2,hwi,ql7]
  refine ⟨by omega,?_⟩
  refine C1.im (hf l[i] (List.getElem_mem hi2)) (qf4 rfl hcap) rfl ?_
  refine sW ?_
  refine ⟨fun h3=>?_,fun h3=>⟨i + 1,⟨by omega,zY hi2 hi.2 h3⟩,by omega,?_⟩⟩
  ·rw [idxI,if_pos (qf3 hi2 h3),JJ hi2 hi.2 h3]
   exact .imR rfl rfl
  ·exact .oA [] []
 ·have h2:i = l.length:=by omega
  have h3:=hi.2
  rw [h2,List.take_length] at h3
  rw [idxI,if_neg (by rw [h3];simp)]
  exact .imR rfl rfl
theorem ZI (p:Cod→Bool) (f:FuncId) (caps:List T) (hcap:imL caps = true) (l:List Cod) (hf:∀ y∈l,Spc Tryz.prog f (codT y :: caps) [] (vB (p y)) []) (hl:l.length < 4611686018427387904) :
 Spc Tryz.prog zR [.sl 2 (l.map codT),.clo f caps] [] (vB (l.any p)) []:=by
 refine qd Zx mixm (by simp) fun e _ hst=>qg ?_
 unfold zM
 refine sW ?_
 refine C1.im (KO p f caps hcap l hf hl) (qu6 rfl hcap) rfl ?_
 refine sW ?_
 rw [show decide (idxI p l≥0) = l.any p from qQ4 p l]
 exact .imR rfl rfl
theorem qB7 (x:Cod) (v:Int):Spc Tryz.prog wX [codT x,.ip [vI v]] [] (vB (x.par == v)) []:=by
 refine qd qt1 mixm (by simp) fun e _ hst=>qg ?_
 unfold Qu
 refine sW ?_
 exact .oA [] []
theorem zQ4 {l:CodL} (h:lstE l = 0) (v:Int):(decide (0≤v) && decide (v < l.codes.length) && !(l.codes.any fun x=>x.par == v)) = (inB v 0 (l.codes.length - 1) && (lvlC l v == zk l - 1)):=by
 unfold inB
 by_cases h0:0≤v∧v < l.codes.length
 ·obtain ⟨c,rfl⟩:=Int.eq_ofNat_of_zero_le h0.1
  have hc:c < l.codes.length:=by omega
  have h1:lvlC l c = dep l.codes c:=by rw [lvlC,if_neg (by rw [h];simp;omega),Int.toNat_natCast]
  rw [decide_eq_true h0.1,decide_eq_true h0.2,decide_eq_true (show (c:Int)≤(l.codes.length:Int) - 1 by omega),h1]
  simp only [Bool.true_and]
  rw [Bool.eq_iff_iff,beq_iff_eq,← zY9 h hc]
  rfl
 ·by_cases h1:0≤v
  ·rw [decide_eq_true h1,decide_eq_false (show ¬ v < l.codes.length by omega),decide_eq_false (show ¬ v≤(l.codes.length:Int) - 1 by omega)]
   rfl
  ·rw [decide_eq_false h1]
   rfl
theorem qS8 (s:Sch) (h:SchOk s) (i:Nat) (hi:i < s.cols.length) (v:Int):Spc Tryz.prog Kt [schT s,colT s.cols[i],vI v] [] (vB (zN s i v)) []:=by
 have hat:qh s i = s.cols[i]:=by rw [qh,qk hi]
 have hk:=za (h.cs i hi)
 have hcd:=fun e=>h.cdl hi e
 have hE:zN s i v = if s.cols[i].kind = 1 then inB v 1 1048575
  else if s.cols[i].kind = 2 then inB v 0 ((qH s i).codes.length - 1) && (lvlC (qH s i) v == zk (qH s i) - 1)
  else (s.cols[i].opt && (v == kT)) || inB v s.cols[i].low s.cols[i].high:=by rw [zN,hat]
 have hcl:qH s i = s.lists.getD s.cols[i].list.toNat default:=by rw [qH,hat]
 rw [hat] at hk hcd
 rw [hE]
 rw [hcl] at hcd ⊢
 generalize s.cols[i] = c at hk hcd ⊢
 refine qd qI1 mixm (by simp) fun e _ hst=>qg ?_
 unfold Jq
 refine sW ?_
 simp only [tZ,↓un_u,simprocAttr,beq_iff_eq,beq_eq_false_iff_ne]
 refine ⟨fun h1=>?_,fun h1=>⟨fun h2=>?_,fun h2=>?_⟩⟩
 ·rw [if_pos h1,show inB v 1 1048575 = (decide (1≤v) && decide (v≤1048575)) from rfl]
  exact .oA [] []
 ·obtain ⟨d1,d2⟩:=hcd h2
  obtain ⟨d3,d4⟩:=hk.2.2.2.1 h2
  have hgl:s.lists.getD c.list.toNat default = s.lists[c.list.toNat]:=qk d1
  rw [if_neg h1,if_pos h2]
  rw [hgl] at d2 ⊢
  obtain ⟨_,d5,d6⟩:=zc d2
  simp only [tZ,↓un_u,simprocAttr,qe d1]
  generalize s.lists[c.list.toNat] = l at d2 d5 d6 ⊢
  have hCF:=ZI (fun x=>x.par == v) wX [.ip [vI v]] rfl l.codes (fun x _=>qB7 x v) (by omega)
  refine ⟨by omega,?_⟩
  refine C2.lend [4104] (fun _=>hCF) (fun _=>?_) (by rfl) (by rfl) ?_
  ·all_goals (try simp only [tL,simprocAttr,List.map_append,List.map_cons,List.map_nil,List.cons_append,List.nil_append])
   all_goals (try (repeat' (first | exact qT | (apply zj;intro _;exact ⟨rfl,rfl⟩) | (apply qz;intro _;exact ⟨rfl,rfl⟩) | with_reducible apply qJ | with_reducible refine qM ⟨rfl,rfl⟩ ?_ | exact qW | with_reducible apply qE | with_reducible refine qK ⟨rfl,rfl,?_⟩ ?_ | with_reducible apply And.intro | exact qG rfl | exact qG (by assumption) | (refine ⟨⟨?_,rfl,?_,rfl,?_⟩,trivial⟩ <;> first | (simp;done) | (apply qz;intro _;exact ⟨rfl,rfl⟩)) | trivial | rfl | (rw [qj (by omega)]) | omega)))
   simp only [ltP]
   exact ⟨rfl,by decide,rfl,qM ⟨rfl,rfl⟩ qW⟩
  refine sW ?_
  rw [← zQ4 d2 v]
  exact .oA [] []
 ·rw [if_neg h1,if_neg h2,Bool.or_comm,show inB v c.low c.high = (decide (c.low≤v) && decide (v≤c.high)) from rfl]
  rw [show (c.opt && v == kT) = (c.opt && v == -1099511627776) from rfl]
  exact .oA [] []
end Go.Proofs
namespace Go.Proofs
open Go Go.TL
set_option maxRecDepth 4000
set_option maxHeartbeats 8000000
theorem qt6 (l:List Int) (m:Int) (hm:m∈l) (hle:∀ x∈l,x≤m) (hl:l.length < 4611686018427387904):Spc Tryz.prog Qi [vIs l] [] (vI m) []:=by
 have h0:0 < l.length:=List.length_pos_of_mem hm
 have e0:decide ((l.length:Int) < 1) = false:=decide_eq_false (by omega)
 refine qd qn9 mixm (by simp) fun e _ hst=>qg ?_
 unfold yL
 simp only [tZ,↓un_u,simprocAttr,e0,qe h0]
 refine ⟨by omega,?_⟩
 refine qw mixm (α:=Nat×Int) [3,4] (fun q=>1≤q.1∧q.1≤l.length∧q.2∈l∧∀ x∈l.take q.1,x≤q.2) (fun q=>[(3,vI q.2),(4,vI q.1)]) (fun q=>[]) (fun q=>l.length - q.1) (1,l[0]) ⟨by simp,by dsimp only;omega,List.getElem_mem h0,fun x hx=>by
  rw [show l.take 1 = [l[0]] by cases l with | nil=>simp at h0 | cons a r=>rfl,List.mem_singleton] at hx
  rw [hx];exact Int.le_refl _⟩ ?_ fun q hq=>?_
 ·exact .oA [] []
 obtain ⟨i,v⟩:=q
 obtain ⟨i0,i1,i2,i3⟩:=hq
 dsimp only at i0 i1 i2 i3
 refine sD ?_
 refine ⟨fun h2=>?_,fun h2=>?_⟩
 ·have hi2:i < l.length:=by omega
  have hwi:=qj (i:=i) (by omega)
  simp only [tZ,↓un_u,simprocAttr,Int.toNat_natCast,qe hi2,hwi]
  refine ⟨by omega,(i + 1,maxI v l[i]),⟨by dsimp only;omega,by dsimp only;omega,?_,fun x hx=>?_⟩,by dsimp only;omega,?_⟩
  ·dsimp only [maxI]
   split
   ·exact List.getElem_mem hi2
   ·exact i2
  ·dsimp only at hx
   dsimp only [maxI]
   rw [qR hi2] at hx
   rcases List.mem_append.1 hx with k | k
   ·have:=i3 x k
    split <;> omega
   ·rw [List.mem_singleton.1 k]
    split <;> omega
  ·exact .oA [] []
 ·have hv:v = m:=by
   have h5:=hle v i2
   have h6:=i3 m (by rw [List.take_of_length_le (by omega)];exact hm)
   omega
  rw [hv]
  exact .oA [] []
theorem Jz (l:CodL):Spc Tryz.prog kX [cdlT l] [] (vI (zk l)) []:=by
 refine qd qA3 mixm (by simp) fun e _ hst=>qg ?_
 unfold Zq
 refine sW ?_
 refine C1.im (QN l) (by rfl) (by rfl) ?_
 simp only [tZ,↓un_u,simprocAttr,bne_iff_ne,bne_eq_false_iff_eq]
 refine ⟨fun h=>?_,fun h=>?_⟩
 ·rw [zk,if_pos h]
  exact .oA [] []
 obtain ⟨hp,h1,h2⟩:=zc h
 have hdl:=Yu l.codes
 have hL:zk l = (dep l.codes (l.codes.length - 1):Int) + 1:=by rw [zk,if_neg (by rw [h];simp)]
 have hd:=qr1 hp (l.codes.length - 1) (by omega)
 have hM:=qt6 (depL l.codes) (dep l.codes (l.codes.length - 1)) (List.mem_map.2 ⟨l.codes.length - 1,List.mem_range.2 (by omega),rfl⟩) (fun x hx=>by
  obtain ⟨c,hc,rfl⟩:=List.mem_map.1 hx
  have:=(zl5 h (List.mem_range.1 hc)).1
  omega) (by omega)
 have hw:=qj (i:=dep l.codes (l.codes.length - 1)) (by omega)
 refine C1.im (kZ l (qi9 h)) (by rfl) (by rfl) ?_
 refine sW ?_
 refine C1.im hM (by rfl) (by rfl) ?_
 simp only [tZ,↓un_u,simprocAttr,hw]
 rw [hL]
 exact .oA [] []
def hasB (l:CodL) (c:Int):Bool:=decide (0≤c) && decide (c < l.codes.length) && (lstE l == 0)
theorem qc9 (l:CodL) (c:Int):Spc Tryz.prog Zd [cdlT l,vI c] [] (vB (hasB l c)) []:=by
 refine qd zd5 mixm (by simp) fun e _ hst=>qg ?_
 unfold Ya
 refine sW ?_
 refine C2.im (fun _=>QN l) (fun _=>rfl) (by rfl) ?_
 refine sW ?_
 rw [show hasB l c = (decide (0≤c) && decide (c < l.codes.length) && (lstE l == 0)) from rfl]
 exact .oA [] []
theorem qj2 {l:CodL} {c:Int}:hasB l c = true↔0≤c∧c < l.codes.length∧lstE l = 0:=by
 unfold hasB
 rw [Bool.and_eq_true,Bool.and_eq_true,decide_eq_true_eq,decide_eq_true_eq,beq_iff_eq,and_assoc]
theorem qS9 {cs:List Cod} {c:Nat} (h:c < (depL cs).length):(depL cs)[c] = dep cs c:=by simp [depL]
theorem qo3 (l:CodL) (lev:Int):Spc Tryz.prog JK [cdlT l,vI lev] [] (vIs (atL l lev)) []:=by
 refine qd zk7 mixm (by simp) fun e _ hst=>qg ?_
 unfold qb9
 refine sW ?_
 refine C1.im (QN l) (by rfl) (by rfl) ?_
 simp only [tZ,↓un_u,simprocAttr,bne_iff_ne,bne_eq_false_iff_eq]
 refine ⟨fun h=>?_,fun h=>?_⟩
 ·rw [atL,if_pos h]
  exact .oA [] []
 obtain ⟨hp,h1,h2⟩:=zc h
 have e:atL l lev = atN l.codes lev l.codes.length:=by rw [atL,if_neg (by rw [h];simp)];rfl
 rw [e]
 have hdl:=Yu l.codes
 refine C1.im (kZ l (qi9 h)) (by rfl) (by rfl) ?_
 refine sW ?_
 refine qw mixm (α:=Nat) [5,14] (fun i=>i≤l.codes.length) (fun i=>[(5,.asl 1 (atN l.codes lev i).length),(14,vI i)]) (fun i=>[(1,.arr 1 ((atN l.codes lev i).map vI) false)]) (fun i=>l.codes.length - i) 0 (by omega) ?_ fun i hi=>?_
 ·simp only [atN,List.range_zero,List.filter_nil,List.map_nil,List.length_nil]
  exact .oA [(1,none)] []
 have hli:=zP5 l.codes lev i
 refine sD ?_
 refine ⟨fun h3=>?_,fun h3=>?_⟩
 ·have hi2:i < (depL l.codes).length:=by omega
  have hwi:=qj (i:=i) (by omega)
  have hs:=zu9 l.codes lev i
  simp only [tZ,↓un_u,simprocAttr,Int.toNat_natCast,qe hi2,qS9 hi2,beq_iff_eq,beq_eq_false_iff_ne,hwi]
  refine ⟨by omega,fun h4=>?_,fun h4=>?_⟩
  ·rw [if_pos h4] at hs
   refine ⟨by omega,i + 1,by omega,by omega,?_⟩
   rw [hs]
   exact .oA [(1,some 1)] []
  ·rw [if_neg h4,List.append_nil] at hs
   refine ⟨i + 1,by omega,by omega,?_⟩
   rw [hs]
   exact .oA [(1,some 1)] []
 ·have hil:i = l.codes.length:=by omega
  subst hil
  exact .oA [] [1]
theorem Yv (l:CodL) (c lev:Int):Spc Tryz.prog QW [cdlT l,vI c,vI lev] [] (vI (upC l c lev)) []:=by
 refine qd zk9 mixm (by simp) fun e _ hst=>qg ?_
 unfold qc0
 refine sW ?_
 refine C1.im (qc9 l c) (by rfl) (by rfl) ?_
 simp only [tZ,↓un_u,simprocAttr,tD,Bool.not_eq_true',Bool.not_eq_false']
 refine ⟨fun h=>?_,fun h=>?_⟩
 ·have:upC l c lev = -1:=by
   rw [upC]
   by_cases k:lstE l≠0∨c < 0∨c≥l.codes.length∨lev < 0∨lev > dep l.codes c.toNat
   ·rw [if_pos k]
   ·rcases h with h | h
    ·have:=qj2 (l:=l) (c:=c)
     rw [h] at this
     exact absurd (this.2 ⟨by omega,by omega,Classical.byContradiction fun q=>k (.inl q)⟩) (by simp)
    ·omega
  rw [this]
  exact .oA [] []
 obtain ⟨h0,h1,h2⟩:=qj2.1 h.1
 obtain ⟨hp,h3,h4⟩:=zc h2
 obtain ⟨k,rfl⟩:=Int.eq_ofNat_of_zero_le h0
 obtain ⟨v,rfl⟩:=Int.eq_ofNat_of_zero_le (show 0≤lev by omega)
 have hdl:=Yu l.codes
 have hk:k < (depL l.codes).length:=by omega
 have hdk:=qr1 hp k (by omega)
 refine C1.im (kZ l (qi9 h2)) (by rfl) (by rfl) ?_
 simp only [tZ,↓un_u,simprocAttr,Int.toNat_natCast,qe hk,qS9 hk]
 refine ⟨by omega,?_⟩
 by_cases hlv:dep l.codes k < v
 ·have hU:upC l k v = -1:=by rw [upC,if_pos (by simp;omega)]
  rw [hU]
  refine qw mixm (α:=Unit) [1,7] (fun _=>True) (fun _=>[(1,vI k),(7,vI (dep l.codes k))]) (fun _=>[(4096,.arr 2 [cdlT l] false)]) (fun _=>0) () trivial ?_ fun _ _=>?_
  ·exact .oA [(4096,some 4096)] []
  have e0:decide ((dep l.codes k:Int)≥(v:Int)) = false:=decide_eq_false (by omega)
  have e1:decide ((v:Int)≤(dep l.codes k:Int)) = false:=decide_eq_false (by omega)
  simp only [tZ,↓un_u,simprocAttr,e0,e1]
  exact .oA [] []
 have hU:upC l k v = upF l.codes v (k + 1) k:=by rw [upC,if_neg (by simp;omega),Int.toNat_natCast,Int.toNat_natCast]
 rw [hU]
 refine qw mixm (α:=Nat) [1,7] (fun x=>x < l.codes.length∧v≤dep l.codes x∧upF l.codes v (k + 1) k = upF l.codes v (x + 1) x) (fun x=>[(1,vI x),(7,vI (dep l.codes x))]) (fun x=>[(4096,.arr 2 [cdlT l] false)]) (fun x=>x) k ⟨by omega,by omega,rfl⟩ ?_ fun x hx=>?_
 ·exact .oA [(4096,some 4096)] []
 obtain ⟨x1,x2,x3⟩:=hx
 have hcd:l.codes[x].par = parC l.codes x:=by rw [parC,cdAt,qk x1]
 have e0:decide ((dep l.codes x:Int)≥(v:Int)) = true:=decide_eq_true (by omega)
 have e1:decide ((v:Int)≤(dep l.codes x:Int)) = true:=decide_eq_true (by omega)
 have hdx:=qr1 hp x x1
 simp only [tZ,↓un_u,simprocAttr,e0,e1,Int.toNat_natCast,qe x1,hcd,beq_iff_eq,beq_eq_false_iff_ne]
 refine ⟨fun h6=>?_,fun h6=>?_⟩
 ·rw [x3,zv0 (by omega)]
  exact .oA [] []
 ·obtain ⟨u1,u2,u3,u4⟩:=up_step hp (lev:=v) x1 (by omega)
  obtain ⟨p,hpe⟩:=Int.eq_ofNat_of_zero_le u1
  have hw:IntKind.i64.wrap ((dep l.codes x:Int) - 1) = (dep l.codes p:Int):=by
   rw [IntWalk.i64_in _ (by omega),u3,hpe,Int.toNat_natCast];omega
  rw [hpe,Int.toNat_natCast] at u4 u3
  simp only [tZ,↓un_u,simprocAttr,hpe,hw]
  refine ⟨by omega,p,⟨by omega,by omega,x3.trans u4⟩,by omega,?_⟩
  exact .oA [(4096,some 4096)] []
theorem qT0 (l:CodL) (c a:Int):Spc Tryz.prog Ku [cdlT l,vI c,vI a] [] (vB (Yb l c a)) []:=by
 refine qd qI5 mixm (by simp) fun e _ hst=>qg ?_
 unfold Js
 refine sW ?_
 refine C1.im (qc9 l c) (by rfl) (by rfl) ?_
 refine sW ?_
 refine C2.im (fun _=>qc9 l a) (fun _=>rfl) (by rfl) ?_
 simp only [tZ,↓un_u,simprocAttr,Bool.or_eq_true,Bool.or_eq_false_iff,Bool.not_eq_true',Bool.not_eq_false']
 refine ⟨fun h=>?_,fun h=>?_⟩
 ·have:Yb l c a = false:=by
   cases e:Yb l c a with
   | false=>rfl
   | true=>
     unfold Yb at e
     simp only [Bool.and_eq_true,decide_eq_true_eq,beq_iff_eq] at e
     obtain ⟨⟨e1,e2⟩,e3⟩:=e
     have key:∀ x,0≤lvlC l x→hasB l x = true:=fun x hx=>by
      rw [qj2]
      unfold lvlC at hx
      split at hx
      ·omega
      ·rename_i q
       exact ⟨by omega,by omega,Classical.byContradiction fun z=>q (.inl z)⟩
     have ha:=key a e1
     have hc:=key c (by omega)
     rcases h with h | h
     ·rw [hc] at h;cases h
     ·rw [ha] at h;cases h
  rw [this]
  exact .oA [] []
 obtain ⟨c0,c1,c2⟩:=qj2.1 h.1
 obtain ⟨a0,a1,_⟩:=qj2.1 h.2
 obtain ⟨hp,h3,h4⟩:=zc c2
 obtain ⟨k,rfl⟩:=Int.eq_ofNat_of_zero_le c0
 obtain ⟨j,rfl⟩:=Int.eq_ofNat_of_zero_le a0
 have hdl:=Yu l.codes
 have hj:j < (depL l.codes).length:=by omega
 have hdk:=qr1 hp k (by omega)
 have hdj:=qr1 hp j (by omega)
 have l1:lvlC l j = dep l.codes j:=by rw [lvlC,if_neg (by rw [c2];simp;omega),Int.toNat_natCast]
 have l2:lvlC l k = dep l.codes k:=by rw [lvlC,if_neg (by rw [c2];simp;omega),Int.toNat_natCast]
 have hU:Yb l k j = (upC l k (dep l.codes j) == (j:Int)):=by
  unfold Yb
  rw [l1,l2,decide_eq_true (by omega),Bool.true_and]
  by_cases q:(dep l.codes j:Int)≤dep l.codes k
  ·rw [decide_eq_true q,Bool.true_and]
  ·rw [decide_eq_false q,Bool.false_and,upC,if_pos (by simp;omega)]
   symm
   exact beq_eq_false_iff_ne.2 (by omega)
 rw [hU]
 refine C1.im (kZ l (qi9 c2)) (by rfl) (by rfl) ?_
 simp only [tZ,↓un_u,simprocAttr,Int.toNat_natCast,qe hj,qS9 hj]
 refine ⟨by omega,?_⟩
 refine C1.im (Yv l k (dep l.codes j)) (by rfl) (by rfl) ?_
 refine sW ?_
 repeat (first | refine ⟨by omega,?_⟩ | refine ⟨by kernel_rfl,?_⟩)
 exact .oA [] []
end Go.Proofs
namespace Go.Proofs
open Go Go.TL
namespace Cnd
mutual
theorem ind' {p:Cnd→Prop} (h:∀ c,(∀ k∈c.kids,p k)→p c):∀ c,p c
 | .mk _ _ _ _ _ ks=>h _ (inds h ks)
theorem inds {p:Cnd→Prop} (h:∀ c,(∀ k∈c.kids,p k)→p c):∀ ks:List Cnd,∀ k∈ks,p k
 | [],_,hk=>absurd hk (by simp)
 | x :: r,k,hk=>by
   rcases List.mem_cons.1 hk with e | hk
   ·rw [e];exact ind' h x
   ·exact inds h r k hk
end
end Cnd
mutual
def cntC:Cnd→Int→Int
 | .mk _ _ _ _ _ ks,m=>jV ks m 1
def jV:List Cnd→Int→Int→Int
 | [],_,n=>n
 | k :: r,m,n=>if n < m then jV r m (n + cntC k (m - n)) else n
end
theorem Qw (c:Cnd) (m:Int):cntC c m = jV c.kids m 1:=by cases c;rw [cntC];rfl
mutual
def depC:Cnd→Nat
 | .mk _ _ _ _ _ ks=>jG ks + 1
def jG:List Cnd→Nat
 | []=>0
 | k :: r=>max (depC k) (jG r)
end
theorem qo4 (c:Cnd):depC c = jG c.kids + 1:=by cases c;rw [depC];rfl
def isB (s:Sch) (col kind:Int):Bool:=decide (0≤col) && decide (col < s.cols.length) && ((qh s col.toNat).kind == kind)
def arC (op:Int):Nat:=if op = 5∨op = 6 then 2 else if op = 7 then 1 else 0
def ndE (s:Sch) (c:Cnd):Int:=
 if c.op < 1∨7 < c.op then 4
 else if c.kids.length≠arC c.op∨(c.op≠2∧c.op≠3∧c.op≠4∧c.col≠0)∨(c.op≠2∧c.code≠0)∨(c.op≠3∧(c.lo≠0∨c.hi≠0)) then 11
 else if (c.op = 2∧isB s c.col 2 = false)∨(c.op = 3∧isB s c.col 3 = false)∨(c.op = 4∧(isB s c.col 3 = false∨(qh s c.col.toNat).opt = false)) then 7
 else if c.op = 2∧(c.code < 0∨c.code≥(qH s c.col.toNat).codes.length) then 6
 else if c.op = 3∧(c.lo < -1000000∨c.hi > 1000000∨c.lo > c.hi) then 2 else 0
mutual
def nodE (s:Sch):Cnd→Int
 | .mk op col code lo hi ks=>if ndE s (.mk op col code lo hi ks)≠0 then ndE s (.mk op col code lo hi ks) else yq s ks
def yq (s:Sch):List Cnd→Int
 | []=>0
 | k :: r=>if nodE s k≠0 then nodE s k else yq s r
end
theorem qT1 (s:Sch) (c:Cnd):nodE s c = if ndE s c≠0 then ndE s c else yq s c.kids:=by cases c;rw [nodE];rfl
def chkC (s:Sch) (c:Cnd):Int:=if schE s≠0 then schE s else if cntC c 41 > 40 then 1 else if depC c > 10 then 22 else nodE s c
theorem ze5 {s:Sch}:∀ {l:List Cnd},yq s l = 0→∀ k∈l,nodE s k = 0
 | [],_,k,hk=>absurd hk (by simp)
 | x :: r,h,k,hk=>by
   rw [yq] at h
   split at h
   ·rename_i h1;exact absurd h h1
   ·rename_i h1
    rcases List.mem_cons.1 hk with e | hk
    ·rw [e];exact Classical.byContradiction h1
    ·exact ze5 h k hk
theorem jk5 {s:Sch} {c:Cnd} (h:nodE s c = 0):ndE s c = 0∧∀ k∈c.kids,nodE s k = 0:=by
 rw [qT1] at h
 split at h
 ·rename_i h1;exact absurd h h1
 ·rename_i h1
  exact ⟨Classical.byContradiction h1,ze5 h⟩
theorem zQ {s:Sch} {col kind:Int}:isB s col kind = true↔0≤col∧col < s.cols.length∧(qh s col.toNat).kind = kind:=by
 unfold isB
 simp only [Bool.and_eq_true,decide_eq_true_eq,beq_iff_eq,and_assoc]
structure NdOk (s:Sch) (c:Cnd):Prop where
 op:1≤c.op∧c.op≤7
 nk:c.kids.length = arC c.op
 under:c.op = 2→isB s c.col 2 = true∧0≤c.code∧c.code < (qH s c.col.toNat).codes.length
 between:c.op = 3→isB s c.col 3 = true∧-1000000≤c.lo∧c.hi≤1000000∧c.lo≤c.hi
 miss:c.op = 4→isB s c.col 3 = true∧(qh s c.col.toNat).opt = true
theorem jg3 {s:Sch} {c:Cnd} (h:ndE s c = 0):NdOk s c:=by
 unfold ndE at h
 split at h
 ·cases h
 rename_i h1
 split at h
 ·cases h
 rename_i h2
 split at h
 ·cases h
 rename_i h3
 split at h
 ·cases h
 rename_i h4
 split at h
 ·cases h
 rename_i h5
 refine ⟨by omega,Classical.byContradiction fun e=>h2 (.inl e),fun e=>⟨?_,by omega,by omega⟩,fun e=>⟨?_,by omega,by omega,by omega⟩,fun e=>⟨?_,?_⟩⟩
 ·cases e2:isB s c.col 2 with
  | true=>rfl
  | false=>exact absurd (.inl ⟨e,e2⟩) h3
 ·cases e2:isB s c.col 3 with
  | true=>rfl
  | false=>exact absurd (.inr (.inl ⟨e,e2⟩)) h3
 ·cases e2:isB s c.col 3 with
  | true=>rfl
  | false=>exact absurd (.inr (.inr ⟨e,.inl e2⟩)) h3
 ·cases e2:(qh s c.col.toNat).opt with
  | true=>rfl
  | false=>exact absurd (.inr (.inr ⟨e,.inr e2⟩)) h3
def isAt (c:Cnd):Bool:=(c.op == 2) || (c.op == 3) || (c.op == 4)
def tf (b:Bool):Int:=if b then 1 else -1
def zT (s:Sch) (c:Cnd) (v:Int):Int:=
 if c.op = 2 then tf (Yb (qH s c.col.toNat) v c.code)
 else if c.op = 3 then (if v = kT then 0 else tf (decide (c.lo≤v) && decide (v≤c.hi)))
 else if c.op = 4 then tf (v == kT) else -1
def js2 (op:Int) (ks:List Int):Int:=if op = 7 then - ks.getD 0 0 else if op = 5 then min (ks.getD 0 0) (ks.getD 1 0) else if op = 6 then max (ks.getD 0 0) (ks.getD 1 0) else 1
mutual
def evC (s:Sch) (row:List Int):Cnd→Int
 | .mk op col code lo hi ks=>if isAt (.mk op col code lo hi ks) = true then zT s (.mk op col code lo hi ks) (row.getD col.toNat 0) else js2 op (evCs s row ks)
def evCs (s:Sch) (row:List Int):List Cnd→List Int
 | []=>[]
 | k :: r=>evC s row k :: evCs s row r
end
def js3 (s:Sch) (c:Cnd) (row:List Int):Int:=if chkC s c≠0∨rowE s row≠0 then 0 else evC s row c
mutual
def atsC:Cnd→List Cnd
 | .mk op col code lo hi ks=>if isAt (.mk op col code lo hi ks) = true then [.mk op col code lo hi ks] else Qx ks
def Qx:List Cnd→List Cnd
 | []=>[]
 | k :: r=>atsC k ++ Qx r
end
theorem KP (c:Cnd):atsC c = if isAt c = true then [c] else Qx c.kids:=by cases c;rw [atsC];rfl
theorem yN:∀ (l:List Cnd) (k:Cnd),Qx (l ++ [k]) = Qx l ++ atsC k
 | [],k=>by simp [Qx]
 | x :: r,k=>by simp [Qx,yN r k]
theorem qN4 {s:Sch}:∀ c,nodE s c = 0→∀ a∈atsC c,NdOk s a∧isAt a = true:=by
 refine Cnd.ind' fun c ih h a ha=>?_
 obtain ⟨h1,h2⟩:=jk5 h
 rw [KP] at ha
 split at ha
 ·rename_i h3
  rw [List.mem_singleton] at ha
  rw [ha]
  exact ⟨jg3 h1,h3⟩
 ·have key:∀ l:List Cnd,(∀ k∈l,k∈c.kids)→a∈Qx l→NdOk s a∧isAt a = true:=by
   intro l
   induction l with
   | nil=>intro _ h;simp [Qx] at h
   | cons k r ihl=>
     intro hk h
     rw [Qx,List.mem_append] at h
     rcases h with h | h
     ·exact ih k (hk k (by simp)) (h2 k (hk k (by simp))) a h
     ·exact ihl (fun x hx=>hk x (List.mem_cons_of_mem _ hx)) h
  exact key c.kids (fun k hk=>hk) ha
def qB8 (n:Nat) (p:Nat→Nat→Bool):Bool:=(List.range n).all fun i=>(List.range i).all fun k=>p i k
theorem zZ0 {p:Nat→Bool} {n:Nat}:(List.range (n + 1)).all p = ((List.range n).all p && p n):=by rw [List.range_succ,List.all_append];simp
theorem jg4 {p:Nat→Bool} {n i:Nat} (h:i < n) (hp:p i = false):(List.range n).all p = false:=List.all_eq_false.2 ⟨i,List.mem_range.2 h,by rw [hp];simp⟩
theorem zA4 {p:Nat→Nat→Bool} {n:Nat}:qB8 (n + 1) p = (qB8 n p && (List.range n).all (p n)):=zZ0
theorem zZ1 {p:Nat→Nat→Bool} {n i k:Nat} (h:i < n) (hk:k < i) (hp:p i k = false):qB8 n p = false:=jg4 h (jg4 hk hp)
def decP (s:Sch) (c:Cnd) (lev:Nat) (i k:Nat):Bool:=
 !((qO s c.col lev ((qQ s c.col.toNat).getD i 0) == qO s c.col lev ((qQ s c.col.toNat).getD k 0)) && !(zT s c ((qQ s c.col.toNat).getD i 0) == zT s c ((qQ s c.col.toNat).getD k 0)))
def decB (s:Sch) (c:Cnd) (lev:Nat):Bool:=
 if c.op = 2 then qB8 (qQ s c.col.toNat).length (decP s c lev)
 else if c.op = 4 then decide (0 < lev)
 else
  let x:=qh s c.col.toNat
  let first:=decide (x.low < c.lo) && decide (c.lo≤x.high)
  let behind:=decide (x.low≤c.hi) && decide (c.hi < x.high)
  if lev = 0 then !x.opt && !first && !behind
  else (!first || (c.lo.tmod (qS x lev) == 0)) && (!behind || ((c.hi + 1).tmod (qS x lev) == 0))
def KV (p:Nat→Bool):Nat→Nat→Nat
 | 0,n=>n
 | f + 1,n=>if p n = true then n else KV p f (n + 1)
theorem qB9 {p:Nat→Bool} {N:Nat} (h:p N = true):∀ (f n:Nat),n≤N→N - n≤f→p (KV p f n) = true∧KV p f n≤N∧n≤KV p f n∧∀ m,n≤m→m < KV p f n→p m = false
 | 0,n,h1,h2=>by
   have:n = N:=by omega
   subst this
   exact ⟨h,Nat.le_refl _,Nat.le_refl _,fun m h3 h4=>by rw [KV] at h4;omega⟩
 | f + 1,n,h1,h2=>by
   rw [KV]
   split
   ·rename_i hp
    exact ⟨hp,h1,Nat.le_refl _,fun m h3 h4=>by omega⟩
   ·rename_i hp
    have hn:n≠N:=fun e=>hp (e ▸ h)
    obtain ⟨a,b,c,d⟩:=qB9 h f (n + 1) (by omega) (by omega)
    refine ⟨a,b,by omega,fun m h3 h4=>?_⟩
    by_cases e:m = n
    ·rw [e];simpa using hp
    ·exact d m (by omega) h4
def decN (s:Sch) (c:Cnd):Nat:=KV (decB s c) 64 0
def qJ0 (col lev:Int):List Pk×Bool→Pk→List Pk×Bool:=fun x p=>
 let y:=if p.col > col∧x.2 = false then (x.1 ++ [⟨col,lev⟩],true) else x
 if p.col = col then (y.1 ++ [⟨p.col,max p.lev lev⟩],true) else (y.1 ++ [p],y.2)
def YM (l:List Pk) (col lev:Int):List Pk:=
 let x:=l.foldl (qJ0 col lev) ([],decide (lev≤0))
 if x.2 then x.1 else x.1 ++ [⟨col,lev⟩]
def jH (s:Sch) (c:Cnd):List Pk:=if chkC s c≠0 then [] else (atsC c).foldl (fun l a=>YM l a.col (decN s a)) []
def covB (a b:List Pk):Bool:=a.all fun x=>b.any fun y=>(y.col == x.col) && decide (y.lev≥x.lev)
mutual
def JA:Cnd→Cnd→Bool
 | .mk a1 a2 a3 a4 a5 ks,.mk b1 b2 b3 b4 b5 ls=>(a1 == b1) && (a2 == b2) && (a3 == b3) && (a4 == b4) && (a5 == b5) && wh ks ls
def wh:List Cnd→List Cnd→Bool
 | [],[]=>true
 | k :: r,l :: t=>JA k l && wh r t
 | [],_ :: _=>false
 | _ :: _,[]=>false
end
theorem qT2 (a b:Cnd):JA a b = ((a.op == b.op) && (a.col == b.col) && (a.code == b.code) && (a.lo == b.lo) && (a.hi == b.hi) && wh a.kids b.kids):=by cases a;cases b;rw [JA];rfl
theorem qr2:∀ c,∀ m,1≤m→1≤cntC c m∧cntC c m≤m:=by
 refine Cnd.ind' fun c ih m hm=>?_
 rw [Qw]
 have key:∀ l:List Cnd,(∀ k∈l,k∈c.kids)→∀ n,1≤n→n≤m→1≤jV l m n∧jV l m n≤m:=by
  intro l
  induction l with
  | nil=>intro _ n h1 h2;rw [jV];exact ⟨h1,h2⟩
  | cons k r ihl=>
    intro hk n h1 h2
    rw [jV]
    split
    ·have:=ih k (hk k (by simp)) (m - n) (by omega)
     exact ihl (fun x hx=>hk x (List.mem_cons_of_mem _ hx)) _ (by omega) (by omega)
    ·exact ⟨h1,h2⟩
 exact key c.kids (fun k hk=>hk) 1 (by omega) hm
theorem qT3:∀ (l:List Cnd) (m n:Int),n≤m→n≤jV l m n
 | [],m,n,_=>by rw [jV];omega
 | k :: r,m,n,h=>by
   rw [jV]
   split
   ·have:=qr2 k (m - n) (by omega)
    have:=qT3 r m (n + cntC k (m - n)) (by omega)
    omega
   ·omega
theorem zQ5:∀ c,∀ m,1≤m→cntC c m < m→(depC c:Int)≤cntC c m:=by
 refine Cnd.ind' fun c ih m hm h=>?_
 rw [Qw] at h ⊢
 rw [qo4]
 have key:∀ l:List Cnd,(∀ k∈l,k∈c.kids)→∀ n,1≤n→n≤m→jV l m n < m→n + jG l≤jV l m n:=by
  intro l
  induction l with
  | nil=>intro _ n h1 h2 _;rw [jV,jG];omega
  | cons k r ihl=>
    intro hk n h1 h2 h3
    rw [jV] at h3 ⊢
    rw [jG]
    split at h3
    ·rename_i h4
     rw [if_pos h4]
     have c1:=qr2 k (m - n) (by omega)
     have c2:=qT3 r m (n + cntC k (m - n)) (by omega)
     have c3:=ih k (hk k (by simp)) (m - n) (by omega) (by omega)
     have c4:=ihl (fun x hx=>hk x (List.mem_cons_of_mem _ hx)) (n + cntC k (m - n)) (by omega) (by omega) h3
     omega
    ·omega
 have:=key c.kids (fun k hk=>hk) 1 (by omega) (by omega) h
 omega
end Go.Proofs
namespace Go.Proofs
open Go Go.TL
def jt (f:Nat→Int):Nat→Int
 | 0=>0
 | n + 1=>if jt f n≠0 then jt f n else f n
theorem ze6 {f:Nat→Int} {i:Nat} (h:jt f i≠0):∀ n,i≤n→jt f n = jt f i:=by
 intro n hn
 induction n with
 | zero=>have:i = 0:=by omega
         rw [this]
 | succ n ih=>
   by_cases e:i = n + 1
   ·rw [e]
   ·have:=ih (by omega)
    rw [jt,this,if_pos h]
theorem qN5 {f:Nat→Int}:∀ {n:Nat},jt f n = 0→∀ i,i < n→f i = 0
 | 0,_,i,h=>by omega
 | n + 1,h,i,hi=>by
   rw [jt] at h
   split at h
   ·rename_i h2;exact absurd h h2
   ·rename_i h2
    by_cases e:i = n
    ·rw [e];exact h
    ·exact qN5 (Classical.byContradiction h2) i (by omega)
theorem qC0 {f:Nat→Int}:∀ {n:Nat},(∀ i,i < n→f i = 0)→jt f n = 0
 | 0,_=>rfl
 | n + 1,h=>by
   rw [jt,qC0 fun i hi=>h i (by omega),if_neg (by simp)]
   exact h n (by omega)
theorem wC {f:Nat→Int} {n:Nat} (h:jt f n = 0):jt f (n + 1) = f n:=by rw [jt,if_neg (by rw [h];simp)]
theorem JU {f:Nat→Int} {i n:Nat} (h:jt f i = 0) (hi:i < n) (hf:f i≠0):jt f n = f i:=by
 rw [ze6 (i:=i + 1) (by rw [wC h];exact hf) n (by omega),wC h]
def QR (s:Sch) (p:Pk):Int:=if schE s≠0 then schE s else if p.col < 1∨p.col≥s.cols.length then 7 else if inB p.lev 0 (finI s p.col) = false then 8 else 0
abbrev pkAt (l:List Pk) (i:Nat):Pk:=l.getD i default
def zv5 (s:Sch) (l:List Pk) (i:Nat):Int:=if QR s (pkAt l i)≠0 then QR s (pkAt l i) else if 0 < i∧(pkAt l i).col≤(pkAt l (i - 1)).col then 10 else 0
def qC1 (s:Sch) (l:List Pk):Int:=if schE s≠0 then schE s else jt (zv5 s l) l.length
def dimE (s:Sch) (l:List Pk) (i:Nat):Int:=if QR s (pkAt l i)≠0 then QR s (pkAt l i) else if isB s (pkAt l i).col 2 = false then 7 else if ((l.take i).any fun x=>x.col == (pkAt l i).col) = true then 10 else 0
def QS (s:Sch) (l:List Pk):Int:=if l.length < 1∨l.length > 3 then 1 else jt (dimE s l) l.length
def qC2 (s:Sch) (m:Int) (l:List Int) (i:Nat):Int:=if isB s (l.getD i 0) 3 = false then 7 else if l.getD i 0 = m∨(l.take i).contains (l.getD i 0) = true then 10 else 0
def kI (s:Sch) (m:Int) (l:List Int):Int:=if l.length < 1∨l.length > 3 then 1 else jt (qC2 s m l) l.length
def jI (s:Sch) (q:Qst):Int:=
 if q.kind = 1 then (if QS s q.dims≠0 then QS s q.dims else if q.meas≠-1∧isB s q.meas 3 = false then 7 else 0)
 else if q.kind = 2 then (if isB s q.meas 3 = false then 7 else kI s q.meas q.terms)
 else if isB s q.meas 3 = false then 7 else if (qh s q.meas.toNat).low < 0 then 2 else chkC s q.event
def qstE (s:Sch) (q:Qst):Int:=
 if schE s≠0 then schE s else if ko q.name = false then 3 else if q.kind < 1∨3 < q.kind then 4
 else if chkC s q.filt≠0 then chkC s q.filt else if jI s q≠0 then jI s q
 else if (q.kind≠1∧0 < q.dims.length)∨(q.kind≠2∧0 < q.terms.length)∨(q.kind≠3∧JA q.event cnd0 = false) then 11 else 0
abbrev qAt (l:List Qst) (i:Nat):Qst:=l.getD i default
def qsE (s:Sch) (l:List Qst) (i:Nat):Int:=if qstE s (qAt l i)≠0 then qstE s (qAt l i) else if ((l.take i).any fun x=>eqB x.name (qAt l i).name) = true then 10 else 0
def smpE (x:Smp):Int:=if x.of < 1∨x.of > 1000∨x.part < 1∨x.part > x.of∨x.seed < 0∨x.seed > 1099511627776 then 2 else 0
def dclE (s:Sch) (d:Dcl):Int:=
 if schE s≠0 then schE s else if ko d.proj = false∨ko d.src = false then 3 else if chkC s d.coh≠0 then chkC s d.coh
 else if smpE d.smp≠0 then 2 else if d.qs.length < 1∨d.qs.length > 8 then 1 else jt (qsE s d.qs) d.qs.length
theorem zZ2 {s:Sch} {p:Pk} (h:QR s p = 0):schE s = 0∧1≤p.col∧p.col < s.cols.length∧0≤p.lev∧p.lev≤finI s p.col:=by
 unfold QR at h
 split at h
 ·rename_i h1;exact absurd h h1
 rename_i h1
 split at h
 ·cases h
 rename_i h2
 split at h
 ·cases h
 rename_i h3
 rw [Bool.not_eq_false,inB,Bool.and_eq_true,decide_eq_true_eq,decide_eq_true_eq] at h3
 exact ⟨Classical.byContradiction h1,by omega,by omega,h3.1,h3.2⟩
end Go.Proofs
namespace Go.Proofs
open Go Go.TL
def divM (high w wo:Int):Nat→Int→Bool
 | 0,_=>true
 | k + 1,f=>if f > high then true else if f.tmod wo≠0 then false else divM high w wo k (f + w)
def divP (s:Sch) (col:Nat) (L:List Int) (other lev:Nat) (i k:Nat):Bool:=
 !(!(qO s col lev (L.getD i 0) == qO s col lev (L.getD k 0)) && (qO s col other (L.getD i 0) == qO s col other (L.getD k 0)))
def divB (s:Sch) (col other lev:Nat):Bool:=
 if lev = 0∨lev≤other then true
 else if (qh s col).kind = 2 then qB8 (qQ s col).length (divP s col (qQ s col) other lev)
 else
  let x:=qh s col
  let w:=qS x lev
  let first:=(qA x.low w + 1) * w
  if other = 0 then !x.opt && decide (first > x.high)
  else divM x.high w (qS x other) 2 first
def ZR (s:Sch) (col lev:Int):Int:=if inB lev 0 (finI s col) = false then -1 else KV (fun n=>divB s col.toNat n lev.toNat) 64 0
def ze7 (q:Qst) (k:Int):Bool:=(q.meas == k) || q.terms.contains k
def Yd (l m:List Pk):List Pk:=m.foldl (fun l p=>YM l p.col p.lev) l
def qr3 (s:Sch) (q:Qst):List Pk→Nat→List Pk:=fun l k=>if ze7 q (k + 1) = true then YM l (k + 1) (ZR s (k + 1) (finI s (k + 1))) else l
def jk6 (s:Sch) (q:Qst) (l:List Pk):List Pk:=(List.range (s.cols.length - 1)).foldl (qr3 s q) l
def qC3 (s:Sch) (q:Qst):List Pk:=if qstE s q≠0 then [] else
 jk6 s q (q.dims.foldl (fun l p=>YM l p.col (ZR s p.col p.lev)) (if q.kind = 3 then Yd (jH s q.filt) (jH s q.event) else jH s q.filt))
def sufB (s:Sch) (q:Qst) (l:List Pk):Bool:=(qstE s q == 0) && (qC1 s l == 0) && covB (qC3 s q) l
def jq4 (s:Sch) (d:Dcl) (l:List Pk):Int:=if dclE s d≠0 then dclE s d else if qC1 s l≠0 then qC1 s l else jt (fun i=>if sufB s (qAt d.qs i) l = true then 0 else 23) d.qs.length
end Go.Proofs
namespace Go.Proofs
open Go Go.TL
theorem JB {s:Sch} {c:Int} (h:0≤finI s c):schE s = 0∧1≤c∧c < s.cols.length∧finI s c = (if (qh s c.toNat).kind = 2 then zk (qH s c.toNat) - 1 else (qh s c.toNat).widths.length):=by
 unfold finI at h ⊢
 split at h
 ·omega
 ·rename_i h1
  rw [if_neg h1]
  exact ⟨by omega,by omega,by omega,rfl⟩
theorem QA {n lo hi:Int}:inB n lo hi = true↔lo≤n∧n≤hi:=by simp [inB]
theorem qj3 {n lo hi:Int}:inB n lo hi = false↔n < lo∨hi < n:=by
 rw [← Bool.not_eq_true,QA];omega
theorem SchOk.wid {s:Sch} (h:SchOk s) {i:Nat} (hi:i < s.cols.length) (h0:0 < i) (hk:(qh s i).kind≠2) {lev:Int} (hl:1≤lev∧lev≤(qh s i).widths.length) :
 1≤qS (qh s i) lev∧qS (qh s i) lev≤1000000∧(qh s i).kind = 3∧(qh s i).widths.length≤4∧-1000000≤(qh s i).low∧(qh s i).high≤1000000∧(qh s i).low≤(qh s i).high∧qS (qh s i) (qh s i).widths.length = 1:=by
 have hk2:=za (h.cs i hi)
 have hk3:(qh s i).kind = 3:=by have:=hk2.2.2.1 h0;omega
 have hm:=hk2.2.2.2.2 hk3
 generalize qh s i = c at hl hm hk3 ⊢
 unfold measE at hm
 split at hm
 ·cases hm
 rename_i h1
 split at hm
 ·cases hm
 rename_i h2
 split at hm
 ·cases hm
 rename_i h3
 rw [Bool.not_eq_false] at h3
 have hw:∀ j,j < c.widths.length→wdOk c.widths j = true:=fun j hj=>List.all_eq_true.1 h3 j (List.mem_range.2 hj)
 have e1:inB c.low (-1000000) 1000000 = true:=by grind
 have e2:inB c.high (-1000000) 1000000 = true:=by grind
 rw [QA] at e1 e2
 have hn:((c.widths.length:Int) - lev).toNat < c.widths.length:=by omega
 have hp:=zd9 (ws:=c.widths) hw _ hn
 have h0:=hw 0 (by omega)
 rw [wdOk,if_pos rfl,beq_iff_eq] at h0
 have hmax:c.widths.getD ((c.widths.length:Int) - lev).toNat 0≤1000000:=by
  have:=hw _ hn
  unfold wdOk at this
  split at this
  ·rename_i e;rw [e,h0];omega
  ·simp only [Bool.and_eq_true,decide_eq_true_eq] at this;omega
 refine ⟨hp,hmax,hk3,by omega,by omega,by omega,by omega,?_⟩
 rw [qS,show ((c.widths.length:Int) - c.widths.length).toNat = 0 by omega,h0]
theorem qj4 {v w:Int} (hw:0 < w):v - w < qA v w * w∧qA v w * w≤v:=by
 unfold qA
 rw [Int.fdiv_eq_ediv_of_nonneg _ (by omega),Int.mul_comm]
 have h1:=Int.mul_ediv_add_emod v w
 have h2:=Int.emod_nonneg v (b:=w) (by omega)
 have h3:=Int.emod_lt_of_pos v hw
 omega
theorem qJ1 (s:Sch) (hs:QO s) (c lev v:Int):Spc Tryz.prog yS [schT s,vI c,vI lev,vI v] [] (vI (qO s c lev v)) []:=by
 refine qd qy5 mixm (by simp) fun e _ hst=>qg ?_
 unfold Zf
 refine sW ?_
 refine C1.im (Jy s hs c) (by rfl) (by rfl) ?_
 refine sW ?_
 refine C1.im (jK lev 0 (finI s c)) (by rfl) (by rfl) ?_
 simp only [tZ,↓un_u,simprocAttr,Bool.not_eq_true',Bool.not_eq_false']
 refine ⟨fun h=>?_,fun h=>?_⟩
 ·rw [qO,if_pos h]
  exact .oA [] []
 rw [QA] at h
 obtain ⟨hE,c1,c2,hfin⟩:=JB (s:=s) (c:=c) (by omega)
 have hok:=qZ hE
 obtain ⟨i,rfl⟩:=Int.eq_ofNat_of_zero_le (show 0≤c by omega)
 rw [Int.toNat_natCast] at hfin
 have hi:i < s.cols.length:=by omega
 have hat:qh s i = s.cols[i]:=by rw [qh,qk hi]
 have hk:=za (hok.cs i hi)
 have hcd:=fun e=>hok.cdl hi e
 have hwd:=fun e l=>hok.wid hi (by omega) e (lev:=l)
 have hcl:qH s i = s.lists.getD s.cols[i].list.toNat default:=by rw [qH,hat]
 have hE2:qO s i lev v = if s.cols[i].kind = 2 then (if zN s i v = false then -1 else upC (qH s i) v lev)
  else if v≠kT∧inB v (-1000000) 1000000 = false then -1
  else if lev = 0 then 0 else if v = kT then v else qA v (qS s.cols[i] lev) * qS s.cols[i] lev:=by
  rw [qO,if_neg (by rw [Bool.not_eq_false,QA];exact h),Int.toNat_natCast,hat]
 rw [hE2]
 rw [hat] at hk hcd hwd hfin
 rw [hcl] at hcd ⊢
 simp only [tZ,↓un_u,simprocAttr,Int.toNat_natCast,qe hi]
 have hho:=KN s hok i hi v
 generalize s.cols[i] = x at hk hcd hwd hfin ⊢
 simp only [tZ,↓un_u,simprocAttr,beq_iff_eq,beq_eq_false_iff_ne]
 refine ⟨by omega,fun h2=>?_,fun h2=>?_⟩
 ·rw [if_pos h2]
  obtain ⟨d1,d2⟩:=hcd h2
  obtain ⟨d3,d4⟩:=hk.2.2.2.1 h2
  have hgl:s.lists.getD x.list.toNat default = s.lists[x.list.toNat]:=qk d1
  rw [hgl] at d2 ⊢
  obtain ⟨_,d5,d6⟩:=zc d2
  refine C1.im hho (by rfl) (by rfl) ?_
  simp only [tZ,↓un_u,simprocAttr,Bool.not_eq_true',Bool.not_eq_false']
  refine ⟨fun h3=>?_,fun h3=>?_⟩
  ·rw [if_pos h3]
   exact .oA [] []
  rw [if_neg (by rw [h3];simp)]
  simp only [tZ,↓un_u,simprocAttr,qe d1]
  generalize s.lists[x.list.toNat] = l at d2 d5 d6 ⊢
  refine ⟨by omega,?_⟩
  refine C1.im (qN3 l v lev (by omega)) (by rfl) (by rfl) ?_
  refine sW ?_
  exact .oA [] []
 rw [if_neg h2]
 rw [if_neg h2] at hfin
 refine C2.im (fun _=>jK v (-1000000) 1000000) (fun _=>rfl) (by rfl) ?_
 simp only [tZ,↓un_u,simprocAttr,tD,bne_iff_ne,bne_eq_false_iff_eq,Bool.not_eq_true',Bool.not_eq_false',beq_iff_eq,beq_eq_false_iff_ne]
 rw [show (-1099511627776:Int) = kT from rfl]
 refine ⟨fun h3=>?_,fun h3=>?_⟩
 ·rw [if_pos h3]
  exact .oA [] []
 rw [if_neg (by grind)]
 refine ⟨fun h4=>?_,fun h4=>?_⟩
 ·rw [if_pos h4]
  exact .oA [] []
 rw [if_neg h4]
 refine ⟨fun h5=>?_,fun h5=>?_⟩
 ·rw [if_pos h5]
  exact .oA [] []
 rw [if_neg h5]
 have hv:inB v (-1000000) 1000000 = true:=by grind
 rw [QA] at hv
 obtain ⟨w1,w2,w3,w4,_⟩:=hwd h2 lev (by omega)
 have hfm:=qj4 (v:=v) (w:=qS x lev) (by omega)
 have hw:IntKind.i64.wrap (qA v (qS x lev) * qS x lev) = qA v (qS x lev) * qS x lev:=IntWalk.i64_in _ (by omega)
 refine C1.im (qS6 x lev (by omega) (by omega)) (by rfl) (by rfl) ?_
 refine sW ?_
 refine C1.im (qS5 v (qS x lev) (by omega) (by omega)) (by rfl) (by rfl) ?_
 simp only [tZ,↓un_u,simprocAttr,hw]
 exact .oA [] []
theorem qJ2 (s:Sch) (hok:SchOk s) (i:Nat) (hi:i < s.cols.length) (h2:(qh s i).kind = 2):Spc Tryz.prog ZT [schT s,vI i] [] (vIs (qQ s i)) []:=by
 have hat:qh s i = s.cols[i]:=by rw [qh,qk hi]
 obtain ⟨d1,d2⟩:=hok.cdl hi h2
 obtain ⟨d3,d4⟩:=(za (hok.cs i hi)).2.2.2.1 h2
 have hcl:qH s i = s.lists.getD s.cols[i].list.toNat default:=by rw [qH,hat]
 rw [hcl] at d2
 rw [hat] at d1 d3 d4
 have hgl:s.lists.getD s.cols[i].list.toNat default = s.lists[s.cols[i].list.toNat]:=qk d1
 rw [hgl] at d2
 obtain ⟨_,d5,d6⟩:=zc d2
 rw [qQ,hcl,hgl]
 have hlv:=qc8 (l:=s.lists[s.cols[i].list.toNat])
 have hw2:IntKind.i64.wrap (zk s.lists[s.cols[i].list.toNat] - 1) = zk s.lists[s.cols[i].list.toNat] - 1:=IntWalk.i64_in _ (by omega)
 refine qd qy9 mixm (by simp) fun e _ hst=>qg ?_
 unfold Zh
 simp only [tZ,↓un_u,simprocAttr,Int.toNat_natCast,qe hi,qe d1]
 refine ⟨by omega,by omega,by kernel_rfl,?_⟩
 refine C1.im (Jw _ (by omega)) (by rfl) (by rfl) ?_
 simp only [tZ,↓un_u,simprocAttr,hw2]
 refine C1.im (zA3 _ _ (by omega)) (by rfl) (by rfl) ?_
 refine sW ?_
 refine ⟨by kernel_rfl,?_⟩
 exact .oA [] []
theorem ze8 (s:Sch) (hs:QO s) (p:Pk):Spc Tryz.prog WH [schT s,pkT p] [] (vI (QR s p)) []:=by
 refine qd qR5 mixm (by simp) fun e _ hst=>qg ?_
 unfold KE
 refine sW ?_
 refine C1.im (QP s hs) (by rfl) (by rfl) ?_
 simp only [tZ,↓un_u,simprocAttr,tD,bne_iff_ne,bne_eq_false_iff_eq]
 refine ⟨fun h=>?_,fun h=>⟨fun h2=>?_,fun h2=>?_⟩⟩
 ·rw [QR,if_pos h]
  exact .oA [] []
 ·rw [QR,if_neg (by rw [h];simp),if_pos (by omega)]
  exact .oA [] []
 rw [QR,if_neg (by rw [h];simp),if_neg (by omega)]
 refine C1.im (Jy s hs p.col) (by rfl) (by rfl) ?_
 refine sW ?_
 refine C1.im (jK p.lev 0 (finI s p.col)) (by rfl) (by rfl) ?_
 simp only [tZ,↓un_u,simprocAttr,Bool.not_eq_true',Bool.not_eq_false']
 refine ⟨by kernel_rfl,fun h3=>?_,fun h3=>?_⟩
 ·rw [if_pos h3]
  exact .oA [] []
 ·rw [if_neg (by rw [h3];simp)]
  exact .oA [] []
theorem qo5 (a b:List Pk) (ha:a.length < 4611686018427387904):Spc Tryz.prog yv [vPs a,vPs b] [] (vB (qB2 a b)) []:=by
 refine qd qg0 mixm (by simp) fun e _ hst=>qg ?_
 unfold ya
 simp only [tZ,↓un_u,simprocAttr,bne_iff_ne,bne_eq_false_iff_eq]
 refine ⟨fun h=>?_,fun h=>?_⟩
 ·rw [qB2,zu4 (by omega)]
  exact .oA [] []
 have hl:a.length = b.length:=by omega
 refine qw mixm (α:=Nat) [5] (fun i=>i≤a.length∧(qB2 (a.take i) (b.take i) = true)) (fun i=>[(5,vI i)]) (fun i=>[]) (fun i=>a.length - i) 0 ⟨by omega,?_⟩ ?_ fun i hi=>?_
 ·rfl
 ·exact .oA [] []
 simp only [tZ,↓un_u,simprocAttr,decide_eq_true_eq,decide_eq_false_iff_not]
 refine ⟨fun h=>?_,fun h=>?_⟩
 ·have hib:i < b.length:=by omega
  have hi2:i < a.length:=by omega
  have hwi:=qj (i:=i) (by omega)
  simp only [tZ,↓un_u,simprocAttr,Int.toNat_natCast,qe hi2,hwi,qe hib]
  rw [show (a[i].col == b[i].col && a[i].lev == b[i].lev) = eqPk a[i] b[i] from rfl]
  refine ⟨by omega,by omega,by kernel_rfl,fun h3=>?_,fun h3=>⟨i + 1,⟨by omega,?_⟩,by omega,?_⟩⟩
  ·rw [qB2,zj5 (i:=i) hl (by omega) h3]
   exact .oA [] []
  ·rw [qB2,qM9 hi2 hib,← qB2,hi.2]
   simpa using h3
  ·exact .oA [] []
 ·have hi2:i = a.length:=by omega
  subst hi2
  have h3:=hi.2
  rw [List.take_length,List.take_of_length_le (by omega)] at h3
  rw [h3]
  exact .oA [] []
end Go.Proofs
namespace Go.Proofs
open Go Go.TL
theorem qo6 {s:Sch} (h:SchOk s) {i:Nat} (hi:i < s.cols.length) (h2:(qh s i).kind = 2):(qQ s i).length≤60:=by
 obtain ⟨d1,d2⟩:=h.cdl hi h2
 obtain ⟨_,d5,d6⟩:=zc d2
 unfold qQ atL
 rw [if_neg (by rw [d2];simp),List.length_map]
 have:=List.length_filter_le (fun i=>(dep (qH s i).codes i:Int) == zk (qH s i) - 1) (List.range (qH s i).codes.length)
 refine Nat.le_trans (List.length_filter_le _ _) ?_
 rw [List.length_range];exact d6
theorem zZ3 (s:Sch) (i lev:Nat):divB s i lev lev = true:=by unfold divB;rw [if_pos (by omega)]
theorem qT4 {s:Sch} {c:Int} (h:schE s = 0):finI s c≤59:=by
 by_cases h0:0≤finI s c
 ·obtain ⟨_,h1,h2,h3⟩:=JB h0
  rw [h3]
  split
  ·have:=qc8 (l:=qH s c.toNat);omega
  ·rename_i h4
   have hok:=qZ h
   by_cases e:(qh s c.toNat).widths.length = 0
   ·omega
   ·have:=hok.wid (i:=c.toNat) (by omega) (by omega) h4 (lev:=1) (by omega)
    omega
 ·omega
end Go.Proofs
