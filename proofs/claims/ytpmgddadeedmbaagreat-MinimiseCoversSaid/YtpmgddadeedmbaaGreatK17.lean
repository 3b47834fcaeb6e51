/- A part of the proof: trees of Go values, short forms, contracts. -/
import Derived.WalkKit
import Derived.Still
import Derived.MapKept
import GoSem.Builtin.Cap
import Derived.Laws.Externs
import GoSem.Extern.SlicesOverlaps
import Derived.Carry
import Derived.ProofKit
import Derived.OpenShut
import Derived.HandedShaped
import Derived.Lay
import Derived.LaidLaws
import Derived.MakeChecks
import Derived.SevenTiedAt
import Derived.Test.YtpmgddadeedmbaaGreatChecked
import Derived.Test.YtpmgddadeedmbaaGreatK16
set_option linter.unusedSimpArgs false
set_option linter.unusedVariables false
namespace Go.Proofs
open Go Go.TL
set_option maxRecDepth 4000
set_option maxHeartbeats 8000000
theorem qg1 {cs:List Cod}:∀ {n:Nat} {v:Int},lvs cs n = some v→∀ j,j < n→Yh cs j = true→(dep cs j:Int) = v
 | 0,_,_,j,h,_=>by omega
 | n + 1,v,h,j,hj,hl=>by
   rw [qw6] at h
   cases e:lvs cs n with
   | none=>rw [e] at h;cases h
   | some w=>
     rw [e] at h
     have ih:=fun k hk h2=>qg1 e k hk h2
     unfold lvS at h
     dsimp only at h
     split at h
     ·split at h
      ·cases h
      ·rename_i h2
       have hv:(dep cs n:Int) = v:=by simpa using h
       by_cases e2:j = n
       ·rw [e2];exact hv
       ·have:=ih j (by omega) hl
        omega
     ·rename_i h2
      have hv:w = v:=by simpa using h
      by_cases e2:j = n
      ·rw [e2] at hl;exact absurd hl h2
      ·have:=ih j (by omega) hl
       omega
theorem qx2 {cs:List Cod} {c:Nat}:Yh cs c = true↔∀ i,i < cs.length→parC cs i≠c:=by
 unfold Yh
 rw [Bool.not_eq_true',List.any_eq_false]
 constructor
 ·intro h i hi e
  have:=h cs[i] (List.getElem_mem hi)
  rw [parC,cdAt,qr hi] at e
  simp [e] at this
 ·intro h x hx
  obtain ⟨i,hi,rfl⟩:=List.getElem_of_mem hx
  have:=h i hi
  rw [parC,cdAt,qr hi] at this
  simpa using this
theorem zB2 {l:CodL} (h:lstE l = 0):∃ v,lvs l.codes l.codes.length = some v:=by
 unfold lstE at h
 split at h
 ·cases h
 ·split at h
  ·cases h
  ·split at h
   ·cases h
   ·split at h
    ·rename_i h2;exact absurd h h2
    ·split at h
     ·cases h
     ·rename_i v e;exact ⟨v,e⟩
theorem qM9 {l:CodL} (h:lstE l = 0) {c:Nat} (hc:c < l.codes.length):(dep l.codes c:Int)≤zj l - 1∧(Yh l.codes c = true→(dep l.codes c:Int) = zj l - 1)∧(Yh l.codes c = false→(dep l.codes c:Int) < zj l - 1):=by
 obtain ⟨hp,h1,h2⟩:=zU h
 obtain ⟨v,hv⟩:=zB2 h
 have hlast:Yh l.codes (l.codes.length - 1) = true:=qx2.2 fun i hi e=>by
  have:=(hp i hi).2
  omega
 have hlv:=qg1 hv (l.codes.length - 1) (by omega) hlast
 have hL:zj l - 1 = v:=by rw [zj,if_neg (by rw [h];simp)];omega
 have hall:∀ k c,l.codes.length - c = k→c < l.codes.length→(dep l.codes c:Int)≤v∧(Yh l.codes c = false→(dep l.codes c:Int) < v):=by
  intro k
  induction k using Nat.strongRecOn with
  | _ k ih=>
    intro c hk hc
    cases hl:Yh l.codes c with
    | true=>
      have:=qg1 hv c hc hl
      exact ⟨by omega,fun e=>by cases e⟩
    | false=>
      have hn:¬ ∀ i,i < l.codes.length→parC l.codes i≠c:=fun k=>by rw [qx2.2 k] at hl;cases hl
      simp only [Classical.not_forall] at hn
      obtain ⟨i,hi,hn⟩:=hn
      have hpc:parC l.codes i = c:=Classical.byContradiction hn
      have h3:=hp i hi
      have h4:=ql3 hp hi (by omega)
      rw [hpc,Int.toNat_natCast] at h4
      have h5:=ih (l.codes.length - i) (by omega) i rfl hi
      have:=h5.1
      exact ⟨by omega,fun _=>by omega⟩
 have:=hall _ c rfl hc
 rw [hL]
 exact ⟨this.1,fun hl=>qg1 hv c hc hl,this.2⟩
theorem zB3 {l:CodL} (h:lstE l = 0) {c:Nat} (hc:c < l.codes.length):Yh l.codes c = true↔(dep l.codes c:Int) = zj l - 1:=by
 obtain ⟨_,h2,h3⟩:=qM9 h hc
 cases hl:Yh l.codes c with
 | true=>exact ⟨fun _=>h2 hl,fun _=>rfl⟩
 | false=>
   have:=h3 hl
   exact ⟨(by intro e;cases e),fun e=>by omega⟩
theorem ZI (p:Cod→Bool) (f:FuncId) (caps:List T) (hcap:imL caps = true) (l:List Cod) (hf:∀ y∈l,Spc Tryz.prog f (codT y :: caps) [] (vB (p y)) []) (hl:l.length < 4611686018427387904) :
 Spc Tryz.prog jj [.sl 2 (l.map codT),.clo f caps] [] (vI (idxI p l)) []:=by
 refine qd QW mixm (by simp) fun e _ hst=>qk ?_
 unfold je
 refine sW ?_
 refine qw mixm (α:=Nat) [8] (fun i=>i≤l.length∧((l.take i).any p = false)) (fun i=>[(8,vI i)]) (fun i=>[]) (fun i=>l.length - i) 0 ⟨by omega,?_⟩ ?_ fun i hi=>?_
 ·simp
 ·exact .oA [] []
 simp only [tZ,↓un_u,simprocAttr,decide_eq_true_eq,decide_eq_false_iff_not]
 refine ⟨fun h=>?_,fun h=>?_⟩
 ·have hi2:i < l.length:=by omega
  have hwi:=qo (i:=i) (by omega)
  simp only [tZ,↓un_u,simprocAttr,Int.toNat_natCast,qe hi2,hwi,KS]
  refine ⟨by omega,?_⟩
  refine C1.im (hf l[i] (List.getElem_mem hi2)) (Ju rfl hcap) rfl ?_
  refine sW ?_
  refine ⟨fun h3=>?_,fun h3=>⟨i + 1,⟨by omega,wY hi2 hi.2 h3⟩,by omega,?_⟩⟩
  ·rw [idxI,if_pos (WF hi2 h3),wA hi2 hi.2 h3]
   exact .imR rfl rfl
  ·exact .oA [] []
 ·have h2:i = l.length:=by omega
  have h3:=hi.2
  rw [h2,List.take_length] at h3
  rw [idxI,if_neg (by rw [h3];simp)]
  exact .imR rfl rfl
theorem Qy (p:Cod→Bool) (f:FuncId) (caps:List T) (hcap:imL caps = true) (l:List Cod) (hf:∀ y∈l,Spc Tryz.prog f (codT y :: caps) [] (vB (p y)) []) (hl:l.length < 4611686018427387904) :
 Spc Tryz.prog zG [.sl 2 (l.map codT),.clo f caps] [] (vB (l.any p)) []:=by
 refine qd Qk mixm (by simp) fun e _ hst=>qk ?_
 unfold zz
 refine sW ?_
 refine C1.im (ZI p f caps hcap l hf hl) (WG rfl hcap) rfl ?_
 refine sW ?_
 rw [show decide (idxI p l≥0) = l.any p from KT p l]
 exact .imR rfl rfl
theorem qm8 (x:Cod) (v:Int):Spc Tryz.prog kU [codT x,.ip [vI v]] [] (vB (x.par == v)) []:=by
 refine qd qe6 mixm (by simp) fun e _ hst=>qk ?_
 unfold yB
 refine sW ?_
 exact .oA [] []
theorem zr8 {l:CodL} (h:lstE l = 0) (v:Int):(decide (0≤v) && decide (v < l.codes.length) && !(l.codes.any fun x=>x.par == v)) = (inB v 0 (l.codes.length - 1) && (lvlC l v == zj l - 1)):=by
 unfold inB
 by_cases h0:0≤v∧v < l.codes.length
 ·obtain ⟨c,rfl⟩:=Int.eq_ofNat_of_zero_le h0.1
  have hc:c < l.codes.length:=by omega
  have h1:lvlC l c = dep l.codes c:=by rw [lvlC,if_neg (by rw [h];simp;omega),Int.toNat_natCast]
  rw [decide_eq_true h0.1,decide_eq_true h0.2,decide_eq_true (show (c:Int)≤(l.codes.length:Int) - 1 by omega),h1]
  simp only [Bool.true_and]
  rw [Bool.eq_iff_iff,beq_iff_eq,← zB3 h hc]
  rfl
 ·by_cases h1:0≤v
  ·rw [decide_eq_true h1,decide_eq_false (show ¬ v < l.codes.length by omega),decide_eq_false (show ¬ v≤(l.codes.length:Int) - 1 by omega)]
   rfl
  ·rw [decide_eq_false h1]
   rfl
theorem qx3 (s:Sch) (h:SchOk s) (i:Nat) (hi:i < s.cols.length) (v:Int):Spc Tryz.prog Zo [schT s,colT s.cols[i],vI v] [] (vB (jM s i v)) []:=by
 have hat:qh s i = s.cols[i]:=by rw [qh,qr hi]
 have hk:=zA (h.cs i hi)
 have hcd:=fun e=>h.cdl hi e
 have hE:jM s i v = if s.cols[i].kind = 1 then inB v 1 1048575
  else if s.cols[i].kind = 2 then inB v 0 ((qH s i).codes.length - 1) && (lvlC (qH s i) v == zj (qH s i) - 1)
  else (s.cols[i].opt && (v == Wg)) || inB v s.cols[i].low s.cols[i].high:=by rw [jM,hat]
 have hcl:qH s i = s.lists.getD s.cols[i].list.toNat default:=by rw [qH,hat]
 rw [hat] at hk hcd
 rw [hE]
 rw [hcl] at hcd ⊢
 generalize s.cols[i] = c at hk hcd ⊢
 refine qd qo7 mixm (by simp) fun e _ hst=>qk ?_
 unfold QI
 refine sW ?_
 simp only [tZ,↓un_u,simprocAttr,beq_iff_eq,beq_eq_false_iff_ne]
 refine ⟨fun h1=>?_,fun h1=>⟨fun h2=>?_,fun h2=>?_⟩⟩
 ·rw [if_pos h1,show inB v 1 1048575 = (decide (1≤v) && decide (v≤1048575)) from rfl]
  exact .oA [] []
 ·obtain ⟨d1,d2⟩:=hcd h2
  obtain ⟨d3,d4⟩:=hk.2.2.2.1 h2
  have hgl:s.lists.getD c.list.toNat default = s.lists[c.list.toNat]:=qr d1
  rw [if_neg h1,if_pos h2]
  rw [hgl] at d2 ⊢
  obtain ⟨_,d5,d6⟩:=zU d2
  simp only [tZ,↓un_u,simprocAttr,qe d1]
  generalize s.lists[c.list.toNat] = l at d2 d5 d6 ⊢
  have hCF:=Qy (fun x=>x.par == v) kU [.ip [vI v]] rfl l.codes (fun x _=>qm8 x v) (by omega)
  refine ⟨by omega,?_⟩
  refine C2.lend [4104] (fun _=>hCF) (fun _=>?_) (by rfl) (by rfl) ?_
  ·all_goals (try simp only [tL,simprocAttr,List.map_append,List.map_cons,List.map_nil,List.cons_append,List.nil_append])
   all_goals (try (repeat' (first | exact zh | (apply zB;intro _;exact ⟨rfl,rfl⟩) | (apply qz;intro _;exact ⟨rfl,rfl⟩) | with_reducible apply qQ | with_reducible refine qD ⟨rfl,rfl⟩ ?_ | exact qR | with_reducible apply qJ | with_reducible refine qW ⟨rfl,rfl,?_⟩ ?_ | with_reducible apply And.intro | exact qK rfl | exact qK (by assumption) | (refine ⟨⟨?_,rfl,?_,rfl,?_⟩,trivial⟩ <;> first | (simp;done) | (apply qz;intro _;exact ⟨rfl,rfl⟩)) | trivial | rfl | (rw [qo (by omega)]) | omega)))
   simp only [ltP]
   exact ⟨rfl,by decide,rfl,qD ⟨rfl,rfl⟩ qR⟩
  refine sW ?_
  rw [← zr8 d2 v]
  exact .oA [] []
 ·rw [if_neg h1,if_neg h2,Bool.or_comm,show inB v c.low c.high = (decide (c.low≤v) && decide (v≤c.high)) from rfl]
  rw [show (c.opt && v == Wg) = (c.opt && v == -1099511627776) from rfl]
  exact .oA [] []
end Go.Proofs
namespace Go.Proofs
open Go Go.TL
set_option maxRecDepth 4000
set_option maxHeartbeats 8000000
theorem qe8 (l:List Int) (m:Int) (hm:m∈l) (hle:∀ x∈l,x≤m) (hl:l.length < 4611686018427387904):Spc Tryz.prog yn [vIs l] [] (vI m) []:=by
 have h0:0 < l.length:=List.length_pos_of_mem hm
 have e0:decide ((l.length:Int) < 1) = false:=decide_eq_false (by omega)
 refine qd YZ mixm (by simp) fun e _ hst=>qk ?_
 unfold wT
 simp only [tZ,↓un_u,simprocAttr,e0,qe h0]
 refine ⟨by omega,?_⟩
 refine qw mixm (α:=Nat×Int) [3,4] (fun q=>1≤q.1∧q.1≤l.length∧q.2∈l∧∀ x∈l.take q.1,x≤q.2) (fun q=>[(3,vI q.2),(4,vI q.1)]) (fun q=>[]) (fun q=>l.length - q.1) (1,l[0]) ⟨by simp,by dsimp only;omega,List.getElem_mem h0,fun x hx=>by
  rw [show l.take 1 = [l[0]] by cases l with | nil=>simp at h0 | cons a r=>rfl,List.mem_singleton] at hx
  rw [hx];exact Int.le_refl _⟩ ?_ fun q hq=>?_
 ·exact .oA [] []
 obtain ⟨i,v⟩:=q
 obtain ⟨i0,i1,i2,i3⟩:=hq
 dsimp only at i0 i1 i2 i3
 refine sD ?_
 refine ⟨fun h2=>?_,fun h2=>?_⟩
 ·have hi2:i < l.length:=by omega
  have hwi:=qo (i:=i) (by omega)
  simp only [tZ,↓un_u,simprocAttr,Int.toNat_natCast,qe hi2,hwi]
  refine ⟨by omega,(i + 1,maxI v l[i]),⟨by dsimp only;omega,by dsimp only;omega,?_,fun x hx=>?_⟩,by dsimp only;omega,?_⟩
  ·dsimp only [maxI]
   split
   ·exact List.getElem_mem hi2
   ·exact i2
  ·dsimp only at hx
   dsimp only [maxI]
   rw [qS hi2] at hx
   rcases List.mem_append.1 hx with k | k
   ·have:=i3 x k
    split <;> omega
   ·rw [List.mem_singleton.1 k]
    split <;> omega
  ·exact .oA [] []
 ·have hv:v = m:=by
   have h5:=hle v i2
   have h6:=i3 m (by rw [List.take_of_length_le (by omega)];exact hm)
   omega
  rw [hv]
  exact .oA [] []
theorem QO (l:CodL):Spc Tryz.prog ki [cdlT l] [] (vI (zj l)) []:=by
 refine qd ql2 mixm (by simp) fun e _ hst=>qk ?_
 unfold Qi
 refine sW ?_
 refine C1.im (yM l) (by rfl) (by rfl) ?_
 simp only [tZ,↓un_u,simprocAttr,bne_iff_ne,bne_eq_false_iff_eq]
 refine ⟨fun h=>?_,fun h=>?_⟩
 ·rw [zj,if_pos h]
  exact .oA [] []
 obtain ⟨hp,h1,h2⟩:=zU h
 have hdl:=Kb l.codes
 have hL:zj l = (dep l.codes (l.codes.length - 1):Int) + 1:=by rw [zj,if_neg (by rw [h];simp)]
 have hd:=ql4 hp (l.codes.length - 1) (by omega)
 have hM:=qe8 (depL l.codes) (dep l.codes (l.codes.length - 1)) (List.mem_map.2 ⟨l.codes.length - 1,List.mem_range.2 (by omega),rfl⟩) (fun x hx=>by
  obtain ⟨c,hc,rfl⟩:=List.mem_map.1 hx
  have:=(qM9 h (List.mem_range.1 hc)).1
  omega) (by omega)
 have hw:=qo (i:=dep l.codes (l.codes.length - 1)) (by omega)
 refine C1.im (kj l (Yo h)) (by rfl) (by rfl) ?_
 refine sW ?_
 refine C1.im hM (by rfl) (by rfl) ?_
 simp only [tZ,↓un_u,simprocAttr,hw]
 rw [hL]
 exact .oA [] []
def hasB (l:CodL) (c:Int):Bool:=decide (0≤c) && decide (c < l.codes.length) && (lstE l == 0)
theorem Wl (l:CodL) (c:Int):Spc Tryz.prog yY [cdlT l,vI c] [] (vB (hasB l c)) []:=by
 refine qd qG7 mixm (by simp) fun e _ hst=>qk ?_
 unfold JK
 refine sW ?_
 refine C2.im (fun _=>yM l) (fun _=>rfl) (by rfl) ?_
 refine sW ?_
 rw [show hasB l c = (decide (0≤c) && decide (c < l.codes.length) && (lstE l == 0)) from rfl]
 exact .oA [] []
theorem Yp {l:CodL} {c:Int}:hasB l c = true↔0≤c∧c < l.codes.length∧lstE l = 0:=by
 unfold hasB
 rw [Bool.and_eq_true,Bool.and_eq_true,decide_eq_true_eq,decide_eq_true_eq,beq_iff_eq,and_assoc]
theorem qx4 {cs:List Cod} {c:Nat} (h:c < (depL cs).length):(depL cs)[c] = dep cs c:=by simp [depL]
theorem qa4 (l:CodL) (lev:Int):Spc Tryz.prog QS [cdlT l,vI lev] [] (vIs (atL l lev)) []:=by
 refine qd qM4 mixm (by simp) fun e _ hst=>qk ?_
 unfold Wb
 refine sW ?_
 refine C1.im (yM l) (by rfl) (by rfl) ?_
 simp only [tZ,↓un_u,simprocAttr,bne_iff_ne,bne_eq_false_iff_eq]
 refine ⟨fun h=>?_,fun h=>?_⟩
 ·rw [atL,if_pos h]
  exact .oA [] []
 obtain ⟨hp,h1,h2⟩:=zU h
 have e:atL l lev = atN l.codes lev l.codes.length:=by rw [atL,if_neg (by rw [h];simp)];rfl
 rw [e]
 have hdl:=Kb l.codes
 refine C1.im (kj l (Yo h)) (by rfl) (by rfl) ?_
 refine sW ?_
 refine qw mixm (α:=Nat) [5,14] (fun i=>i≤l.codes.length) (fun i=>[(5,.asl 1 (atN l.codes lev i).length),(14,vI i)]) (fun i=>[(1,.arr 1 ((atN l.codes lev i).map vI) false)]) (fun i=>l.codes.length - i) 0 (by omega) ?_ fun i hi=>?_
 ·simp only [atN,List.range_zero,List.filter_nil,List.map_nil,List.length_nil]
  exact .oA [(1,none)] []
 have hli:=zM0 l.codes lev i
 refine sD ?_
 refine ⟨fun h3=>?_,fun h3=>?_⟩
 ·have hi2:i < (depL l.codes).length:=by omega
  have hwi:=qo (i:=i) (by omega)
  have hs:=zz8 l.codes lev i
  simp only [tZ,↓un_u,simprocAttr,Int.toNat_natCast,qe hi2,qx4 hi2,beq_iff_eq,beq_eq_false_iff_ne,hwi]
  refine ⟨by omega,fun h4=>?_,fun h4=>?_⟩
  ·rw [if_pos h4] at hs
   refine ⟨by omega,i + 1,by omega,by omega,?_⟩
   rw [hs]
   exact .oA [(1,some 1)] []
  ·rw [if_neg h4,List.append_nil] at hs
   refine ⟨i + 1,by omega,by omega,?_⟩
   rw [hs]
   exact .oA [(1,some 1)] []
 ·have hil:i = l.codes.length:=by omega
  subst hil
  exact .oA [] [1]
theorem Kc (l:CodL) (c lev:Int):Spc Tryz.prog wF [cdlT l,vI c,vI lev] [] (vI (upC l c lev)) []:=by
 refine qd qM2 mixm (by simp) fun e _ hst=>qk ?_
 unfold Wa
 refine sW ?_
 refine C1.im (Wl l c) (by rfl) (by rfl) ?_
 simp only [tZ,↓un_u,simprocAttr,tD,Bool.not_eq_true',Bool.not_eq_false']
 refine ⟨fun h=>?_,fun h=>?_⟩
 ·have:upC l c lev = -1:=by
   rw [upC]
   by_cases k:lstE l≠0∨c < 0∨c≥l.codes.length∨lev < 0∨lev > dep l.codes c.toNat
   ·rw [if_pos k]
   ·rcases h with h | h
    ·have:=Yp (l:=l) (c:=c)
     rw [h] at this
     exact absurd (this.2 ⟨by omega,by omega,Classical.byContradiction fun q=>k (.inl q)⟩) (by simp)
    ·omega
  rw [this]
  exact .oA [] []
 obtain ⟨h0,h1,h2⟩:=Yp.1 h.1
 obtain ⟨hp,h3,h4⟩:=zU h2
 obtain ⟨k,rfl⟩:=Int.eq_ofNat_of_zero_le h0
 obtain ⟨v,rfl⟩:=Int.eq_ofNat_of_zero_le (show 0≤lev by omega)
 have hdl:=Kb l.codes
 have hk:k < (depL l.codes).length:=by omega
 have hdk:=ql4 hp k (by omega)
 refine C1.im (kj l (Yo h2)) (by rfl) (by rfl) ?_
 simp only [tZ,↓un_u,simprocAttr,Int.toNat_natCast,qe hk,qx4 hk]
 refine ⟨by omega,?_⟩
 by_cases hlv:dep l.codes k < v
 ·have hU:upC l k v = -1:=by rw [upC,if_pos (by simp;omega)]
  rw [hU]
  refine qw mixm (α:=Unit) [1,7] (fun _=>True) (fun _=>[(1,vI k),(7,vI (dep l.codes k))]) (fun _=>[(4096,.arr 2 [cdlT l] false)]) (fun _=>0) () trivial ?_ fun _ _=>?_
  ·exact .oA [(4096,some 4096)] []
  have e0:decide ((dep l.codes k:Int)≥(v:Int)) = false:=decide_eq_false (by omega)
  have e1:decide ((v:Int)≤(dep l.codes k:Int)) = false:=decide_eq_false (by omega)
  simp only [tZ,↓un_u,simprocAttr,e0,e1]
  exact .oA [] []
 have hU:upC l k v = upF l.codes v (k + 1) k:=by rw [upC,if_neg (by simp;omega),Int.toNat_natCast,Int.toNat_natCast]
 rw [hU]
 refine qw mixm (α:=Nat) [1,7] (fun x=>x < l.codes.length∧v≤dep l.codes x∧upF l.codes v (k + 1) k = upF l.codes v (x + 1) x) (fun x=>[(1,vI x),(7,vI (dep l.codes x))]) (fun x=>[(4096,.arr 2 [cdlT l] false)]) (fun x=>x) k ⟨by omega,by omega,rfl⟩ ?_ fun x hx=>?_
 ·exact .oA [(4096,some 4096)] []
 obtain ⟨x1,x2,x3⟩:=hx
 have hcd:l.codes[x].par = parC l.codes x:=by rw [parC,cdAt,qr x1]
 have e0:decide ((dep l.codes x:Int)≥(v:Int)) = true:=decide_eq_true (by omega)
 have e1:decide ((v:Int)≤(dep l.codes x:Int)) = true:=decide_eq_true (by omega)
 have hdx:=ql4 hp x x1
 simp only [tZ,↓un_u,simprocAttr,e0,e1,Int.toNat_natCast,qe x1,hcd,beq_iff_eq,beq_eq_false_iff_ne]
 refine ⟨fun h6=>?_,fun h6=>?_⟩
 ·rw [x3,zq6 (by omega)]
  exact .oA [] []
 ·obtain ⟨u1,u2,u3,u4⟩:=up_step hp (lev:=v) x1 (by omega)
  obtain ⟨p,hpe⟩:=Int.eq_ofNat_of_zero_le u1
  have hw:IntKind.i64.wrap ((dep l.codes x:Int) - 1) = (dep l.codes p:Int):=by
   rw [IntWalk.i64_in _ (by omega),u3,hpe,Int.toNat_natCast];omega
  rw [hpe,Int.toNat_natCast] at u4 u3
  simp only [tZ,↓un_u,simprocAttr,hpe,hw]
  refine ⟨by omega,p,⟨by omega,by omega,x3.trans u4⟩,by omega,?_⟩
  exact .oA [(4096,some 4096)] []
theorem qx5 (l:CodL) (c a:Int):Spc Tryz.prog Zq [cdlT l,vI c,vI a] [] (vB (qc3 l c a)) []:=by
 refine qd qp3 mixm (by simp) fun e _ hst=>qk ?_
 unfold QL
 refine sW ?_
 refine C1.im (Wl l c) (by rfl) (by rfl) ?_
 refine sW ?_
 refine C2.im (fun _=>Wl l a) (fun _=>rfl) (by rfl) ?_
 simp only [tZ,↓un_u,simprocAttr,Bool.or_eq_true,Bool.or_eq_false_iff,Bool.not_eq_true',Bool.not_eq_false']
 refine ⟨fun h=>?_,fun h=>?_⟩
 ·have:qc3 l c a = false:=by
   cases e:qc3 l c a with
   | false=>rfl
   | true=>
     unfold qc3 at e
     simp only [Bool.and_eq_true,decide_eq_true_eq,beq_iff_eq] at e
     obtain ⟨⟨e1,e2⟩,e3⟩:=e
     have key:∀ x,0≤lvlC l x→hasB l x = true:=fun x hx=>by
      rw [Yp]
      unfold lvlC at hx
      split at hx
      ·omega
      ·rename_i q
       exact ⟨by omega,by omega,Classical.byContradiction fun z=>q (.inl z)⟩
     have ha:=key a e1
     have hc:=key c (by omega)
     rcases h with h | h
     ·rw [hc] at h;cases h
     ·rw [ha] at h;cases h
  rw [this]
  exact .oA [] []
 obtain ⟨c0,c1,c2⟩:=Yp.1 h.1
 obtain ⟨a0,a1,_⟩:=Yp.1 h.2
 obtain ⟨hp,h3,h4⟩:=zU c2
 obtain ⟨k,rfl⟩:=Int.eq_ofNat_of_zero_le c0
 obtain ⟨j,rfl⟩:=Int.eq_ofNat_of_zero_le a0
 have hdl:=Kb l.codes
 have hj:j < (depL l.codes).length:=by omega
 have hdk:=ql4 hp k (by omega)
 have hdj:=ql4 hp j (by omega)
 have l1:lvlC l j = dep l.codes j:=by rw [lvlC,if_neg (by rw [c2];simp;omega),Int.toNat_natCast]
 have l2:lvlC l k = dep l.codes k:=by rw [lvlC,if_neg (by rw [c2];simp;omega),Int.toNat_natCast]
 have hU:qc3 l k j = (upC l k (dep l.codes j) == (j:Int)):=by
  unfold qc3
  rw [l1,l2,decide_eq_true (by omega),Bool.true_and]
  by_cases q:(dep l.codes j:Int)≤dep l.codes k
  ·rw [decide_eq_true q,Bool.true_and]
  ·rw [decide_eq_false q,Bool.false_and,upC,if_pos (by simp;omega)]
   symm
   exact beq_eq_false_iff_ne.2 (by omega)
 rw [hU]
 refine C1.im (kj l (Yo c2)) (by rfl) (by rfl) ?_
 simp only [tZ,↓un_u,simprocAttr,Int.toNat_natCast,qe hj,qx4 hj]
 refine ⟨by omega,?_⟩
 refine C1.im (Kc l k (dep l.codes j)) (by rfl) (by rfl) ?_
 refine sW ?_
 repeat (first | refine ⟨by omega,?_⟩ | refine ⟨by kernel_rfl,?_⟩)
 exact .oA [] []
end Go.Proofs
namespace Go.Proofs
open Go Go.TL
set_option maxRecDepth 4000
set_option maxHeartbeats 8000000
theorem qN0 {n w:Int} (hw:0 < w):qy n w * w = n - (if n.tmod w < 0 then n.tmod w + w else n.tmod w):=by
 have h1:=Int.mul_tdiv_add_tmod n w
 rw [Int.mul_comm] at h1
 rw [zA0 hw]
 split
 ·rw [Int.sub_mul];omega
 ·omega
theorem ZJ (n w:Int) (hw:0 < w∧w≤1000000) (hn : -4611686018427387904 < n∧n < 4611686018427387904):Spc Tryz.prog kS [vI n,vI w] [] (vI (qy n w * w)) []:=by
 rw [qN0 hw.1]
 have h2:=Int.tmod_lt_of_pos n hw.1
 have h3:=Int.lt_tmod_of_pos n hw.1
 have w1:IntKind.i64.wrap (n.tmod w) = n.tmod w:=IntWalk.i64_in _ (by omega)
 have w2:IntKind.i64.wrap (n.tmod w + w) = n.tmod w + w:=IntWalk.i64_in _ (by omega)
 have w3:IntKind.i64.wrap (n - n.tmod w) = n - n.tmod w:=IntWalk.i64_in _ (by omega)
 have w4:IntKind.i64.wrap (n - (n.tmod w + w)) = n - (n.tmod w + w):=IntWalk.i64_in _ (by omega)
 refine qd qo9 mixm (by simp) fun e _ hst=>qk ?_
 unfold QJ
 simp only [tZ,↓un_u,simprocAttr,w1,w2,w3,w4,tD]
 refine ⟨by omega,fun h=>?_,fun h=>?_⟩
 ·rw [if_pos h]
  exact .oA [] []
 ·rw [if_neg h]
  exact .oA [] []
theorem KK (c:Col) (lev:Int) (h1:1≤lev∧lev≤c.widths.length) (h2:c.widths.length < 4611686018427387904):Spc Tryz.prog ya [colT c,vI lev] [] (vI (zd c lev)) []:=by
 have hw:IntKind.i64.wrap ((c.widths.length:Int) - lev) = (c.widths.length:Int) - lev:=IntWalk.i64_in _ (by omega)
 have hk:((c.widths.length:Int) - lev).toNat < c.widths.length:=by omega
 refine qd qk8 mixm (by simp) fun e _ hst=>qk ?_
 unfold Qg
 simp only [tZ,↓un_u,simprocAttr,hw,qe hk]
 rw [zd,qr hk]
 refine ⟨by omega,?_⟩
 exact .oA [] []
theorem Qq (s:Sch) (hE:schE s = 0) (c:Int):Spc Tryz.prog jD [schT s,vI c] [] (vI (finI s c)) []:=by
 have hok:=zq hE
 have hnc:=hok.nc
 refine qd qe2 mixm (by simp) fun e _ hst=>qk ?_
 unfold yw
 refine sD ?_
 refine ⟨fun h=>?_,fun h=>?_⟩
 ·rw [finI,if_pos (by omega)]
  exact .oA [] []
 obtain ⟨i,rfl⟩:=Int.eq_ofNat_of_zero_le (show 0≤c by omega)
 have hi:i < s.cols.length:=by omega
 have hat:qh s i = s.cols[i]:=by rw [qh,qr hi]
 have hk:=zA (hok.cs i hi)
 have hcd:=fun e=>hok.cdl hi e
 have hcl:qH s i = s.lists.getD s.cols[i].list.toNat default:=by rw [qH,hat]
 rw [hat] at hk hcd
 rw [hcl] at hcd
 rw [finI,if_neg (by omega),Int.toNat_natCast,hcl,hat]
 simp only [tZ,↓un_u,simprocAttr,Int.toNat_natCast,qe hi]
 generalize s.cols[i] = x at hk hcd ⊢
 simp only [tZ,↓un_u,simprocAttr,beq_iff_eq,beq_eq_false_iff_ne]
 refine ⟨by omega,fun h2=>?_,fun h2=>?_⟩
 ·obtain ⟨d1,d2⟩:=hcd h2
  obtain ⟨d3,d4⟩:=hk.2.2.2.1 h2
  have hgl:s.lists.getD x.list.toNat default = s.lists[x.list.toNat]:=qr d1
  rw [if_pos h2]
  rw [hgl] at d2 ⊢
  simp only [tZ,↓un_u,simprocAttr,qe d1]
  generalize s.lists[x.list.toNat] = l at d2 ⊢
  have hlv:=qw7 (l:=l)
  have hw2:IntKind.i64.wrap (zj l - 1) = zj l - 1:=IntWalk.i64_in _ (by omega)
  refine ⟨by omega,?_⟩
  refine C1.im (QO l) (by rfl) (by rfl) ?_
  simp only [tZ,↓un_u,simprocAttr,hw2]
  exact .oA [] []
 ·rw [if_neg h2]
  exact .oA [] []
theorem wu (s:Sch) (hs:Jc s) (c:Int):Spc Tryz.prog zW [schT s,vI c] [] (vI (finI s c)) []:=by
 refine qd qd4 mixm (by simp) fun e _ hst=>qk ?_
 unfold yq
 refine sW ?_
 refine C1.im (js s hs.2.1 hs.1) (by rfl) (by rfl) ?_
 simp only [tZ,↓un_u,simprocAttr,bne_iff_ne,bne_eq_false_iff_eq]
 refine ⟨fun h=>?_,fun h=>?_⟩
 ·rw [finI,if_pos (.inl h)]
  exact .oA [] []
 refine C1.im (Qq s h c) (by rfl) (by rfl) ?_
 refine sW ?_
 exact .oA [] []
theorem JM (s:Sch) (hs:Jc s) (c lev v:Int):Spc Tryz.prog zY [schT s,vI c,vI lev,vI v] [] (vI (qG s c lev v)) []:=by
 refine qd qd8 mixm (by simp) fun e _ hst=>qk ?_
 unfold yu
 refine sW ?_
 refine C1.im (wu s hs c) (by rfl) (by rfl) ?_
 refine sD ?_
 refine ⟨fun h=>?_,fun h=>?_⟩
 ·rw [qG,if_pos (qm0.2 (by omega))]
  exact .oA [] []
 obtain ⟨hE,c1,c2,hfin⟩:=ZF (s:=s) (c:=c) (by omega)
 have hok:=zq hE
 obtain ⟨i,rfl⟩:=Int.eq_ofNat_of_zero_le (show 0≤c by omega)
 rw [Int.toNat_natCast] at hfin
 have hi:i < s.cols.length:=by omega
 have hat:qh s i = s.cols[i]:=by rw [qh,qr hi]
 have hk:=zA (hok.cs i hi)
 have hcd:=fun e=>hok.cdl hi e
 have hwd:=fun e l=>hok.wid hi (by omega) e (lev:=l)
 have hcl:qH s i = s.lists.getD s.cols[i].list.toNat default:=by rw [qH,hat]
 have hE2:qG s i lev v = if s.cols[i].kind = 2 then (if jM s i v = false then -1 else upC (qH s i) v lev)
  else if v≠Wg∧inB v (-1000000) 1000000 = false then -1
  else if lev = 0 then 0 else if v = Wg then v else qy v (zd s.cols[i] lev) * zd s.cols[i] lev:=by
  rw [qG,if_neg (by rw [Bool.not_eq_false,KJ];omega),Int.toNat_natCast,hat]
 rw [hE2]
 rw [hat] at hk hcd hwd hfin
 rw [hcl] at hcd ⊢
 simp only [tZ,↓un_u,simprocAttr,Int.toNat_natCast,qe hi]
 have hho:=qx3 s hok i hi v
 generalize s.cols[i] = x at hk hcd hwd hfin hho ⊢
 refine ⟨by omega,?_⟩
 refine C2.im (fun _=>hho) (fun _=>rfl) (by rfl) ?_
 simp only [tZ,↓un_u,simprocAttr,tD,bne_iff_ne,bne_eq_false_iff_eq,Bool.not_eq_true',Bool.not_eq_false',beq_iff_eq,beq_eq_false_iff_ne]
 rw [show (-1099511627776:Int) = Wg from rfl]
 refine ⟨fun h3=>?_,fun h3=>⟨fun h2=>?_,fun h2=>?_⟩⟩
 ·rw [if_pos h3.1,if_pos h3.2]
  exact .oA [] []
 ·rw [if_pos h2]
  obtain ⟨d1,d2⟩:=hcd h2
  obtain ⟨d3,d4⟩:=hk.2.2.2.1 h2
  have hgl:s.lists.getD x.list.toNat default = s.lists[x.list.toNat]:=qr d1
  rw [hgl] at d2 ⊢
  rw [if_neg (by grind)]
  simp only [tZ,↓un_u,simprocAttr,qe d1]
  generalize s.lists[x.list.toNat] = l at d2 ⊢
  refine ⟨by omega,?_⟩
  refine C1.im (Kc l v lev) (by rfl) (by rfl) ?_
  refine sW ?_
  exact .oA [] []
 rw [if_neg h2]
 rw [if_neg h2] at hfin
 refine ⟨fun h3=>?_,fun h3=>?_⟩
 ·rw [if_pos ⟨by omega,qm0.2 (by omega)⟩]
  exact .oA [] []
 rw [if_neg (by rw [qm0];omega)]
 refine ⟨fun h4=>?_,fun h4=>?_⟩
 ·rw [if_pos h4]
  exact .oA [] []
 rw [if_neg h4]
 refine ⟨fun h5=>?_,fun h5=>?_⟩
 ·rw [if_pos h5,h5]
  exact .oA [] []
 rw [if_neg h5]
 obtain ⟨w1,w2,w3,w4,_⟩:=hwd h2 lev (by omega)
 refine C1.im (KK x lev (by omega) (by omega)) (by rfl) (by rfl) ?_
 refine sW ?_
 refine C1.im (ZJ v (zd x lev) (by omega) (by omega)) (by rfl) (by rfl) ?_
 refine sW ?_
 exact .oA [] []
theorem Yq (s:Sch) (hE:schE s = 0) (p:Pk):Spc Tryz.prog yH [schT s,pkT p] [] (vI (ZE s p)) []:=by
 have hP:ZE s p = if finI s p.col < 0 then 7 else if inB p.lev 0 (finI s p.col) = false then 8 else 0:=by
  rw [ZE,if_neg (by rw [hE];simp)]
  by_cases h:p.col < 1∨p.col≥s.cols.length
  ·rw [if_pos h,if_pos (by rw [finI,if_pos (by omega)];omega)]
  ·rw [if_neg h]
   have:0≤finI s p.col:=by
    rw [finI,if_neg (by omega)]
    split
    ·rename_i h2
     have hok:=zq hE
     obtain ⟨_,d2⟩:=hok.cdl (i:=p.col.toNat) (by omega) h2
     rw [zj,if_neg (by rw [d2];simp)]
     omega
    ·omega
   rw [if_neg (show ¬ finI s p.col < 0 by omega)]
 rw [hP]
 refine qd qo3 mixm (by simp) fun e _ hst=>qk ?_
 unfold QG
 refine sW ?_
 refine C1.im (Qq s hE p.col) (by rfl) (by rfl) ?_
 refine sD ?_
 refine ⟨fun h=>?_,fun h=>⟨fun h2=>?_,fun h2=>?_⟩⟩
 ·rw [if_pos h]
  exact .oA [] []
 ·rw [if_neg h,if_pos (qm0.2 (by omega))]
  exact .oA [] []
 ·rw [if_neg h,if_neg (by rw [qm0];omega)]
  exact .oA [] []
theorem qx6 (s:Sch) (hs:Jc s) (p:Pk):Spc Tryz.prog Zp [schT s,pkT p] [] (vI (ZE s p)) []:=by
 refine qd qp1 mixm (by simp) fun e _ hst=>qk ?_
 unfold QK
 refine sW ?_
 refine C1.im (js s hs.2.1 hs.1) (by rfl) (by rfl) ?_
 simp only [tZ,↓un_u,simprocAttr,bne_iff_ne,bne_eq_false_iff_eq]
 refine ⟨fun h=>?_,fun h=>?_⟩
 ·rw [ZE,if_pos h]
  exact .oA [] []
 refine C1.im (Yq s h p) (by rfl) (by rfl) ?_
 refine sW ?_
 exact .oA [] []
theorem qp7 (s:Sch) (hs:Jc s) (l:List Pk) (hl:l.length < 4611686018427387904):Spc Tryz.prog QC [schT s,vPs l] [] (vI (Yl s l)) []:=by
 refine qd qk2 mixm (by simp) fun e _ hst=>qk ?_
 unfold Qa
 refine sW ?_
 refine C1.im (js s hs.2.1 hs.1) (by rfl) (by rfl) ?_
 simp only [tZ,↓un_u,simprocAttr,bne_iff_ne,bne_eq_false_iff_eq]
 refine ⟨fun h=>?_,fun hE=>?_⟩
 ·rw [Yl,if_pos h]
  exact .oA [] []
 rw [Yl,if_neg (by rw [hE];simp)]
 refine qw mixm (α:=Nat) [16] (fun i=>i≤l.length∧(zF (qH4 s l) i = 0)) (fun i=>[(16,vI i)]) (fun i=>[(4096,.arr 2 [schT s] false)]) (fun i=>l.length - i) 0 ⟨by omega,?_⟩ ?_ fun i hi=>?_
 ·rfl
 ·exact .oA [(4096,some 4096)] []
 simp only [tZ,↓un_u,simprocAttr,decide_eq_true_eq,decide_eq_false_iff_not]
 refine ⟨fun h=>?_,fun h=>?_⟩
 ·have hi2:i < l.length:=by omega
  have hpi:pkAt l i = l[i]:=by rw [pkAt,qr hi2]
  have hstep:=Ka hi.2 hi2
  have hnext:=wV hi.2
  have hA:qH4 s l i = if ZE s l[i]≠0 then ZE s l[i] else if 0 < i∧l[i].col≤(pkAt l (i - 1)).col then 10 else 0:=by rw [qH4,hpi]
  have hi2:i < l.length:=by omega
  have hwi:=qo (i:=i) (by omega)
  simp only [tZ,↓un_u,simprocAttr,Int.toNat_natCast,qe hi2,hwi]
  refine ⟨by omega,?_⟩
  refine C1.im (Yq s hE l[i]) (by rfl) (by rfl) ?_
  simp only [tZ,↓un_u,simprocAttr,bne_iff_ne,bne_eq_false_iff_eq]
  refine ⟨fun h3=>?_,fun h3=>?_⟩
  ·rw [if_pos h3] at hA
   rw [hstep (by rw [hA];exact h3),hA]
   exact .oA [] []
  rw [if_neg (by rw [h3];simp)] at hA
  rcases Nat.eq_zero_or_pos i with h0 | h0
  ·subst h0
   rw [if_neg (by omega)] at hA
   have hz:((0:Nat):Int) = 0:=rfl
   have hz2:(IntKind.i64.wrap (-1)).toNat = 0:=by decide
   have hz3:=qo (i:=0) (by omega)
   rw [hz] at hz3
   simp only [tZ,↓un_u,simprocAttr,Int.toNat_natCast,hz,beq_self_eq_true,gt_iff_lt,Int.lt_irrefl,Bool.true_and,hz2,qe hi2,hz3]
   refine ⟨by kernel_rfl,1,⟨by omega,by rw [hnext,hA]⟩,by omega,?_⟩
   exact .oA [(4096,some 4096)] []
  ·obtain ⟨k,rfl⟩:∃ k,i = k + 1:=⟨i - 1,by omega⟩
   have hk3:k < l.length:=by omega
   have e2:decide (((k + 1:Nat):Int) > 0) = true:=decide_eq_true (by omega)
   have e3:=qV7 (i:=k + 1) (by omega) (by omega)
   rw [Nat.add_sub_cancel] at e3 hA
   rw [pkAt,qr hk3] at hA
   simp only [tZ,↓un_u,simprocAttr,Int.toNat_natCast,qe hi2,qe hk3,e2,e3,hwi,tD]
   refine ⟨by omega,by kernel_rfl,fun h4=>?_,fun h4=>?_⟩
   ·rw [if_pos ⟨by omega,h4⟩] at hA
    rw [hstep (by rw [hA];simp),hA]
    exact .oA [] []
   ·rw [if_neg (by omega)] at hA
    refine ⟨k + 2,⟨by omega,by rw [hnext,hA]⟩,by omega,?_⟩
    exact .oA [(4096,some 4096)] []
 ·have hi2:i = l.length:=by omega
  subst hi2
  rw [hi.2]
  exact .oA [] []
theorem qW9 (a b:Int):maxI a b = max a b:=by unfold maxI;split <;> omega
theorem zH8 (a b:Int):minI a b = min a b:=by unfold minI;split <;> omega
end Go.Proofs
namespace Go.Proofs
open Go Go.TL
set_option maxHeartbeats 4000000
abbrev upN (cs:List Cod) (v x:Nat):Nat:=upF cs v (x + 1) x
theorem qx7 {cs:List Cod} {v x:Nat} (h:dep cs x≤v):upN cs v x = x:=zq6 h _
theorem zr9 {cs:List Cod} (hp:qp4 cs) {v:Nat}:∀ x,x < cs.length→v≤dep cs x→dep cs (upN cs v x) = v∧upN cs v x≤x:=by
 intro x
 induction x using Nat.strongRecOn with
 | _ x ih=>
   intro hx hv
   by_cases h:dep cs x≤v
   ·rw [qx7 h];exact ⟨by omega,Nat.le_refl _⟩
   ·obtain ⟨u1,u2,u3,u4⟩:=up_step hp (lev:=v) hx (by omega)
    have:=ih (parC cs x).toNat (by omega) (by omega) (by omega)
    rw [show upN cs v x = upN cs v (parC cs x).toNat from u4]
    exact ⟨this.1,by omega⟩
theorem qI5 {cs:List Cod} (hp:qp4 cs) {o v:Nat} (ho:o≤v):∀ x,x < cs.length→v≤dep cs x→upN cs o (upN cs v x) = upN cs o x:=by
 intro x
 induction x using Nat.strongRecOn with
 | _ x ih=>
   intro hx hv
   by_cases h:dep cs x≤v
   ·rw [qx7 h]
   ·obtain ⟨u1,u2,u3,u4⟩:=up_step hp (lev:=v) hx (by omega)
    obtain ⟨_,_,_,u5⟩:=up_step hp (lev:=o) hx (by omega)
    rw [show upN cs v x = upN cs v (parC cs x).toNat from u4,show upN cs o x = upN cs o (parC cs x).toNat from u5]
    exact ih (parC cs x).toNat (by omega) (by omega) (by omega)
theorem zB4 {l:CodL} (h:lstE l = 0):∀ (k c:Nat),l.codes.length - c = k→c < l.codes.length→∀ v,dep l.codes c≤v→(v:Int)≤zj l - 1→∃ d,d < l.codes.length∧dep l.codes d = v∧upN l.codes (dep l.codes c) d = c:=by
 intro k
 induction k using Nat.strongRecOn with
 | _ k ih=>
   intro c hk hc v hv ht
   by_cases e:dep l.codes c = v
   ·exact ⟨c,hc,e,qx7 (Nat.le_refl _)⟩
   obtain ⟨hp,h1,h2⟩:=zU h
   obtain ⟨t1,t2,t3⟩:=qM9 h hc
   cases hl:Yh l.codes c with
   | true=>have:=t2 hl;omega
   | false=>
     have hn:¬ ∀ i,i < l.codes.length→parC l.codes i≠c:=fun k=>by rw [qx2.2 k] at hl;cases hl
     simp only [Classical.not_forall] at hn
     obtain ⟨i,hi,hn⟩:=hn
     have hpc:parC l.codes i = c:=Classical.byContradiction hn
     have h3:=hp i hi
     have h4:=ql3 hp hi (by omega)
     rw [hpc,Int.toNat_natCast] at h4
     obtain ⟨d,d1,d2,d3⟩:=ih (l.codes.length - i) (by omega) i rfl hi v (by omega) ht
     refine ⟨d,d1,d2,?_⟩
     have h5:=qI5 hp (o:=dep l.codes c) (v:=dep l.codes i) (by omega) d d1 (by omega)
     rw [← h5,d3]
     obtain ⟨_,_,_,u5⟩:=up_step hp (lev:=dep l.codes c) hi (by omega)
     rw [show upN l.codes (dep l.codes c) i = upN l.codes (dep l.codes c) (parC l.codes i).toNat from u5,hpc,Int.toNat_natCast]
     exact qx7 (Nat.le_refl _)
theorem zB5 {α:Type} [DecidableEq α]:∀ {a b:List α},a.Nodup→(∀ x∈a,x∈b)→a.length≤b.length
 | [],_,_,_=>Nat.zero_le _
 | x :: r,b,hn,hs=>by
   rw [List.nodup_cons] at hn
   have hx:=hs x (List.mem_cons_self ..)
   have:=zB5 (a:=r) (b:=b.erase x) hn.2 fun y hy=>(List.mem_erase_of_ne (fun e=>hn.1 (by rw [← e];exact hy))).2 (hs y (List.mem_cons_of_mem _ hy))
   rw [List.length_erase_of_mem hx] at this
   have:=List.length_pos_of_mem hx
   simp only [List.length_cons]
   omega
abbrev lvN (cs:List Cod) (v:Nat):List Nat:=(List.range cs.length).filter fun i=>(dep cs i:Int) == v
theorem ZK {cs:List Cod} {v x:Nat}:x∈lvN cs v↔x < cs.length∧dep cs x = v:=by
 rw [List.mem_filter,List.mem_range,beq_iff_eq];omega
theorem zs0 (cs:List Cod) (v:Nat):(lvN cs v).Nodup:=List.Nodup.sublist List.filter_sublist List.nodup_range
theorem zM9 {l:CodL} (h:lstE l = 0) (v:Nat):(atL l v).length = (lvN l.codes v).length:=by
 rw [atL,if_neg (by rw [h];simp),List.length_map]
theorem zH9 {l:CodL} (h:lstE l = 0) {o v:Nat} (ho:o≤v) (hv:(v:Int)≤zj l - 1):(lvN l.codes o).length≤(lvN l.codes v).length:=by
 obtain ⟨hp,h1,h2⟩:=zU h
 rw [show (lvN l.codes v).length = ((lvN l.codes v).map (upN l.codes o)).length by rw [List.length_map]]
 refine zB5 (zs0 _ _) fun c hc=>?_
 rw [ZK] at hc
 obtain ⟨d,d1,d2,d3⟩:=zB4 h _ c rfl hc.1 v (by omega) hv
 rw [hc.2] at d3
 exact List.mem_map.2 ⟨d,ZK.2 ⟨d1,d2⟩,d3⟩
theorem zS1 {l:CodL} (h:lstE l = 0) {o v:Nat} (ho:o≤v) (hv:(v:Int)≤zj l - 1):(lvN l.codes o).length = (lvN l.codes v).length↔∀ a b,a < l.codes.length→b < l.codes.length→dep l.codes a = v→dep l.codes b = v→upN l.codes o a = upN l.codes o b→a = b:=by
 obtain ⟨hp,h1,h2⟩:=zU h
 constructor
 ·intro e a b ha hb da db hab
  refine Classical.byContradiction fun hne=>?_
  have ma:a∈lvN l.codes v:=ZK.2 ⟨ha,da⟩
  have mb:b∈(lvN l.codes v).erase a:=(List.mem_erase_of_ne (fun e=>hne e.symm)).2 (ZK.2 ⟨hb,db⟩)
  have:=zB5 (a:=lvN l.codes o) (b:=((lvN l.codes v).erase a).map (upN l.codes o)) (zs0 _ _) fun c hc=>by
   rw [ZK] at hc
   obtain ⟨d,d1,d2,d3⟩:=zB4 h _ c rfl hc.1 v (by omega) hv
   rw [hc.2] at d3
   by_cases k:d = a
   ·exact List.mem_map.2 ⟨b,mb,by rw [← hab,← k,d3]⟩
   ·exact List.mem_map.2 ⟨d,(List.mem_erase_of_ne k).2 (ZK.2 ⟨d1,d2⟩),d3⟩
  rw [List.length_map,List.length_erase_of_mem ma] at this
  have:=List.length_pos_of_mem ma
  omega
 ·intro hi
  refine Nat.le_antisymm (zH9 h ho hv) ?_
  rw [show (lvN l.codes v).length = ((lvN l.codes v).map (upN l.codes o)).length by rw [List.length_map]]
  refine zB5 ?_ fun c hc=>?_
  ·rw [List.Nodup,List.pairwise_map]
   refine List.Pairwise.imp_of_mem ?_ (zs0 l.codes v)
   intro a b ha hb hne e
   rw [ZK] at ha hb
   exact hne (hi a b ha.1 hb.1 ha.2 hb.2 e)
  ·obtain ⟨d,hd,rfl⟩:=List.mem_map.1 hc
   rw [ZK] at hd
   have:=zr9 hp (v:=o) d hd.1 (by omega)
   exact ZK.2 ⟨by omega,this.1⟩
theorem qm9 {a k m:Int} (hk:1≤k) (hm:0≤m):qy a k≤qy (a + m) k∧qy (a + m) k≤qy a k + m:=by
 unfold qy
 rw [Int.fdiv_eq_ediv_of_nonneg _ (by omega),Int.fdiv_eq_ediv_of_nonneg _ (by omega)]
 have h1:=Int.mul_ediv_add_emod a k
 have h2:=Int.emod_nonneg a (b:=k) (by omega)
 have h3:=Int.emod_lt_of_pos a (b:=k) (by omega)
 have h4:=Int.mul_ediv_add_emod (a + m) k
 have h5:=Int.emod_nonneg (a + m) (b:=k) (by omega)
 have h6:=Int.emod_lt_of_pos (a + m) (b:=k) (by omega)
 constructor
 ·refine Classical.byContradiction fun c=>?_
  have:k * ((a + m) / k + 1)≤k * (a / k):=Int.mul_le_mul_of_nonneg_left (by omega) (by omega)
  rw [Int.mul_add] at this
  omega
 ·refine Classical.byContradiction fun c=>?_
  have:k * (a / k + m + 1)≤k * ((a + m) / k):=Int.mul_le_mul_of_nonneg_left (by omega) (by omega)
  rw [Int.mul_add,Int.mul_add] at this
  have h7:1 * m≤k * m:=Int.mul_le_mul_of_nonneg_right hk hm
  omega
theorem zS2 {a w k:Int} (hw:1≤w) (hk:1≤k):qy a (k * w) = qy (qy a w) k:=by
 have hkw:0≤k * w:=Int.mul_nonneg (by omega) (by omega)
 unfold qy
 rw [Int.fdiv_eq_ediv_of_nonneg _ (show 0≤w by omega),Int.fdiv_eq_ediv_of_nonneg _ (show 0≤k by omega),Int.fdiv_eq_ediv_of_nonneg _ hkw,Int.mul_comm,Int.ediv_ediv_of_nonneg (by omega)]
theorem zs1 {a k:Int} (hk:1≤k):(k ∣ a + 1→qy (a + 1) k = qy a k + 1)∧(¬ k ∣ a + 1→qy (a + 1) k = qy a k):=by
 unfold qy
 rw [Int.fdiv_eq_ediv_of_nonneg _ (by omega),Int.fdiv_eq_ediv_of_nonneg _ (by omega)]
 have h1:=Int.mul_ediv_add_emod a k
 have h2:=Int.emod_nonneg a (b:=k) (by omega)
 have h3:=Int.emod_lt_of_pos a (b:=k) (by omega)
 constructor
 ·rintro ⟨q,hq⟩
  rw [hq,Int.mul_ediv_cancel_left _ (by omega)]
  have:q = a / k + 1:=by
   have e:k * (q - (a / k + 1)) = a % k + 1 - k:=by rw [Int.mul_sub,Int.mul_add];omega
   have h4:q - (a / k + 1) = 0:=by
    refine Classical.byContradiction fun c=>?_
    rcases Int.lt_or_gt_of_ne c with c | c
    ·have:k * (q - (a / k + 1))≤k * (-1):=Int.mul_le_mul_of_nonneg_left (by omega) (by omega)
     omega
    ·have:k * 1≤k * (q - (a / k + 1)):=Int.mul_le_mul_of_nonneg_left (by omega) (by omega)
     omega
   omega
  exact this
 ·intro hn
  refine ((Int.ediv_emod_unique (r:=a % k + 1) (q:=a / k) (show 0 < k by omega)).2 ⟨by omega,by omega,?_⟩).1
  refine Classical.byContradiction fun c=>hn ⟨a / k + 1,?_⟩
  rw [Int.mul_add]
  omega
end Go.Proofs
namespace Go.Proofs
open Go Go.TL
set_option maxRecDepth 4000
set_option maxHeartbeats 8000000
theorem zI0 {ws:List Int} (hw:∀ j,j < ws.length→wdOk ws j = true) {i:Nat}:∀ d,i + d < ws.length→∃ k:Int,1≤k∧ws.getD (i + d) 0 = k * ws.getD i 0∧(0 < d→2≤k)
 | 0,h=>⟨1,by omega,by simp,by omega⟩
 | d + 1,h=>by
   obtain ⟨k,k1,k2,_⟩:=zI0 hw d (i:=i) (by omega)
   have h1:=hw (i + d + 1) (by omega)
   rw [wdOk,if_neg (by omega)] at h1
   simp only [Bool.and_eq_true,decide_eq_true_eq,beq_iff_eq,Nat.add_sub_cancel] at h1
   have hp:=qW4 (ws:=ws) hw (i + d) (by omega)
   obtain ⟨⟨a1,a2⟩,a3⟩:=h1
   have h2:=Int.mul_tdiv_add_tmod (ws.getD (i + d + 1) 0) (ws.getD (i + d) 0)
   rw [a3,Int.add_zero] at h2
   generalize (ws.getD (i + d + 1) 0).tdiv (ws.getD (i + d) 0) = q at h2
   have hq:2≤q:=Classical.byContradiction fun c=>by
    have:ws.getD (i + d) 0 * q≤ws.getD (i + d) 0 * 1:=Int.mul_le_mul_of_nonneg_left (by omega) (by omega)
    omega
   have hkq:2 * 1≤q * k:=Int.mul_le_mul hq k1 (by omega) (by omega)
   refine ⟨q * k,by omega,?_,fun _=>by omega⟩
   rw [show i + (d + 1) = i + d + 1 from rfl,← h2,k2,Int.mul_assoc,Int.mul_comm q k,Int.mul_assoc,Int.mul_comm q]
theorem SchOk.wdv {s:Sch} (h:SchOk s) {i:Nat} (hi:i < s.cols.length) (h0:0 < i) (hk:(qh s i).kind≠2) {o lev:Nat} (ho:1≤o∧o < lev) (hl:lev≤(qh s i).widths.length):∃ k:Int,2≤k∧zd (qh s i) o = k * zd (qh s i) lev:=by
 have hk2:=zA (h.cs i hi)
 have hk3:(qh s i).kind = 3:=by have:=hk2.2.2.1 h0;omega
 have hm:=hk2.2.2.2.2 hk3
 generalize qh s i = c at hl hm hk3 ⊢
 unfold measE at hm
 split at hm
 ·cases hm
 rename_i h1
 split at hm
 ·cases hm
 rename_i h2
 split at hm
 ·cases hm
 rename_i h3
 rw [Bool.not_eq_false] at h3
 have hw:∀ j,j < c.widths.length→wdOk c.widths j = true:=fun j hj=>List.all_eq_true.1 h3 j (List.mem_range.2 hj)
 obtain ⟨k,_,k2,k3⟩:=zI0 hw (i:=c.widths.length - lev) (lev - o) (by omega)
 refine ⟨k,k3 (by omega),?_⟩
 rw [zd,zd,show ((c.widths.length:Int) - o).toNat = c.widths.length - lev + (lev - o) by omega,show ((c.widths.length:Int) - lev).toNat = c.widths.length - lev by omega]
 exact k2
def blkI (s:Sch) (i lev:Nat):Int:=
 if (qh s i).kind = 2 then ((lvN (qH s i).codes lev).length:Int)
 else if lev = 0 then 1 else qy (qh s i).high (zd (qh s i) lev) - qy (qh s i).low (zd (qh s i) lev) + 1 + (if (qh s i).opt = true then 1 else 0)
theorem zs2 {n:Nat} {p:Nat→Nat→Bool}:ql7 n p = true↔∀ a,a < n→∀ b,b < a→p a b = true:=by
 unfold ql7
 simp only [List.all_eq_true,List.mem_range]
theorem yR {s:Sch} (h:SchOk s) {i:Nat} (hi:i < s.cols.length) (h2:(qh s i).kind = 2) {x:Int}:x∈qE s i↔∃ c:Nat,x = c∧c < (qH s i).codes.length∧(dep (qH s i).codes c:Int) = zj (qH s i) - 1:=by
 obtain ⟨_,d2⟩:=h.cdl hi h2
 unfold qE atL
 rw [if_neg (by rw [d2];simp),List.mem_map]
 constructor
 ·rintro ⟨c,hc,rfl⟩
  rw [List.mem_filter,List.mem_range,beq_iff_eq] at hc
  exact ⟨c,rfl,hc.1,hc.2⟩
 ·rintro ⟨c,rfl,h1,h3⟩
  exact ⟨c,List.mem_filter.2 ⟨List.mem_range.2 h1,beq_iff_eq.2 h3⟩,rfl⟩
theorem Qr {s:Sch} (h:SchOk s) {i:Nat} (hi:i < s.cols.length) (h2:(qh s i).kind = 2) {c v:Nat} (hc:c < (qH s i).codes.length) (hd:(dep (qH s i).codes c:Int) = zj (qH s i) - 1) (hv:(v:Int)≤finI s i) (hf:finI s i = zj (qH s i) - 1):qG s i v c = upN (qH s i).codes v c:=by
 obtain ⟨_,d2⟩:=h.cdl hi h2
 have hh:jM s i c = true:=by
  rw [jM,if_neg (by omega),if_pos h2,Bool.and_eq_true,KJ,beq_iff_eq,lvlC,if_neg (not_or.2 ⟨fun h=>h d2,by omega⟩),Int.toNat_natCast]
  exact ⟨by omega,hd⟩
 rw [qG,if_neg (by rw [Bool.not_eq_false,KJ];omega),Int.toNat_natCast,if_pos h2,if_neg (by rw [hh];simp),upC,if_neg (not_or.2 ⟨fun h=>h d2,by rw [Int.toNat_natCast];omega⟩),Int.toNat_natCast,Int.toNat_natCast]
theorem qx8 {s:Sch} (hE:schE s = 0) {i:Nat} (hi:i < s.cols.length) (h0:0 < i) {o lev:Nat} (ho:o≤lev) (hl:(lev:Int)≤finI s i):blkI s i o≤blkI s i lev∧(divB s i o lev = true↔blkI s i o = blkI s i lev):=by
 have hok:=zq hE
 by_cases e:o = lev
 ·subst e
  exact ⟨by omega,by rw [qW7];simp⟩
 obtain ⟨_,c1,c2,hfin⟩:=ZF (s:=s) (c:=i) (by omega)
 rw [Int.toNat_natCast] at hfin
 by_cases h2:(qh s i).kind = 2
 ·obtain ⟨_,d2⟩:=hok.cdl hi h2
  rw [if_pos h2] at hfin
  unfold blkI
  rw [if_pos h2,if_pos h2]
  have hle:=zH9 d2 (o:=o) (v:=lev) (by omega) (by omega)
  refine ⟨by omega,?_⟩
  rw [show ((lvN (qH s i).codes o).length:Int) = ((lvN (qH s i).codes lev).length:Int)↔(lvN (qH s i).codes o).length = (lvN (qH s i).codes lev).length by omega,zS1 d2 (by omega) (by omega)]
  unfold divB
  rw [if_neg (by omega),if_pos h2,zs2]
  have hP:∀ j k,(qE s i).getD j 0∈qE s i→(qE s i).getD k 0∈qE s i→(divP s i (qE s i) o lev j k = true↔(qG s i o ((qE s i).getD j 0) = qG s i o ((qE s i).getD k 0)→qG s i lev ((qE s i).getD j 0) = qG s i lev ((qE s i).getD k 0))):=fun j k _ _=>by
   unfold divP
   simp only [Bool.not_eq_true',Bool.and_eq_false_iff,Bool.not_eq_false',beq_iff_eq,beq_eq_false_iff_ne]
   constructor
   ·rintro (h | h) k
    ·exact h
    ·exact absurd k h
   ·intro h
    by_cases k:qG s i o ((qE s i).getD j 0) = qG s i o ((qE s i).getD k 0)
    ·exact .inl (h k)
    ·exact .inr k
  have hmem:∀ j,j < (qE s i).length→(qE s i).getD j 0∈qE s i:=fun j hj=>by rw [qr hj];exact List.getElem_mem hj
  obtain ⟨hp,p1,p2⟩:=zU d2
  constructor
  ·intro H a b ha hb da db hab
   obtain ⟨x,x1,x2,x3⟩:=zB4 d2 _ a rfl ha (zj (qH s i) - 1).toNat (by omega) (by omega)
   obtain ⟨y,y1,y2,y3⟩:=zB4 d2 _ b rfl hb (zj (qH s i) - 1).toNat (by omega) (by omega)
   rw [da] at x3
   rw [db] at y3
   have hx:(x:Int)∈qE s i:=(yR hok hi h2).2 ⟨x,rfl,x1,by omega⟩
   have hy:(y:Int)∈qE s i:=(yR hok hi h2).2 ⟨y,rfl,y1,by omega⟩
   have ux:upN (qH s i).codes o x = upN (qH s i).codes o y:=by
    rw [← qI5 hp (o:=o) (v:=lev) (by omega) x x1 (by omega),← qI5 hp (o:=o) (v:=lev) (by omega) y y1 (by omega),x3,y3,hab]
   obtain ⟨j,hj,ej⟩:=List.getElem_of_mem hx
   obtain ⟨k,hk,ek⟩:=List.getElem_of_mem hy
   rw [← qr (d:=0) hj] at ej
   rw [← qr (d:=0) hk] at ek
   have cl:=fun c (hc:c < (qH s i).codes.length) (hd:(dep (qH s i).codes c:Int) = zj (qH s i) - 1) (v:Nat) (hv:(v:Int)≤finI s i)=>Qr hok hi h2 (v:=v) hc hd hv hfin
   have fin:qG s i lev x = qG s i lev y→a = b:=fun e=>by
    rw [cl x x1 (by omega) lev hl,cl y y1 (by omega) lev hl,x3,y3] at e
    omega
   have eo:qG s i o x = qG s i o y:=by rw [cl x x1 (by omega) o (by omega),cl y y1 (by omega) o (by omega),ux]
   rcases Nat.lt_trichotomy j k with q | q | q
   ·have:=(hP k j (hmem k hk) (hmem j hj)).1 (H k hk j q)
    rw [ej,ek] at this
    exact fin (this eo.symm).symm
   ·subst q
    rw [ej] at ek
    exact fin (by rw [ek])
   ·have:=(hP j k (hmem j hj) (hmem k hk)).1 (H j hj k q)
    rw [ej,ek] at this
    exact fin (this eo)
  ·intro H j hj k hk
   rw [hP j k (hmem j hj) (hmem k (by omega))]
   obtain ⟨x,x0,x1,x2⟩:=(yR hok hi h2).1 (hmem j hj)
   obtain ⟨y,y0,y1,y2⟩:=(yR hok hi h2).1 (hmem k (by omega))
   rw [x0,y0,Qr hok hi h2 x1 x2 (by omega) hfin,Qr hok hi h2 y1 y2 (by omega) hfin,Qr hok hi h2 x1 x2 hl hfin,Qr hok hi h2 y1 y2 hl hfin]
   intro e
   have ux:=zr9 hp (v:=lev) x x1 (by omega)
   have uy:=zr9 hp (v:=lev) y y1 (by omega)
   have:=H (upN (qH s i).codes lev x) (upN (qH s i).codes lev y) (by omega) (by omega) ux.1 uy.1 (by
    rw [qI5 hp (by omega) x x1 (by omega),qI5 hp (by omega) y y1 (by omega)];omega)
   rw [this]
 rw [if_neg h2] at hfin
 obtain ⟨w1,w2,w3,w4,w5,w6,w7,_⟩:=hok.wid hi h0 h2 (lev:=lev) (by omega)
 unfold blkI divB
 simp only [if_neg h2,if_neg (show ¬ lev = 0 by omega),if_neg (show ¬ (lev = 0∨lev≤o) by omega)]
 obtain ⟨m,hm⟩:=Int.eq_ofNat_of_zero_le (show 0≤(qh s i).high - (qh s i).low by omega)
 generalize hW:zd (qh s i) lev = w at w1 w2 ⊢
 have hab:=qm9 (a:=(qh s i).low) (k:=w) (m:=m) w1 (by omega)
 rw [show (qh s i).low + (m:Int) = (qh s i).high by omega] at hab
 have f0:∀ c,c * w > (qh s i).high↔qy (qh s i).high w < c:=fun c=>by
  have h3:=qm1 (v:=(qh s i).high) (w:=w) (by omega)
  constructor
  ·intro h
   refine Classical.byContradiction fun z=>?_
   have:c * w≤qy (qh s i).high w * w:=Int.mul_le_mul_of_nonneg_right (by omega) (by omega)
   omega
  ·intro h
   have:(qy (qh s i).high w + 1) * w≤c * w:=Int.mul_le_mul_of_nonneg_right (by omega) (by omega)
   rw [Int.add_mul] at this
   omega
 by_cases o0:o = 0
 ·simp only [if_pos o0]
  cases (qh s i).opt
  ·simp only [Bool.not_false,Bool.true_and,decide_eq_true_eq,f0,Bool.false_eq_true,if_false]
   omega
  ·simp only [Bool.not_true,Bool.false_and,if_true,Bool.false_eq_true,false_iff]
   omega
 simp only [if_neg o0]
 obtain ⟨k,k1,k2⟩:=hok.wdv hi h0 h2 (o:=o) (lev:=lev) (by omega) (by omega)
 rw [hW] at k2
 rw [k2,zS2 w1 (by omega),zS2 w1 (by omega)]
 have f3:∀ x:Int,(x * w).tmod (k * w) = 0↔k ∣ x:=fun x=>by
  constructor
  ·intro h
   obtain ⟨q,hq⟩:=Int.dvd_of_tmod_eq_zero h
   exact ⟨q,Int.eq_of_mul_eq_mul_right (show w≠0 by omega) (by rw [hq,Int.mul_assoc,Int.mul_assoc,Int.mul_comm w])⟩
  ·rintro ⟨q,rfl⟩
   rw [Int.mul_assoc,Int.mul_comm q,← Int.mul_assoc,Int.mul_tmod_right]
 have f2:(qy (qh s i).low w + 1) * w + w = (qy (qh s i).low w + 1 + 1) * w:=by rw [Int.add_mul (_ + 1) 1,Int.one_mul]
 have hD:divM (qh s i).high w (k * w) 2 ((qy (qh s i).low w + 1) * w) = true↔qy (qh s i).high w < qy (qh s i).low w + 1∨(k ∣ qy (qh s i).low w + 1∧(qy (qh s i).high w < qy (qh s i).low w + 1 + 1∨k ∣ qy (qh s i).low w + 1 + 1)):=by
  rw [divM,divM,divM,f2]
  simp only [f0,ne_eq,f3]
  split
  ·rename_i h;simp only [h,true_or,iff_true]
  ·rename_i h
   split
   ·rename_i h4;simp only [h,h4,false_and,or_self,Bool.false_eq_true]
   ·rename_i h4
    rw [Classical.not_not] at h4
    split
    ·rename_i h5;simp only [h4,h5,true_or,and_true,or_true]
    ·rename_i h5
     split
     ·rename_i h6;simp only [h,h5,h6,or_self,and_false,Bool.false_eq_true]
     ·rename_i h6
      rw [Classical.not_not] at h6
      simp only [h4,h6,or_true,and_true]
 rw [hD]
 generalize qy (qh s i).high w = b at hab ⊢
 generalize qy (qh s i).low w = a at hab ⊢
 obtain ⟨n,hn⟩:=Int.eq_ofNat_of_zero_le (show 0≤b - a by omega)
 have e0:=qm9 (a:=a) (k:=k) (m:=n) (by omega) (by omega)
 rw [show a + (n:Int) = b by omega] at e0
 refine ⟨by omega,?_⟩
 by_cases q0:n = 0
 ·have:b = a:=by omega
  subst this
  exact ⟨fun _=>by omega,fun _=>.inl (by omega)⟩
 obtain ⟨s1,s2⟩:=zs1 (a:=a) (k:=k) (by omega)
 have e1:=qm9 (a:=a + 1) (k:=k) (m:=b - a - 1) (by omega) (by omega)
 rw [show a + 1 + (b - a - 1) = b by omega] at e1
 by_cases d1:k ∣ a + 1
 ·have s1:=s1 d1
  by_cases q1:n = 1
  ·have:b = a + 1:=by omega
   subst this
   exact ⟨fun _=>by omega,fun _=>.inr ⟨d1,.inl (by omega)⟩⟩
  ·have d2:¬ k ∣ a + 1 + 1:=by
    rintro ⟨p,hp⟩
    obtain ⟨r,hr⟩:=d1
    have:k * (p - r) = 1:=by rw [Int.mul_sub];omega
    have:=Int.le_of_dvd (by omega) ⟨_,this.symm⟩
    omega
   obtain ⟨_,s4⟩:=zs1 (a:=a + 1) (k:=k) (by omega)
   have s4:=s4 d2
   have e2:=qm9 (a:=a + 1 + 1) (k:=k) (m:=b - a - 2) (by omega) (by omega)
   rw [show a + 1 + 1 + (b - a - 2) = b by omega] at e2
   refine ⟨fun h=>?_,fun h=>by omega⟩
   rcases h with h | ⟨_,h | h⟩
   ·omega
   ·omega
   ·exact absurd h d2
 ·have s2:=s2 d1
  refine ⟨fun h=>?_,fun h=>by omega⟩
  rcases h with h | ⟨h,_⟩
  ·omega
  ·exact absurd h d1
theorem JN (s:Sch) (hE:schE s = 0) (i:Nat) (hi:i < s.cols.length) (h0:0 < i) (lev:Nat) (hl:(lev:Int)≤finI s i):Spc Tryz.prog kR [schT s,vI i,vI lev] [] (vI (blkI s i lev)) []:=by
 have hok:=zq hE
 obtain ⟨_,c1,c2,hfin⟩:=ZF (s:=s) (c:=i) (by omega)
 rw [Int.toNat_natCast] at hfin
 have hat:qh s i = s.cols[i]:=by rw [qh,qr hi]
 have hk:=zA (hok.cs i hi)
 have hcd:=fun e=>hok.cdl hi e
 have hwd:=fun e l=>hok.wid hi (by omega) e (lev:=l)
 have hcl:qH s i = s.lists.getD s.cols[i].list.toNat default:=by rw [qH,hat]
 have hE2:blkI s i lev = if s.cols[i].kind = 2 then ((lvN (qH s i).codes lev).length:Int)
  else if lev = 0 then 1 else qy s.cols[i].high (zd s.cols[i] lev) - qy s.cols[i].low (zd s.cols[i] lev) + 1 + (if s.cols[i].opt = true then 1 else 0):=by rw [blkI,hat]
 rw [hE2]
 rw [hat] at hk hcd hwd hfin
 rw [hcl] at hcd ⊢
 refine qd qe0 mixm (by simp) fun e _ hst=>qk ?_
 unfold yv
 simp only [tZ,↓un_u,simprocAttr,Int.toNat_natCast,qe hi]
 generalize s.cols[i] = x at hk hcd hwd hfin ⊢
 simp only [tZ,↓un_u,simprocAttr,tD,beq_iff_eq,beq_eq_false_iff_ne]
 refine ⟨by omega,fun h2=>?_,fun h2=>⟨fun h3=>?_,fun h3=>?_⟩⟩
 ·rw [if_pos h2]
  obtain ⟨d1,d2⟩:=hcd h2
  obtain ⟨d3,d4⟩:=hk.2.2.2.1 h2
  have hgl:s.lists.getD x.list.toNat default = s.lists[x.list.toNat]:=qr d1
  rw [hgl] at d2 ⊢
  simp only [tZ,↓un_u,simprocAttr,qe d1]
  generalize s.lists[x.list.toNat] = l at d2 ⊢
  refine ⟨by omega,?_⟩
  refine C1.im (qa4 l lev) (by rfl) (by rfl) ?_
  rw [← zM9 d2]
  refine sW ?_
  exact .oA [] []
 ·rw [if_neg h2,if_pos (by omega)]
  exact .oA [] []
 rw [if_neg h2,if_neg (by omega)]
 rw [if_neg h2] at hfin
 obtain ⟨w1,w2,w3,w4,w5,w6,w7,_⟩:=hwd h2 lev (by omega)
 refine C1.im (KK x lev (by omega) (by omega)) (by rfl) (by rfl) ?_
 generalize zd x lev = w at w1 w2 ⊢
 have h4:=qm1 (v:=x.high) (w:=w) (by omega)
 have h5:=qm1 (v:=x.low) (w:=w) (by omega)
 obtain ⟨m,hm⟩:=Int.eq_ofNat_of_zero_le (show 0≤x.high - x.low by omega)
 have hab:=qm9 (a:=x.low) (k:=w) (m:=m) w1 (by omega)
 rw [show x.low + (m:Int) = x.high by omega] at hab
 have wa:IntKind.i64.wrap (qy x.high w * w - qy x.low w * w) = qy x.high w * w - qy x.low w * w:=IntWalk.i64_in _ (by omega)
 have wb:(qy x.high w * w - qy x.low w * w).tdiv w = qy x.high w - qy x.low w:=by rw [← Int.sub_mul,Int.mul_tdiv_cancel _ (by omega)]
 have wc:IntKind.i64.wrap (qy x.high w - qy x.low w) = qy x.high w - qy x.low w:=IntWalk.i64_in _ (by omega)
 have wd:IntKind.i64.wrap (qy x.high w - qy x.low w + 1) = qy x.high w - qy x.low w + 1:=IntWalk.i64_in _ (by omega)
 have we:IntKind.i64.wrap (qy x.high w - qy x.low w + 1 + 1) = qy x.high w - qy x.low w + 1 + 1:=IntWalk.i64_in _ (by omega)
 refine sW ?_
 refine C1.im (ZJ x.high w (by omega) (by omega)) (by rfl) (by rfl) ?_
 refine sW ?_
 refine C1.im (ZJ x.low w (by omega) (by omega)) (by rfl) (by rfl) ?_
 simp only [tZ,↓un_u,simprocAttr,wa,wb,wc,wd,we]
 repeat (first | refine ⟨by omega,?_⟩ | refine ⟨by kernel_rfl,?_⟩)
 refine ⟨fun h6=>?_,fun h6=>?_⟩
 ·rw [if_pos h6]
  exact .oA [] []
 ·rw [if_neg (by rw [h6];simp),Int.add_zero]
  exact .oA [] []
theorem qX0 {p:Nat→Bool} {N:Nat}:∀ (f n:Nat),n≤N→N - n < f→p N = true→(∀ m,n≤m→m < N→p m = false)→ZP p f n = N
 | 0,n,h1,h2,_,_=>by omega
 | f + 1,n,h1,h2,h3,h4=>by
   rw [ZP]
   by_cases e:n = N
   ·subst e;rw [if_pos h3]
   ·rw [if_neg (by rw [h4 n (Nat.le_refl _) (by omega)];simp)]
    exact qX0 f (n + 1) (by omega) (by omega) h3 fun m h5 h6=>h4 m (by omega) h6
theorem KL (s:Sch) (hs:Jc s) (c lev:Int):Spc Tryz.prog wZ [schT s,vI c,vI lev] [] (vI (wt s c lev)) []:=by
 refine qd qk6 mixm (by simp) fun e _ hst=>qk ?_
 unfold Qf
 refine sW ?_
 refine C1.im (wu s hs c) (by rfl) (by rfl) ?_
 refine sD ?_
 refine ⟨fun h=>?_,fun h=>?_⟩
 ·rw [wt,if_pos (qm0.2 (by omega))]
  exact .oA [] []
 rw [wt,if_neg (by rw [qm0];omega)]
 obtain ⟨hE,c1,c2,hfin⟩:=ZF (s:=s) (c:=c) (by omega)
 have hfl:=Wi (c:=c) hE
 have hok:=zq hE
 obtain ⟨i,rfl⟩:=Int.eq_ofNat_of_zero_le (show 0≤c by omega)
 obtain ⟨v,rfl⟩:=Int.eq_ofNat_of_zero_le (show 0≤lev by omega)
 simp only [Int.toNat_natCast]
 have hi:i < s.cols.length:=by omega
 have key:∀ n,n≤v→blkI s i n = blkI s i v→(n = 0∨blkI s i (n - 1)≠blkI s i n)→ZP (fun n=>divB s i n v) 64 0 = n:=fun n h1 h2 h3=>by
  refine qX0 64 0 (by omega) (by omega) ((qx8 hE hi (by omega) h1 (by omega)).2.2 h2) fun m _ hm=>?_
  cases e:divB s i m v with
  | false=>rfl
  | true=>
    have e1:=(qx8 hE hi (by omega) (show m≤v by omega) (by omega)).2.1 e
    have e2:=(qx8 hE hi (by omega) (show m≤n - 1 by omega) (by omega)).1
    have e3:=(qx8 hE hi (by omega) (show n - 1≤n by omega) (by omega)).1
    omega
 refine qw mixm (α:=Nat) [2,17] (fun n=>n≤v∧blkI s i n = blkI s i v) (fun n=>[(2,vI n)]) (fun n=>[(4096,.arr 2 [schT s] false)]) (fun n=>n) v ⟨by omega,rfl⟩ ?_ fun n hn=>?_
 ·exact .oA [(4096,some 4096)] []
 obtain ⟨n1,n2⟩:=hn
 rcases Nat.eq_zero_or_pos n with hz | hz
 ·subst hz
  have e0:decide (((0:Nat):Int) > 0) = false:=by decide
  simp only [tZ,↓un_u,simprocAttr,e0]
  refine C2.no (fun h=>h) ?_
  refine sW ?_
  refine C2.no (fun h=>h) ?_
  refine sW ?_
  repeat (first | refine ⟨by omega,?_⟩ | refine ⟨by kernel_rfl,?_⟩)
  rw [key 0 (by omega) n2 (.inl rfl)]
  exact .oA [] []
 ·obtain ⟨k,rfl⟩:∃ k,n = k + 1:=⟨n - 1,by omega⟩
  have e0:decide (((k + 1:Nat):Int) > 0) = true:=decide_eq_true (by omega)
  have e3:=qV7 (i:=k + 1) (by omega) (by omega)
  rw [Nat.add_sub_cancel] at e3
  simp only [tZ,↓un_u,simprocAttr,e0,e3]
  refine C2.im (fun _=>JN s hE i hi (by omega) k (by omega)) (fun _=>rfl) (by rfl) ?_
  refine sW ?_
  refine C2.im (fun _=>JN s hE i hi (by omega) (k + 1) (by omega)) (fun _=>rfl) (by rfl) ?_
  simp only [tZ,↓un_u,simprocAttr,beq_iff_eq,beq_eq_false_iff_ne,e3]
  repeat (first | refine ⟨by omega,?_⟩ | refine ⟨by kernel_rfl,?_⟩)
  refine ⟨fun h5=>?_,fun h5=>?_⟩
  ·refine ⟨k,⟨by omega,by omega⟩,by omega,?_⟩
   exact .oA [(4096,some 4096)] []
  ·rw [key (k + 1) (by omega) n2 (.inr h5)]
   exact .oA [] []
end Go.Proofs
