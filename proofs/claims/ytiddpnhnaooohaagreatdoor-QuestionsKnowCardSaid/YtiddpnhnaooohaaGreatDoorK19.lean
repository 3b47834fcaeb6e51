/- A part of the proof: trees of Go values, short forms, contracts. -/
import Derived.WalkKit
import Derived.Still
import Derived.MapKept
import GoSem.Builtin.Cap
import Derived.Laws.Externs
import GoSem.Extern.SlicesOverlaps
import Derived.Carry
import Derived.ProofKit
import Derived.OpenShut
import Derived.HandedShaped
import Derived.Lay
import Derived.LaidLaws
import Derived.MakeChecks
import Derived.SevenTiedAt
import Derived.Test.YtiddpnhnaooohaaGreatDoorChecked
import Derived.Test.YtiddpnhnaooohaaGreatDoorK18
set_option linter.unusedSimpArgs false
set_option linter.unusedVariables false
namespace Go.Proofs
open Go Go.TL
theorem Jg (s:ByteArray):Spc Tryz.prog wH [vS s] [] (vB (ky s)) []:=by
 refine qd qU4 mixm (by simp) fun e _ hst=>qj ?_
 unfold KL
 refine sW ?_
 refine ⟨fun h=>?_,fun h=>?_,fun h=>?_,fun h=>?_⟩
 ·simp at h
  omega
 ·simp at h
  omega
 ·have:ky s = false:=by unfold ky zo5;rw [h];rfl
  rw [this]
  exact .oA [] []
 have hd:zo5 s = false:=h
 have hs16:s.data.toList.length≤16:=by
  unfold zo5 at hd
  simp only [Bool.or_eq_false_iff,decide_eq_false_iff_not] at hd
  have:s.size = s.data.toList.length:=by rw [Array.length_toList];rfl
  omega
 refine qw mixm (α:=Nat) [26] (fun i=>i≤s.data.toList.length∧((s.data.toList.take i).any qE2 = false)) (fun i=>[(26,vI i)]) (fun i=>[]) (fun i=>s.data.toList.length - i) 0 ⟨by omega,?_⟩ ?_ fun i hi=>?_
 ·rfl
 ·exact .oA [] []
 refine sD ?_
 refine ⟨fun h5=>?_,fun h5=>?_⟩
 ·have hi2:i < s.data.toList.length:=by omega
  have hwi:=qk (i:=i) (by omega)
  simp only [tZ,↓un_u,simprocAttr,Int.toNat_natCast,qe hi2,hwi,yB]
  refine ⟨by omega,fun h6=>?_,fun h6=>?_⟩
  ·have hb:qE2 s.data.toList[i] = true:=h6
   have:ky s = false:=by
    unfold ky
    rw [show s.data.toList.any qE2 = true from List.any_eq_true.2 ⟨_,List.getElem_mem hi2,hb⟩]
    simp
   rw [this]
   exact .oA [] []
  ·have hb:qE2 s.data.toList[i] = false:=h6
   refine ⟨i + 1,⟨by omega,jB hi2 hi.2 hb⟩,by omega,?_⟩
   exact .oA [] []
 ·have h3:=hi.2
  have:i = s.data.toList.length:=by omega
  rw [this,List.take_length] at h3
  have hn:ky s = !(resW.contains s.toList):=by unfold ky;rw [hd,h3];rfl
  rw [hn]
  simp only [resW,List.contains_cons,List.contains_nil]
  repeat' (first | with_reducible apply And.intro | with_reducible intro _)
  all_goals first
   | (exfalso;simp_all;done)
   | (simp only [*,Bool.true_or,Bool.or_true,Bool.false_or,Bool.or_false,Bool.not_true,Bool.not_false];exact .imR rfl rfl)
end Go.Proofs
namespace Go.Proofs
open Go Go.TL
set_option maxHeartbeats 8000000
def depL (cs:List Cod):List Int:=(List.range cs.length).map fun i=>(dep cs i:Int)
def depO (cs:List Cod) (i:Nat):List Int:=((List.range i).map fun i=>(dep cs i:Int)) ++ List.replicate (cs.length - i) 0
theorem YJ (cs:List Cod):(depL cs).length = cs.length:=by simp [depL]
theorem jd9 {cs:List Cod} {i:Nat} (h:i≤cs.length):(depO cs i).length = cs.length:=by simp [depO];omega
theorem zV9 (cs:List Cod):depO cs 0 = List.replicate cs.length 0:=by simp [depO]
theorem je0 (cs:List Cod):depO cs cs.length = depL cs:=by simp [depO,depL]
theorem je1 {cs:List Cod} {i:Nat} (h:i < cs.length) (v:Int) (hv:v = dep cs i):(depO cs i).set i v = depO cs (i + 1):=by
 unfold depO
 rw [List.set_append_right _ _ (by simp),List.length_map,List.length_range,Nat.sub_self,show cs.length - i = (cs.length - (i + 1)) + 1 by omega,List.replicate_succ,List.set_cons_zero,List.range_succ,List.map_append,List.append_assoc,hv]
 rfl
theorem zW0 {cs:List Cod} {i:Nat} (h:i < cs.length) (h0:dep cs i = 0):depO cs i = depO cs (i + 1):=by
 unfold depO
 rw [show cs.length - i = (cs.length - (i + 1)) + 1 by omega,List.replicate_succ,List.range_succ,List.map_append,List.append_assoc,List.map_cons,h0]
 rfl
theorem jq7 {cs:List Cod} {i k:Nat} (h:k < i) (hi:i≤cs.length):(depO cs i).getD k 0 = dep cs k:=by
 unfold depO
 rw [List.getD_eq_getElem?_getD,List.getElem?_append_left (by simp;omega),List.getElem?_map,List.getElem?_range (by omega)]
 rfl
theorem jl7 (n:Nat):List.replicate n (T.v (Value.int IntKind.i64 0)) = (List.replicate n (0:Int)).map vI:=by simp
structure ParR (cs:List Cod):Prop where
 ok:qv8 cs
 kid:∀ i,0 < i→i < cs.length→0≤parC cs i
 root:parC cs 0 < 0∨cs.length = 0
 len:cs.length≤60
theorem wh (l:CodL) (h:ParR l.codes):Spc Tryz.prog ji [cdlT l] [] (vIs (depL l.codes)) []:=by
 have hl:=h.len
 refine qd qE1 mixm (by simp) fun e _ hst=>qj ?_
 unfold ZK
 refine sW ?_
 refine ⟨by omega,?_⟩
 refine qw mixm (α:=Nat) [13] (fun i=>i≤l.codes.length) (fun i=>[(13,vI i)]) (fun i=>[(4096,.arr 2 [cdlT l] false),(8204,.arr 1 ((depO l.codes i).map vI) false)]) (fun i=>l.codes.length - i) 0 (by omega) ?_ fun i hi=>?_
 ·rw [zV9]
  refine .of [(4096,some 4096),(8204,some 8204)] [] rfl (by first | rfl | (rw [hst];rfl)) ?_ ?_
  all_goals (try simp only [tL,simprocAttr,List.map_append,List.map_cons,List.map_nil,List.cons_append,List.nil_append,Int.toNat_natCast,jl7])
  all_goals (try (repeat' (first | exact zh | (apply zU;intro _;exact ⟨rfl,rfl⟩) | (apply qK;intro _;exact ⟨rfl,rfl⟩) | with_reducible apply qX | with_reducible refine qZ ⟨rfl,rfl⟩ ?_ | exact zn | with_reducible apply qR | with_reducible refine qQ ⟨rfl,rfl,?_⟩ ?_ | with_reducible apply And.intro | exact qS rfl | exact qS (by assumption) | (refine ⟨⟨?_,rfl,?_,rfl,?_⟩,trivial⟩ <;> first | (simp;done) | (apply qK;intro _;exact ⟨rfl,rfl⟩)) | trivial | rfl | (rw [qk (by omega)]) | omega)))
 have hol:=jd9 (cs:=l.codes) hi
 refine sD ?_
 refine ⟨fun h2=>?_,fun h2=>?_⟩
 ·have hi2:i < l.codes.length:=by omega
  have hwi:=qk (i:=i) (by omega)
  have hp:=h.ok i hi2
  have hat:cdAt l.codes i = l.codes[i]:=by rw [cdAt,qh hi2]
  have hpar:l.codes[i].par = parC l.codes i:=by rw [parC,hat]
  simp only [tZ,↓un_u,simprocAttr,Int.toNat_natCast,qe hi2,hpar,gt_iff_lt,tD]
  refine ⟨by omega,fun h4=>?_,fun h4=>?_⟩
  ·have hk:=h.kid i (by omega) hi2
   have hdk:=qd8 h.ok hi2 hk
   obtain ⟨q,hq⟩:=Int.eq_ofNat_of_zero_le hk
   have hqi:q < i:=by omega
   have hq3:q < (depO l.codes i).length:=by omega
   have hq4:(depO l.codes i)[q] = dep l.codes q:=by
    have:=jq7 (cs:=l.codes) hqi hi
    rw [qh hq3] at this
    exact this
   have hdl:=qt2 h.ok q (by omega)
   have hwd:=qk (i:=dep l.codes q) (by omega)
   rw [hq,Int.toNat_natCast] at hdk
   have hi3:i < (depO l.codes i).length:=by omega
   have hset:=je1 hi2 ((dep l.codes q + 1:Nat):Int) (by rw [hdk])
   simp only [tZ,↓un_u,simprocAttr,hq,Int.toNat_natCast,qe hq3,qe hi3,hq4,hwd,hwi,show ∀ a b:Int,repl (vI a) 0 (vI b) = vI b from fun _ _=>rfl]
   refine ⟨by omega,by omega,by omega,by omega,i + 1,by omega,by omega,?_⟩
   rw [← List.map_set,hset]
   exact .oA [(4096,some 4096),(8204,some 8204)] []
  ·have hz:i = 0:=by omega
   subst hz
   have hr:=h.root.resolve_right (by omega)
   have hn:=zW0 hi2 (qk0 hr)
   simp only [tZ,↓un_u,simprocAttr,hwi]
   refine ⟨1,by omega,by omega,?_⟩
   rw [← hn]
   exact .oA [(4096,some 4096),(8204,some 8204)] []
 ·have hil:i = l.codes.length:=by omega
  subst hil
  rw [je0,Int.toNat_natCast]
  have hdl:=YJ l.codes
  exact .oA [] [8204]
def aboL (cs:List Cod) (i:Nat):List Bool:=(List.range cs.length).map fun (k:Nat)=>(cs.take i).any fun x=>x.par == (k:Int)
theorem Wb (cs:List Cod) (i:Nat):(aboL cs i).length = cs.length:=by simp [aboL]
theorem zW1 (cs:List Cod):aboL cs 0 = List.replicate cs.length false:=by
 rw [List.eq_replicate_iff]
 refine ⟨Wb cs 0,fun b hb=>?_⟩
 obtain ⟨k,_,rfl⟩:=List.mem_map.1 hb
 simp
theorem ql6 {cs:List Cod} {i k:Nat} (h:k < (aboL cs i).length):(aboL cs i)[k] = (cs.take i).any fun x=>x.par == (k:Int):=by simp [aboL]
theorem zW2 {cs:List Cod} {i:Nat} (h:i < cs.length) (hp:cs[i].par < 0):aboL cs (i + 1) = aboL cs i:=by
 refine List.ext_getElem (by rw [Wb,Wb]) fun k h1 h2=>?_
 have h3:(cs[i].par == (k:Int)) = false:=beq_eq_false_iff_ne.2 (by omega)
 rw [ql6,ql6,qM h,List.any_append,List.any_cons,List.any_nil,h3]
 simp
theorem je2 {cs:List Cod} {i p:Nat} (h:i < cs.length) (hp:cs[i].par = p):(aboL cs i).set p true = aboL cs (i + 1):=by
 refine List.ext_getElem (by rw [List.length_set,Wb,Wb]) fun k h1 h2=>?_
 rw [List.getElem_set,ql6,ql6,qM h,List.any_append,List.any_cons,List.any_nil,hp]
 by_cases e:p = k
 ·subst e;simp
 ·have:((p:Int) == (k:Int)) = false:=beq_eq_false_iff_ne.2 (by omega)
  rw [if_neg e,this]
  simp
theorem je3 {cs:List Cod} {k:Nat} (h:k < (aboL cs cs.length).length):(aboL cs cs.length)[k] = !qd9 cs k:=by
 rw [ql6,List.take_length,qd9,Bool.not_not]
theorem jw9 (n:Nat):List.replicate n (T.v (Value.bool false)) = (List.replicate n false).map vB:=by simp
def zp1 (cs:List Cod):List (ByteArray×Bool):=cs.map fun c=>(c.name,true)
theorem zj3 {nm:ByteArray}:∀ {cs:List Cod},(TL.look TL.eqS nm (zp1 cs)).getD false = cs.any fun x=>eqB x.name nm
 | []=>rfl
 | c :: cs=>by
   have h:TL.eqS nm c.name = eqB c.name nm:=by
    rw [Bool.eq_iff_iff,TL.eqS,eqB,beq_iff_eq,beq_iff_eq]
    exact ⟨fun h=>h.symm,fun h=>h.symm⟩
   simp only [zp1,List.map_cons,TL.look,List.any_cons,h]
   cases eqB c.name nm with
   | true=>rfl
   | false=>rw [if_neg (by simp),Bool.false_or];exact zj3
theorem zA4 {c:Cod}:∀ {cs:List Cod},(cs.any fun x=>eqB x.name c.name) = false→TL.asg TL.eqS c.name true (zp1 cs) = zp1 (cs ++ [c])
 | [],_=>rfl
 | x :: cs,h=>by
   rw [List.any_cons,Bool.or_eq_false_iff] at h
   have h1:TL.eqS c.name x.name = eqB x.name c.name:=by
    rw [Bool.eq_iff_iff,TL.eqS,eqB,beq_iff_eq,beq_iff_eq]
    exact ⟨fun h=>h.symm,fun h=>h.symm⟩
   simp only [zp1,List.map_cons,TL.asg,h1,h.1,List.cons_append]
   rw [if_neg (by simp)]
   congr 1
   exact zA4 h.2
theorem jx0 {cs:List Cod} (h:cdEs cs cs.length = 0) (hl:cs.length≤60):ParR cs:=by
 refine ⟨jl3 h,fun i h0 hi=>(qV6 (qk1 h i hi)).2.2.2 h0,?_,hl⟩
 rcases Nat.eq_zero_or_pos cs.length with h0 | h0
 ·exact .inr h0
 ·have:=(qV6 (qk1 h 0 h0)).2.2.1 rfl
  exact .inl (by omega)
theorem Yq {l:CodL} (h:lstE l = 0):ParR l.codes:=by
 obtain ⟨_,_,h3⟩:=zc h
 refine jx0 ?_ h3
 unfold lstE at h
 split at h
 ·cases h
 ·split at h
  ·cases h
  ·split at h
   ·cases h
   ·split at h
    ·rename_i h2;exact absurd h h2
    ·rename_i h4;exact Classical.byContradiction h4
theorem Zd (l:CodL):Spc Tryz.prog kD [cdlT l] [] (vI (lstE l)) []:=by
 refine qd qL0 mixm (by simp) fun e _ hst=>qj ?_
 unfold JE
 refine sW ?_
 refine C1.im (Jg l.name) (by rfl) (by rfl) ?_
 simp only [tZ,↓un_u,simprocAttr,Bool.not_eq_true',Bool.not_eq_false']
 refine ⟨fun h=>?_,fun h1=>?_⟩
 ·rw [lstE,if_pos h]
  exact .oA [] []
 simp only [tZ,↓un_u,simprocAttr,beq_iff_eq,beq_eq_false_iff_ne]
 refine ⟨fun h=>?_,fun h2=>?_⟩
 ·rw [lstE,if_neg (by rw [h1];simp),if_pos (by omega)]
  exact .oA [] []
 refine sD ?_
 refine ⟨fun h=>?_,fun h3=>?_⟩
 ·rw [lstE,if_neg (by rw [h1];simp),if_neg (by omega),if_pos (by omega)]
  exact .oA [] []
 have hE1:cdEs l.codes l.codes.length≠0→lstE l = cdEs l.codes l.codes.length:=fun h=>by
  rw [lstE,if_neg (by rw [h1];simp),if_neg (by omega),if_neg (by omega),if_pos h]
 have hE2:cdEs l.codes l.codes.length = 0→lvs l.codes l.codes.length = none→lstE l = 5:=fun h k=>by
  rw [lstE,if_neg (by rw [h1];simp),if_neg (by omega),if_neg (by omega),if_neg (by rw [h];simp),k]
 have hE3:∀ v,cdEs l.codes l.codes.length = 0→lvs l.codes l.codes.length = some v→lstE l = 0:=fun v h k=>by
  rw [lstE,if_neg (by rw [h1];simp),if_neg (by omega),if_neg (by omega),if_neg (by rw [h];simp),k]
 refine ⟨by omega,by kernel_rfl,?_⟩
 refine qw mixm (α:=Nat) [33] (fun i=>i≤l.codes.length∧cdEs l.codes i = 0) (fun i=>[(33,vI i)]) (fun i=>[(4096,.arr 2 [cdlT l] false),(32768,.mp (.sb (zp1 (l.codes.take i)))),(32784,.arr 1 ((aboL l.codes i).map vB) false)]) (fun i=>l.codes.length - i) 0 ⟨by omega,rfl⟩ ?_ fun i hi=>?_
 ·simp only [List.take_zero,zp1,List.map_nil,zW1]
  refine .of [(4096,some 4096),(32768,some 32768),(32784,some 32784)] [] rfl (by first | rfl | (rw [hst];rfl)) ?_ ?_
  all_goals (try simp only [tL,simprocAttr,List.map_append,List.map_cons,List.map_nil,List.cons_append,List.nil_append,Int.toNat_natCast,jw9])
  all_goals (try (repeat' (first | exact zh | (apply zU;intro _;exact ⟨rfl,rfl⟩) | (apply qK;intro _;exact ⟨rfl,rfl⟩) | with_reducible apply qX | with_reducible refine qZ ⟨rfl,rfl⟩ ?_ | exact zn | with_reducible apply qR | with_reducible refine qQ ⟨rfl,rfl,?_⟩ ?_ | with_reducible apply And.intro | exact qS rfl | exact qS (by assumption) | (refine ⟨⟨?_,rfl,?_,rfl,?_⟩,trivial⟩ <;> first | (simp;done) | (apply qK;intro _;exact ⟨rfl,rfl⟩)) | trivial | rfl | (rw [qk (by omega)]) | omega)))
 obtain ⟨i1,i2⟩:=hi
 have hbl:=Wb l.codes i
 refine sD ?_
 refine ⟨fun h4=>?_,fun h4=>?_⟩
 ·have hi2:i < l.codes.length:=by omega
  have hwi:=qk (i:=i) (by omega)
  have hat:cdAt l.codes i = l.codes[i]:=by rw [cdAt,qh hi2]
  have hs:cdEs l.codes (i + 1) = cdE l.codes i:=by rw [cdEs,if_neg (by rw [i2];simp)]
  have hbad:cdE l.codes i≠0→lstE l = cdE l.codes i:=fun hb=>by
   have:=qQ2 (by rw [hs];exact hb) l.codes.length (show i + 1≤l.codes.length by omega)
   rw [hE1 (by rw [this,hs];exact hb),this,hs]
  simp only [tZ,↓un_u,simprocAttr,Int.toNat_natCast,qe hi2]
  refine ⟨by omega,?_⟩
  refine C1.im (Jg l.codes[i].name) (by rfl) (by rfl) ?_
  simp only [tZ,↓un_u,simprocAttr,Bool.not_eq_true',Bool.not_eq_false',zj3]
  refine ⟨fun h5=>?_,fun h5=>?_⟩
  ·have hc:cdE l.codes i = 3:=by rw [cdE,hat,if_pos h5]
   rw [hbad (by rw [hc];decide),hc]
   exact .oA [] []
  refine ⟨fun h6=>?_,fun h6=>?_⟩
  ·have hc:cdE l.codes i = 10:=by rw [cdE,hat,if_neg (by rw [h5];simp),if_pos h6]
   rw [hbad (by rw [hc];decide),hc]
   exact .oA [] []
  have hpar:l.codes[i].par = parC l.codes i:=by rw [parC,hat]
  have hcE:cdE l.codes i = if (i = 0∧parC l.codes i≠-1)∨(0 < i∧(parC l.codes i < 0∨parC l.codes i≥i)) then 6 else 0:=by
   rw [cdE,hat,if_neg (by rw [h5];simp),if_neg (by rw [h6];simp)]
  have hasg:=zA4 (c:=l.codes[i]) (cs:=l.codes.take i) h6
  rw [← qM hi2] at hasg
  simp only [tZ,↓un_u,simprocAttr,hasg,hpar,tD,beq_iff_eq,beq_eq_false_iff_ne,bne_iff_ne,bne_eq_false_iff_eq]
  refine ⟨fun h7=>?_,fun h7=>?_⟩
  ·have hc:cdE l.codes i = 6:=by rw [hcE,if_pos (by omega)]
   rw [hbad (by rw [hc];decide),hc]
   exact .oA [] []
  have hc0:cdEs l.codes (i + 1) = 0:=by rw [hs,hcE,if_neg (by omega)]
  refine ⟨fun h8=>?_,fun h8=>?_⟩
  ·obtain ⟨q,hq⟩:=Int.eq_ofNat_of_zero_le (show 0≤parC l.codes i by omega)
   have hq3:q < (aboL l.codes i).length:=by omega
   have hset:=je2 (p:=q) hi2 (by rw [hpar,hq])
   simp only [hq,Int.toNat_natCast,qe hq3,show ∀ a b:Bool,repl (vB a) 0 (vB b) = vB b from fun _ _=>rfl,hwi]
   refine ⟨⟨by omega,by omega,by omega⟩,⟨by omega,by omega,rfl⟩,i + 1,⟨by omega,hc0⟩,by omega,?_⟩
   rw [← List.map_set,hset]
   exact .oA [(4096,some 4096),(32768,some 32768),(32784,some 32784)] []
  ·have hsk:=zW2 hi2 (by omega)
   simp only [hwi]
   refine ⟨i + 1,⟨by omega,hc0⟩,by omega,?_⟩
   rw [hsk]
   exact .oA [(4096,some 4096),(32768,some 32768),(32784,some 32784)] []
 ·have hil:i = l.codes.length:=by omega
  subst hil
  have hP:=jx0 i2 (by omega)
  have hdl:=YJ l.codes
  refine C1.im (wh l hP) (by rfl) (by rfl) ?_
  refine sW ?_
  have hbl:=Wb l.codes l.codes.length
  refine qw mixm (α:=Nat×Int) [7,84] (fun x=>x.1≤l.codes.length∧lvs l.codes x.1 = some x.2) (fun x=>[(7,vI x.2),(84,vI x.1)]) (fun x=>[(32784,.arr 1 ((aboL l.codes l.codes.length).map vB) false)]) (fun x=>l.codes.length - x.1) (0,-1) ⟨by simp,rfl⟩ ?_ fun x hx=>?_
  ·rw [Int.toNat_natCast]
   exact .oA [(32784,some 32784)] []
  obtain ⟨j,v⟩:=x
  obtain ⟨j1,j2⟩:=hx
  dsimp only at j1 j2
  refine sD ?_
  refine ⟨fun h5=>?_,fun h5=>?_⟩
  ·have hj2:j < l.codes.length:=by omega
   have hwj:=qk (i:=j) (by omega)
   have hs:=qx1 l.codes j
   rw [j2,lvS] at hs
   have hj3:j < (depL l.codes).length:=by omega
   have hj4:j < (aboL l.codes l.codes.length).length:=by omega
   have hd1:(depL l.codes)[j] = dep l.codes j:=by simp [depL]
   have ha1:=je3 hj4
   simp only [tZ,↓un_u,simprocAttr,Int.toNat_natCast,qe hj3,qe hj4,hd1,ha1,hwj,Bool.not_eq_true',Bool.not_eq_false',tD,bne_iff_ne,bne_eq_false_iff_eq]
   refine ⟨by omega,by omega,by omega,fun h6=>?_,fun h6=>?_⟩
   ·rw [if_neg (by rw [h6];simp)] at hs
    refine ⟨(j + 1,v),⟨by dsimp only;omega,hs⟩,by dsimp only;omega,?_⟩
    exact .oA [(32784,some 32784)] []
   ·rw [if_pos h6] at hs
    refine ⟨fun h7=>?_,fun h7=>?_⟩
    ·rw [if_pos (by omega)] at hs
     rw [hE2 i2 (zy9 hs _ (by omega))]
     exact .oA [] []
    ·rw [if_neg (by omega)] at hs
     refine ⟨(j + 1,(dep l.codes j:Int)),⟨by dsimp only;omega,hs⟩,by dsimp only;omega,?_⟩
     exact .oA [(32784,some 32784)] []
  ·have hjl:j = l.codes.length:=by omega
   subst hjl
   rw [hE3 v i2 j2]
   exact .oA [] []
end Go.Proofs
namespace Go.Proofs
open Go Go.TL
set_option maxRecDepth 4000
set_option maxHeartbeats 8000000
theorem ZQ (p:CodL→Bool) (f:FuncId) (caps:List T) (hcap:imL caps = true) (l:List CodL) (hf:∀ y∈l,Spc Tryz.prog f (cdlT y :: caps) [] (vB (p y)) []) (hl:l.length < 4611686018427387904) :
 Spc Tryz.prog zQ [.sl 2 (l.map cdlT),.clo f caps] [] (vI (idxI p l)) []:=by
 refine qd Zb mixm (by simp) fun e _ hst=>qj ?_
 unfold zM
 refine sW ?_
 refine qw mixm (α:=Nat) [8] (fun i=>i≤l.length∧((l.take i).any p = false)) (fun i=>[(8,vI i)]) (fun i=>[]) (fun i=>l.length - i) 0 ⟨by omega,?_⟩ ?_ fun i hi=>?_
 ·simp
 ·exact .oA [] []
 simp only [tZ,↓un_u,simprocAttr,decide_eq_true_eq,decide_eq_false_iff_not]
 refine ⟨fun h=>?_,fun h=>?_⟩
 ·have hi2:i < l.length:=by omega
  have hwi:=qk (i:=i) (by omega)
  simp only [tZ,↓un_u,simprocAttr,Int.toNat_natCast,qe hi2,hwi,qn3]
  refine ⟨by omega,?_⟩
  refine C1.im (hf l[i] (List.getElem_mem hi2)) (qg8 rfl hcap) rfl ?_
  refine sW ?_
  refine ⟨fun h3=>?_,fun h3=>⟨i + 1,⟨by omega,jB hi2 hi.2 h3⟩,by omega,?_⟩⟩
  ·rw [idxI,if_pos (qs9 hi2 h3),JX hi2 hi.2 h3]
   exact .imR rfl rfl
  ·exact .oA [] []
 ·have h2:i = l.length:=by omega
  have h3:=hi.2
  rw [h2,List.take_length] at h3
  rw [idxI,if_neg (by rw [h3];simp)]
  exact .imR rfl rfl
theorem Qr (p:CodL→Bool) (f:FuncId) (caps:List T) (hcap:imL caps = true) (l:List CodL) (hf:∀ y∈l,Spc Tryz.prog f (cdlT y :: caps) [] (vB (p y)) []) (hl:l.length < 4611686018427387904) :
 Spc Tryz.prog zB [.sl 2 (l.map cdlT),.clo f caps] [] (vB (l.any p)) []:=by
 refine qd yP mixm (by simp) fun e _ hst=>qj ?_
 unfold zw
 refine sW ?_
 refine C1.im (ZQ p f caps hcap l hf hl) (qx0 rfl hcap) rfl ?_
 refine sW ?_
 rw [show decide (idxI p l≥0) = l.any p from qT6 p l]
 exact .imR rfl rfl
theorem JQ (p:Col→Bool) (f:FuncId) (caps:List T) (hcap:imL caps = true) (l:List Col) (hf:∀ y∈l,Spc Tryz.prog f (colT y :: caps) [] (vB (p y)) []) (hl:l.length < 4611686018427387904) :
 Spc Tryz.prog jj [.sl 7 (l.map colT),.clo f caps] [] (vI (idxI p l)) []:=by
 refine qd ZW mixm (by simp) fun e _ hst=>qj ?_
 unfold zY
 refine sW ?_
 refine qw mixm (α:=Nat) [8] (fun i=>i≤l.length∧((l.take i).any p = false)) (fun i=>[(8,vI i)]) (fun i=>[]) (fun i=>l.length - i) 0 ⟨by omega,?_⟩ ?_ fun i hi=>?_
 ·simp
 ·exact .oA [] []
 simp only [tZ,↓un_u,simprocAttr,decide_eq_true_eq,decide_eq_false_iff_not]
 refine ⟨fun h=>?_,fun h=>?_⟩
 ·have hi2:i < l.length:=by omega
  have hwi:=qk (i:=i) (by omega)
  simp only [tZ,↓un_u,simprocAttr,Int.toNat_natCast,qe hi2,hwi,qn3]
  refine ⟨by omega,?_⟩
  refine C1.im (hf l[i] (List.getElem_mem hi2)) (qg8 rfl hcap) rfl ?_
  refine sW ?_
  refine ⟨fun h3=>?_,fun h3=>⟨i + 1,⟨by omega,jB hi2 hi.2 h3⟩,by omega,?_⟩⟩
  ·rw [idxI,if_pos (qs9 hi2 h3),JX hi2 hi.2 h3]
   exact .imR rfl rfl
  ·exact .oA [] []
 ·have h2:i = l.length:=by omega
  have h3:=hi.2
  rw [h2,List.take_length] at h3
  rw [idxI,if_neg (by rw [h3];simp)]
  exact .imR rfl rfl
theorem Ze (p:Col→Bool) (f:FuncId) (caps:List T) (hcap:imL caps = true) (l:List Col) (hf:∀ y∈l,Spc Tryz.prog f (colT y :: caps) [] (vB (p y)) []) (hl:l.length < 4611686018427387904) :
 Spc Tryz.prog zL [.sl 7 (l.map colT),.clo f caps] [] (vB (l.any p)) []:=by
 refine qd QJ mixm (by simp) fun e _ hst=>qj ?_
 unfold zG
 refine sW ?_
 refine C1.im (JQ p f caps hcap l hf hl) (qx0 rfl hcap) rfl ?_
 refine sW ?_
 rw [show decide (idxI p l≥0) = l.any p from qT6 p l]
 exact .imR rfl rfl
theorem qw0 (x y:CodL):Spc Tryz.prog wn [cdlT x,.ip (cdlT y).cells] [] (vB (eqB x.name y.name)) []:=by
 refine qd qp0 mixm (by simp) fun e _ hst=>qj ?_
 unfold yQ
 refine sW ?_
 rw [show (x.name.toList == y.name.toList) = eqB x.name y.name from rfl]
 exact .oA [] []
theorem WB (x y:Col):Spc Tryz.prog zW [colT x,.ip (colT y).cells] [] (vB (eqB x.name y.name)) []:=by
 refine qd KU mixm (by simp) fun e _ hst=>qj ?_
 unfold jM
 refine sW ?_
 rw [show (x.name.toList == y.name.toList) = eqB x.name y.name from rfl]
 exact .oA [] []
def unuB (c:Col):Bool:=!(((c.kind != 2) && (c.list != 0)) || ((c.kind != 3) && ((c.low != 0) || (c.high != 0) || (c.widths.length != 0) || c.opt)))
theorem ZR (c:Col):Spc Tryz.prog Zp [colT c] [] (vB (unuB c)) []:=by
 refine qd qv3 mixm (by simp) fun e _ hst=>qj ?_
 unfold QK
 refine sW ?_
 refine ⟨fun h=>?_,fun h=>?_⟩
 ·have:unuB c = false:=by unfold unuB;rw [h];rfl
  rw [this]
  exact .oA [] []
 ·have e:((c.widths.length:Int) == 0) = (c.widths.length == 0):=by rw [Bool.eq_iff_iff,beq_iff_eq,beq_iff_eq];omega
  have:unuB c = (c.kind == 3 || c.low == 0 && c.high == 0 && ((c.widths.length:Int) == 0) && !c.opt):=by
   unfold unuB
   rw [h,e]
   simp only [Bool.false_or,bne,Bool.not_and,Bool.not_or,Bool.not_not]
  rw [this]
  exact .oA [] []
def zj4 (ws:List Int) (i:Nat):Int:=if i = 0 then 1 else ws.getD (i - 1) 0
theorem Yr (c:Col):Spc Tryz.prog kh [colT c] [] (vI (measE c)) []:=by
 refine qd Wy mixm (by simp) fun e _ hst=>qj ?_
 unfold jZ
 refine sW ?_
 simp only [tZ,↓un_u,simprocAttr,tD,Bool.not_eq_true',Bool.not_eq_false',beq_iff_eq,beq_eq_false_iff_ne]
 have hin:∀ n:Int,inB n (-1000000) 1000000 = false↔(n < -1000000∨n > 1000000):=fun n=>by
  unfold inB
  rw [Bool.and_eq_false_iff,decide_eq_false_iff_not,decide_eq_false_iff_not]
  omega
 refine ⟨fun h=>?_,fun h=>?_⟩
 ·have k:inB c.low (-1000000) 1000000 = false∨inB c.high (-1000000) 1000000 = false∨c.low > c.high:=by
   rw [hin,hin]
   omega
  rw [measE,if_pos k]
  exact .oA [] []
 have hA:¬ (inB c.low (-1000000) 1000000 = false∨inB c.high (-1000000) 1000000 = false∨c.low > c.high):=by
  rw [hin,hin]
  omega
 refine ⟨fun h2=>?_,fun h2=>?_⟩
 ·rw [measE,if_neg hA,if_pos (by omega)]
  exact .oA [] []
 have hm:measE c = if jd1 c.widths = false then 2 else 0:=by rw [measE,if_neg hA,if_neg (by omega)]
 refine qw mixm (α:=Nat) [3,36] (fun i=>i≤c.widths.length∧(∀ j,j < i→wdOk c.widths j = true)) (fun i=>[(3,vI (zj4 c.widths i)),(36,vI i)]) (fun i=>[]) (fun i=>c.widths.length - i) 0 ⟨by omega,?_⟩ ?_ fun i hi=>?_
 ·intro j hj;omega
 ·exact .oA [] []
 have hbad:i < c.widths.length→wdOk c.widths i = false→measE c = 2:=fun h1 h2=>by
  rw [hm,if_pos]
  exact List.all_eq_false.2 ⟨i,List.mem_range.2 h1,by rw [h2];simp⟩
 have hok:wdOk c.widths i = true→∀ j,j < i + 1→wdOk c.widths j = true:=fun h1 j hj=>by
  by_cases e:j = i
  ·rw [e];exact h1
  ·exact hi.2 j (by omega)
 simp only [tZ,↓un_u,simprocAttr,decide_eq_true_eq,decide_eq_false_iff_not]
 refine ⟨fun h=>?_,fun h=>?_⟩
 ·have hi2:i < c.widths.length:=by omega
  have hwi:=qk (i:=i) (by omega)
  have hnx:zj4 c.widths (i + 1) = c.widths[i]:=by rw [zj4,if_neg (by omega),Nat.add_sub_cancel,qh hi2]
  rcases Nat.eq_zero_or_pos i with h0 | h0
  ·subst h0
   have hw0:wdOk c.widths 0 = (c.widths[0] == 1):=by rw [wdOk,if_pos rfl,qh hi2]
   have hz:((0:Nat):Int) = 0:=rfl
   rw [hz] at hwi
   simp only [tZ,↓un_u,simprocAttr,Int.toNat_natCast,hz,beq_self_eq_true,gt_iff_lt,Int.lt_irrefl,decide_false,Bool.false_and,Bool.or_false,Bool.true_and,qe hi2,bne_iff_ne,bne_eq_false_iff_eq]
   have hwz:IntKind.i64.wrap 1 = ((1:Nat):Int):=by decide
   refine ⟨by omega,fun h3=>?_,fun h3=>?_⟩
   ·rw [hbad hi2 (by rw [hw0];simpa using h3)]
    exact .oA [] []
   ·rw [hwz]
    refine ⟨1,⟨by omega,hok (by rw [hw0];simpa using h3)⟩,by omega,?_⟩
    rw [hnx]
    exact .oA [] []
  ·have e1:((i:Int) == 0) = false:=beq_eq_false_iff_ne.2 (by omega)
   have e2:decide ((i:Int) > 0) = true:=decide_eq_true (by omega)
   have hw1:wdOk c.widths i = (decide (zj4 c.widths i < c.widths[i]) && decide (c.widths[i]≤1000000) && (c.widths[i].tmod (zj4 c.widths i) == 0)):=by
    rw [wdOk,if_neg (by omega),qh hi2,zj4,if_neg (by omega)]
   have hp1:1≤zj4 c.widths i:=by
    have:=zi0 (ws:=c.widths) hi.2 (i - 1) (by omega)
    rw [zj4,if_neg (by omega)]
    exact this
   simp only [tZ,↓un_u,simprocAttr,Int.toNat_natCast,qe hi2,e1,e2,hwi,tD,bne_iff_ne,bne_eq_false_iff_eq]
   refine ⟨by omega,fun _=>by omega,fun h3=>?_,fun h3=>?_⟩
   ·rw [hbad hi2 (by rw [hw1];grind)]
    exact .oA [] []
   ·refine ⟨i + 1,⟨by omega,hok (by rw [hw1];grind)⟩,by omega,?_⟩
    rw [hnx]
    exact .oA [] []
 ·have hi2:i = c.widths.length:=by omega
  subst hi2
  rw [hm,if_neg]
  ·exact .oA [] []
  ·rw [Bool.not_eq_false]
   exact List.all_eq_true.2 fun j hj=>hi.2 j (List.mem_range.1 hj)
theorem YY (s:Sch) (i:Nat) (hi:i < s.cols.length) (hn:s.cols.length < 4611686018427387904) (hl:s.lists.length < 4611686018427387904):Spc Tryz.prog kN [schT s,vI i] [] (vI (colE s i)) []:=by
 have hat:qg s i = s.cols[i]:=by rw [qg,qh hi]
 have hE:colE s i = if ky s.cols[i].name = false then 3
  else if ((s.cols.take i).any fun x=>eqB x.name s.cols[i].name) = true then 10
  else if inB s.cols[i].kind 1 3 = false∨(0 < i∧s.cols[i].kind = 1) then 4
  else if s.cols[i].kind = 2∧inB s.cols[i].list 0 (s.lists.length - 1) = false then 5
  else if s.cols[i].kind = 3∧measE s.cols[i]≠0 then measE s.cols[i]
  else if (s.cols[i].kind≠2∧s.cols[i].list≠0)∨(s.cols[i].kind≠3∧(s.cols[i].low≠0∨s.cols[i].high≠0∨0 < s.cols[i].widths.length∨s.cols[i].opt = true)) then 11 else 0:=by rw [colE,hat]
 rw [hE]
 refine qd Ye mixm (by simp) fun e _ hst=>qj ?_
 unfold kp
 simp only [tZ,↓un_u,simprocAttr,Int.toNat_natCast,qe hi]
 generalize s.cols[i] = c
 refine ⟨by omega,?_⟩
 refine C1.im (Jg c.name) (by rfl) (by rfl) ?_
 simp only [tZ,↓un_u,simprocAttr,Bool.not_eq_true',Bool.not_eq_false']
 refine ⟨fun h=>?_,fun h=>?_⟩
 ·rw [if_pos h]
  exact .oA [] []
 rw [if_neg (by rw [h];simp)]
 have hCF:=Ze (fun x=>eqB x.name c.name) zW [.ip (colT c).cells] rfl (s.cols.take i) (fun x _=>WB x c) (by rw [List.length_take];omega)
 refine ⟨by omega,?_⟩
 rw [qn7,zg1]
 refine C1.lend [8212] hCF ?_ (by rfl) (by rfl) ?_
 ·all_goals (try simp only [tL,simprocAttr,List.map_append,List.map_cons,List.map_nil,List.cons_append,List.nil_append])
  all_goals (try (repeat' (first | exact zh | (apply zU;intro _;exact ⟨rfl,rfl⟩) | (apply qK;intro _;exact ⟨rfl,rfl⟩) | with_reducible apply qX | with_reducible refine qZ ⟨rfl,rfl⟩ ?_ | exact zn | with_reducible apply qR | with_reducible refine qQ ⟨rfl,rfl,?_⟩ ?_ | with_reducible apply And.intro | exact qS rfl | exact qS (by assumption) | (refine ⟨⟨?_,rfl,?_,rfl,?_⟩,trivial⟩ <;> first | (simp;done) | (apply qK;intro _;exact ⟨rfl,rfl⟩)) | trivial | rfl | (rw [qk (by omega)]) | omega)))
  simp only [ltP]
  exact ⟨rfl,by decide,rfl,qZ ⟨rfl,rfl⟩ zn⟩
 simp only [tZ,↓un_u,simprocAttr,tD,Bool.not_eq_true',Bool.not_eq_false',beq_iff_eq,beq_eq_false_iff_ne]
 refine ⟨fun h2=>?_,fun h2=>?_⟩
 ·rw [if_pos h2]
  exact .oA [] []
 rw [if_neg (by rw [h2];simp)]
 have hI:inB c.kind 1 3 = false↔¬ (1≤c.kind∧c.kind≤3):=by unfold inB;rw [Bool.and_eq_false_iff,decide_eq_false_iff_not,decide_eq_false_iff_not];omega
 have hL:inB c.list 0 (s.lists.length - 1) = false↔(c.list < 0∨(s.lists.length:Int)≤c.list):=by unfold inB;rw [Bool.and_eq_false_iff,decide_eq_false_iff_not,decide_eq_false_iff_not];omega
 have hU:unuB c = false↔((c.kind≠2∧c.list≠0)∨(c.kind≠3∧(c.low≠0∨c.high≠0∨0 < c.widths.length∨c.opt = true))):=by
  have hw0:c.widths.length≠0↔0 < c.widths.length:=by omega
  unfold unuB
  rw [Bool.not_eq_false',Bool.or_eq_true,Bool.and_eq_true,Bool.and_eq_true,bne_iff_ne,bne_iff_ne,bne_iff_ne,Bool.or_eq_true,Bool.or_eq_true,Bool.or_eq_true,bne_iff_ne,bne_iff_ne,bne_iff_ne,hw0,or_assoc,or_assoc]
 have hfin:∀ (v:Int),(unuB c = false→v = 11)→(unuB c = true→v = 0)→v = if (c.kind≠2∧c.list≠0)∨(c.kind≠3∧(c.low≠0∨c.high≠0∨0 < c.widths.length∨c.opt = true)) then 11 else 0:=fun v h11 h00=>by
  by_cases k:unuB c = false
  ·rw [if_pos (hU.1 k),h11 k]
  ·rw [if_neg (fun e=>k (hU.2 e)),h00 (by simpa using k)]
 refine ⟨fun k1=>⟨fun h3=>?_,fun h3=>?_⟩,fun k1=>⟨fun k2=>⟨fun h3=>?_,fun h3=>?_⟩,fun k2=>⟨fun k3=>?_,fun k3=>?_⟩⟩⟩
 ·rw [if_pos (.inr ⟨by omega,k1⟩)]
  exact .oA [] []
 ·rw [if_neg (by rw [hI];omega),if_neg (by omega),if_neg (by omega)]
  refine C1.im (ZR c) (by rfl) (by rfl) ?_
  simp only [tZ,↓un_u,simprocAttr,Bool.not_eq_true',Bool.not_eq_false']
  refine ⟨fun h4=>?_,fun h4=>?_⟩
  ·rw [← hfin 11 (fun _=>rfl) (fun k=>by rw [h4] at k;cases k)]
   exact .oA [] []
  ·rw [← hfin 0 (fun k=>by rw [h4] at k;cases k) (fun _=>rfl)]
   exact .oA [] []
 ·rw [if_neg (by rw [hI];omega),if_pos ⟨k2,hL.2 h3⟩]
  exact .oA [] []
 ·rw [if_neg (by rw [hI];omega),if_neg (by rw [hL];omega),if_neg (by omega)]
  refine C1.im (ZR c) (by rfl) (by rfl) ?_
  simp only [tZ,↓un_u,simprocAttr,Bool.not_eq_true',Bool.not_eq_false']
  refine ⟨fun h4=>?_,fun h4=>?_⟩
  ·rw [← hfin 11 (fun _=>rfl) (fun k=>by rw [h4] at k;cases k)]
   exact .oA [] []
  ·rw [← hfin 0 (fun k=>by rw [h4] at k;cases k) (fun _=>rfl)]
   exact .oA [] []
 ·rw [if_neg (by rw [hI];omega),if_neg (by omega)]
  refine C1.im (Yr c) (by rfl) (by rfl) ?_
  simp only [tZ,↓un_u,simprocAttr,bne_iff_ne,bne_eq_false_iff_eq]
  refine ⟨fun h3=>?_,fun h3=>?_⟩
  ·rw [if_pos ⟨k3,h3⟩]
   exact .oA [] []
  rw [if_neg (by omega)]
  refine C1.im (ZR c) (by rfl) (by rfl) ?_
  simp only [tZ,↓un_u,simprocAttr,Bool.not_eq_true',Bool.not_eq_false']
  refine ⟨fun h4=>?_,fun h4=>?_⟩
  ·rw [← hfin 11 (fun _=>rfl) (fun k=>by rw [h4] at k;cases k)]
   exact .oA [] []
  ·rw [← hfin 0 (fun k=>by rw [h4] at k;cases k) (fun _=>rfl)]
   exact .oA [] []
 ·rw [if_pos (.inl (hI.2 (by omega)))]
  exact .oA [] []
theorem wi (s:Sch) (hn:s.cols.length < 4611686018427387904) (hl:s.lists.length < 4611686018427387904):Spc Tryz.prog jh [schT s] [] (vI (schE s)) []:=by
 refine qd qD3 mixm (by simp) fun e _ hst=>qj ?_
 unfold ZD
 refine sD ?_
 refine ⟨fun h=>?_,fun h=>?_⟩
 ·rw [schE,if_pos (by omega)]
  exact .oA [] []
 have hE1:wI s s.lists.length≠0→schE s = wI s s.lists.length:=fun k=>by rw [schE,if_neg (by omega),if_pos k]
 refine qw mixm (α:=Nat) [21] (fun i=>i≤s.lists.length∧wI s i = 0) (fun i=>[(21,vI i)]) (fun i=>[(4096,.arr 2 [schT s] false)]) (fun i=>s.lists.length - i) 0 ⟨by omega,rfl⟩ ?_ fun i hi=>?_
 ·exact .oA [(4096,some 4096)] []
 obtain ⟨i1,i2⟩:=hi
 refine sD ?_
 refine ⟨fun h2=>?_,fun h2=>?_⟩
 ·have hi2:i < s.lists.length:=by omega
  have hwi:=qk (i:=i) (by omega)
  have hat:s.lists.getD i default = s.lists[i]:=qh hi2
  have hstep:wI s (i + 1) = if lstE s.lists[i]≠0 then lstE s.lists[i] else if ((s.lists.take i).any fun x=>eqB x.name s.lists[i].name) = true then 10 else 0:=by
   rw [wI,if_neg (by rw [i2];simp),hat]
  have hbad:wI s (i + 1)≠0→schE s = wI s (i + 1):=fun k=>by
   have:=qE6 k s.lists.length (by omega)
   rw [hE1 (by rw [this];exact k),this]
  have hCF:=Qr (fun x=>eqB x.name s.lists[i].name) wn [.ip (cdlT s.lists[i]).cells] rfl (s.lists.take i) (fun x _=>qw0 x s.lists[i]) (by rw [List.length_take];omega)
  simp only [tZ,↓un_u,simprocAttr,Int.toNat_natCast,qe hi2,hwi]
  generalize s.lists[i] = c at *
  refine ⟨by omega,?_⟩
  refine C1.im (Zd c) (by rfl) (by rfl) ?_
  simp only [tZ,↓un_u,simprocAttr,bne_iff_ne,bne_eq_false_iff_eq]
  refine ⟨fun h3=>?_,fun h3=>?_⟩
  ·rw [if_pos h3] at hstep
   rw [hbad (by rw [hstep];exact h3),hstep]
   exact .oA [] []
  rw [if_neg (by rw [h3];simp)] at hstep
  refine ⟨by omega,?_⟩
  rw [qn7,zg1]
  refine C1.lend [24588] hCF ?_ (by rfl) (by rfl) ?_
  ·all_goals (try simp only [tL,simprocAttr,List.map_append,List.map_cons,List.map_nil,List.cons_append,List.nil_append])
   all_goals (try (repeat' (first | exact zh | (apply zU;intro _;exact ⟨rfl,rfl⟩) | (apply qK;intro _;exact ⟨rfl,rfl⟩) | with_reducible apply qX | with_reducible refine qZ ⟨rfl,rfl⟩ ?_ | exact zn | with_reducible apply qR | with_reducible refine qQ ⟨rfl,rfl,?_⟩ ?_ | with_reducible apply And.intro | exact qS rfl | exact qS (by assumption) | (refine ⟨⟨?_,rfl,?_,rfl,?_⟩,trivial⟩ <;> first | (simp;done) | (apply qK;intro _;exact ⟨rfl,rfl⟩)) | trivial | rfl | (rw [qk (by omega)]) | omega)))
   simp only [ltP]
   exact ⟨rfl,by decide,rfl,qZ ⟨rfl,rfl⟩ zn⟩
  simp only [tZ,↓un_u,simprocAttr,hwi]
  refine ⟨fun h4=>?_,fun h4=>?_⟩
  ·rw [if_pos h4] at hstep
   rw [hbad (by rw [hstep];simp),hstep]
   exact .oA [] []
  ·rw [if_neg (by rw [h4];simp)] at hstep
   refine ⟨i + 1,⟨by omega,hstep⟩,by omega,?_⟩
   exact .oA [(4096,some 4096)] []
 ·have hil:i = s.lists.length:=by omega
  subst hil
  have hE2:s.cols.length = 0∨(qg s 0).kind≠1→schE s = 7:=fun k=>by rw [schE,if_neg (by omega),if_neg (by rw [i2];simp),if_pos k]
  have hE3:¬ (s.cols.length = 0∨(qg s 0).kind≠1)→schE s = Kg s s.cols.length:=fun k=>by rw [schE,if_neg (by omega),if_neg (by rw [i2];simp),if_neg k]
  have hz:((0:Nat):Int) = 0:=rfl
  by_cases h0:s.cols.length = 0
  ·have hn:s.cols = []:=List.length_eq_zero_iff.1 h0
   rw [hE2 (.inl h0)]
   simp only [tZ,↓un_u,simprocAttr,hn,List.length_nil,hz,beq_self_eq_true]
   exact .oA [] []
  ·have h0p:0 < s.cols.length:=by omega
   have e0:((s.cols.length:Int) == 0) = false:=beq_eq_false_iff_ne.2 (by omega)
   have hc0:qg s 0 = s.cols[0]:=by rw [qg,qh h0p]
   simp only [tZ,↓un_u,simprocAttr,e0,qe h0p,bne_iff_ne,bne_eq_false_iff_eq,Bool.false_or]
   refine ⟨by omega,fun h3=>?_,fun h3=>?_⟩
   ·rw [hE2 (.inr (by rw [hc0];exact h3))]
    exact .oA [] []
   have hE4:=hE3 (by rw [hc0];grind)
   refine qw mixm (α:=Nat) [53] (fun i=>i≤s.cols.length∧Kg s i = 0) (fun i=>[(53,vI i)]) (fun i=>[(4096,.arr 2 [schT s] false)]) (fun i=>s.cols.length - i) 0 ⟨by omega,rfl⟩ ?_ fun i hi=>?_
   ·exact .oA [(4096,some 4096)] []
   simp only [tZ,↓un_u,simprocAttr,decide_eq_true_eq,decide_eq_false_iff_not]
   refine ⟨fun h=>?_,fun h=>?_⟩
   ·have hi2:i < s.cols.length:=by omega
    have hwi:=qk (i:=i) (by omega)
    have hstep:Kg s (i + 1) = colE s i:=by rw [Kg,if_neg (by rw [hi.2];simp)]
    refine C1.im (YY s i hi2 hn hl) (by rfl) (by rfl) ?_
    simp only [tZ,↓un_u,simprocAttr,bne_iff_ne,bne_eq_false_iff_eq,hwi]
    refine ⟨fun h4=>?_,fun h4=>?_⟩
    ·have:=qE7 (s:=s) (i:=i + 1) (by rw [hstep];exact h4) s.cols.length (by omega)
     rw [hE4,this,hstep]
     exact .oA [] []
    ·refine ⟨i + 1,⟨by omega,by rw [hstep];exact h4⟩,by omega,?_⟩
     exact .oA [(4096,some 4096)] []
   ·have hil:i = s.cols.length:=by omega
    rw [hE4,← hil,hi.2]
    exact .oA [] []
end Go.Proofs
namespace Go.Proofs
open Go Go.TL
set_option maxRecDepth 4000
set_option maxHeartbeats 8000000
theorem qx3 {cs:List Cod}:∀ {n:Nat} {v:Int},lvs cs n = some v→∀ j,j < n→qd9 cs j = true→(dep cs j:Int) = v
 | 0,_,_,j,h,_=>by omega
 | n + 1,v,h,j,hj,hl=>by
   rw [qx1] at h
   cases e:lvs cs n with
   | none=>rw [e] at h;cases h
   | some w=>
     rw [e] at h
     have ih:=fun k hk h2=>qx3 e k hk h2
     unfold lvS at h
     dsimp only at h
     split at h
     ·split at h
      ·cases h
      ·rename_i h2
       have hv:(dep cs n:Int) = v:=by simpa using h
       by_cases e2:j = n
       ·rw [e2];exact hv
       ·have:=ih j (by omega) hl
        omega
     ·rename_i h2
      have hv:w = v:=by simpa using h
      by_cases e2:j = n
      ·rw [e2] at hl;exact absurd hl h2
      ·have:=ih j (by omega) hl
       omega
theorem qX0 {cs:List Cod} {c:Nat}:qd9 cs c = true↔∀ i,i < cs.length→parC cs i≠c:=by
 unfold qd9
 rw [Bool.not_eq_true',List.any_eq_false]
 constructor
 ·intro h i hi e
  have:=h cs[i] (List.getElem_mem hi)
  rw [parC,cdAt,qh hi] at e
  simp [e] at this
 ·intro h x hx
  obtain ⟨i,hi,rfl⟩:=List.getElem_of_mem hx
  have:=h i hi
  rw [parC,cdAt,qh hi] at this
  simpa using this
theorem je4 {l:CodL} (h:lstE l = 0):∃ v,lvs l.codes l.codes.length = some v:=by
 unfold lstE at h
 split at h
 ·cases h
 ·split at h
  ·cases h
  ·split at h
   ·cases h
   ·split at h
    ·rename_i h2;exact absurd h h2
    ·split at h
     ·cases h
     ·rename_i v e;exact ⟨v,e⟩
theorem zp2 {l:CodL} (h:lstE l = 0) {c:Nat} (hc:c < l.codes.length):(dep l.codes c:Int)≤zk l - 1∧(qd9 l.codes c = true→(dep l.codes c:Int) = zk l - 1)∧(qd9 l.codes c = false→(dep l.codes c:Int) < zk l - 1):=by
 obtain ⟨hp,h1,h2⟩:=zc h
 obtain ⟨v,hv⟩:=je4 h
 have hlast:qd9 l.codes (l.codes.length - 1) = true:=qX0.2 fun i hi e=>by
  have:=(hp i hi).2
  omega
 have hlv:=qx3 hv (l.codes.length - 1) (by omega) hlast
 have hL:zk l - 1 = v:=by rw [zk,if_neg (by rw [h];simp)];omega
 have hall:∀ k c,l.codes.length - c = k→c < l.codes.length→(dep l.codes c:Int)≤v∧(qd9 l.codes c = false→(dep l.codes c:Int) < v):=by
  intro k
  induction k using Nat.strongRecOn with
  | _ k ih=>
    intro c hk hc
    cases hl:qd9 l.codes c with
    | true=>
      have:=qx3 hv c hc hl
      exact ⟨by omega,fun e=>by cases e⟩
    | false=>
      have hn:¬ ∀ i,i < l.codes.length→parC l.codes i≠c:=fun k=>by rw [qX0.2 k] at hl;cases hl
      simp only [Classical.not_forall] at hn
      obtain ⟨i,hi,hn⟩:=hn
      have hpc:parC l.codes i = c:=Classical.byContradiction hn
      have h3:=hp i hi
      have h4:=qd8 hp hi (by omega)
      rw [hpc,Int.toNat_natCast] at h4
      have h5:=ih (l.codes.length - i) (by omega) i rfl hi
      have:=h5.1
      exact ⟨by omega,fun _=>by omega⟩
 have:=hall _ c rfl hc
 rw [hL]
 exact ⟨this.1,fun hl=>qx3 hv c hc hl,this.2⟩
theorem je5 {l:CodL} (h:lstE l = 0) {c:Nat} (hc:c < l.codes.length):qd9 l.codes c = true↔(dep l.codes c:Int) = zk l - 1:=by
 obtain ⟨_,h2,h3⟩:=zp2 h hc
 cases hl:qd9 l.codes c with
 | true=>exact ⟨fun _=>h2 hl,fun _=>rfl⟩
 | false=>
   have:=h3 hl
   exact ⟨(by intro e;cases e),fun e=>by omega⟩
theorem Wc (p:Cod→Bool) (f:FuncId) (caps:List T) (hcap:imL caps = true) (l:List Cod) (hf:∀ y∈l,Spc Tryz.prog f (codT y :: caps) [] (vB (p y)) []) (hl:l.length < 4611686018427387904) :
 Spc Tryz.prog jJ [.sl 2 (l.map codT),.clo f caps] [] (vI (idxI p l)) []:=by
 refine qd Kf mixm (by simp) fun e _ hst=>qj ?_
 unfold jx
 refine sW ?_
 refine qw mixm (α:=Nat) [8] (fun i=>i≤l.length∧((l.take i).any p = false)) (fun i=>[(8,vI i)]) (fun i=>[]) (fun i=>l.length - i) 0 ⟨by omega,?_⟩ ?_ fun i hi=>?_
 ·simp
 ·exact .oA [] []
 simp only [tZ,↓un_u,simprocAttr,decide_eq_true_eq,decide_eq_false_iff_not]
 refine ⟨fun h=>?_,fun h=>?_⟩
 ·have hi2:i < l.length:=by omega
  have hwi:=qk (i:=i) (by omega)
  simp only [tZ,↓un_u,simprocAttr,Int.toNat_natCast,qe hi2,hwi,qn3]
  refine ⟨by omega,?_⟩
  refine C1.im (hf l[i] (List.getElem_mem hi2)) (qg8 rfl hcap) rfl ?_
  refine sW ?_
  refine ⟨fun h3=>?_,fun h3=>⟨i + 1,⟨by omega,jB hi2 hi.2 h3⟩,by omega,?_⟩⟩
  ·rw [idxI,if_pos (qs9 hi2 h3),JX hi2 hi.2 h3]
   exact .imR rfl rfl
  ·exact .oA [] []
 ·have h2:i = l.length:=by omega
  have h3:=hi.2
  rw [h2,List.take_length] at h3
  rw [idxI,if_neg (by rw [h3];simp)]
  exact .imR rfl rfl
theorem ZX (p:Cod→Bool) (f:FuncId) (caps:List T) (hcap:imL caps = true) (l:List Cod) (hf:∀ y∈l,Spc Tryz.prog f (codT y :: caps) [] (vB (p y)) []) (hl:l.length < 4611686018427387904) :
 Spc Tryz.prog zX [.sl 2 (l.map codT),.clo f caps] [] (vB (l.any p)) []:=by
 refine qd ZM mixm (by simp) fun e _ hst=>qj ?_
 unfold zT
 refine sW ?_
 refine C1.im (Wc p f caps hcap l hf hl) (qx0 rfl hcap) rfl ?_
 refine sW ?_
 rw [show decide (idxI p l≥0) = l.any p from qT6 p l]
 exact .imR rfl rfl
theorem qF3 (x:Cod) (v:Int):Spc Tryz.prog ya [codT x,.ip [vI v]] [] (vB (x.par == v)) []:=by
 refine qd qv5 mixm (by simp) fun e _ hst=>qj ?_
 unfold QL
 refine sW ?_
 exact .oA [] []
theorem zW3 {l:CodL} (h:lstE l = 0) (v:Int):(decide (0≤v) && decide (v < l.codes.length) && !(l.codes.any fun x=>x.par == v)) = (inB v 0 (l.codes.length - 1) && (lvlC l v == zk l - 1)):=by
 unfold inB
 by_cases h0:0≤v∧v < l.codes.length
 ·obtain ⟨c,rfl⟩:=Int.eq_ofNat_of_zero_le h0.1
  have hc:c < l.codes.length:=by omega
  have h1:lvlC l c = dep l.codes c:=by rw [lvlC,if_neg (by rw [h];simp;omega),Int.toNat_natCast]
  rw [decide_eq_true h0.1,decide_eq_true h0.2,decide_eq_true (show (c:Int)≤(l.codes.length:Int) - 1 by omega),h1]
  simp only [Bool.true_and]
  rw [Bool.eq_iff_iff,beq_iff_eq,← je5 h hc]
  rfl
 ·by_cases h1:0≤v
  ·rw [decide_eq_true h1,decide_eq_false (show ¬ v < l.codes.length by omega),decide_eq_false (show ¬ v≤(l.codes.length:Int) - 1 by omega)]
   rfl
  ·rw [decide_eq_false h1]
   rfl
theorem qX1 (s:Sch) (h:SchOk s) (i:Nat) (hi:i < s.cols.length) (v:Int):Spc Tryz.prog KE [schT s,colT s.cols[i],vI v] [] (vB (zd s i v)) []:=by
 have hat:qg s i = s.cols[i]:=by rw [qg,qh hi]
 have hk:=qU (h.cs i hi)
 have hcd:=fun e=>h.cdl hi e
 have hE:zd s i v = if s.cols[i].kind = 1 then inB v 1 1048575
  else if s.cols[i].kind = 2 then inB v 0 ((qG s i).codes.length - 1) && (lvlC (qG s i) v == zk (qG s i) - 1)
  else (s.cols[i].opt && (v == qY)) || inB v s.cols[i].low s.cols[i].high:=by rw [zd,hat]
 have hcl:qG s i = s.lists.getD s.cols[i].list.toNat default:=by rw [qG,hat]
 rw [hat] at hk hcd
 rw [hE]
 rw [hcl] at hcd ⊢
 generalize s.cols[i] = c at hk hcd ⊢
 refine qd qL6 mixm (by simp) fun e _ hst=>qj ?_
 unfold JH
 refine sW ?_
 simp only [tZ,↓un_u,simprocAttr,beq_iff_eq,beq_eq_false_iff_ne]
 refine ⟨fun h1=>?_,fun h1=>⟨fun h2=>?_,fun h2=>?_⟩⟩
 ·rw [if_pos h1,show inB v 1 1048575 = (decide (1≤v) && decide (v≤1048575)) from rfl]
  exact .oA [] []
 ·obtain ⟨d1,d2⟩:=hcd h2
  obtain ⟨d3,d4⟩:=hk.2.2.2.1 h2
  have hgl:s.lists.getD c.list.toNat default = s.lists[c.list.toNat]:=qh d1
  rw [if_neg h1,if_pos h2]
  rw [hgl] at d2 ⊢
  obtain ⟨_,d5,d6⟩:=zc d2
  simp only [tZ,↓un_u,simprocAttr,qe d1]
  generalize s.lists[c.list.toNat] = l at d2 d5 d6 ⊢
  have hCF:=ZX (fun x=>x.par == v) ya [.ip [vI v]] rfl l.codes (fun x _=>qF3 x v) (by omega)
  refine ⟨by omega,?_⟩
  refine C2.lend [4104] (fun _=>hCF) (fun _=>?_) (by rfl) (by rfl) ?_
  ·all_goals (try simp only [tL,simprocAttr,List.map_append,List.map_cons,List.map_nil,List.cons_append,List.nil_append])
   all_goals (try (repeat' (first | exact zh | (apply zU;intro _;exact ⟨rfl,rfl⟩) | (apply qK;intro _;exact ⟨rfl,rfl⟩) | with_reducible apply qX | with_reducible refine qZ ⟨rfl,rfl⟩ ?_ | exact zn | with_reducible apply qR | with_reducible refine qQ ⟨rfl,rfl,?_⟩ ?_ | with_reducible apply And.intro | exact qS rfl | exact qS (by assumption) | (refine ⟨⟨?_,rfl,?_,rfl,?_⟩,trivial⟩ <;> first | (simp;done) | (apply qK;intro _;exact ⟨rfl,rfl⟩)) | trivial | rfl | (rw [qk (by omega)]) | omega)))
   simp only [ltP]
   exact ⟨rfl,by decide,rfl,qZ ⟨rfl,rfl⟩ zn⟩
  refine sW ?_
  rw [← zW3 d2 v]
  exact .oA [] []
 ·rw [if_neg h1,if_neg h2,Bool.or_comm,show inB v c.low c.high = (decide (c.low≤v) && decide (v≤c.high)) from rfl]
  rw [show (c.opt && v == qY) = (c.opt && v == -1099511627776) from rfl]
  exact .oA [] []
end Go.Proofs
namespace Go.Proofs
open Go Go.TL
set_option maxRecDepth 4000
set_option maxHeartbeats 8000000
theorem qw1 (l:List Int) (m:Int) (hm:m∈l) (hle:∀ x∈l,x≤m) (hl:l.length < 4611686018427387904):Spc Tryz.prog Qy [vIs l] [] (vI m) []:=by
 have h0:0 < l.length:=List.length_pos_of_mem hm
 have e0:decide ((l.length:Int) < 1) = false:=decide_eq_false (by omega)
 refine qd qp6 mixm (by simp) fun e _ hst=>qj ?_
 unfold yT
 simp only [tZ,↓un_u,simprocAttr,e0,qe h0]
 refine ⟨by omega,?_⟩
 refine qw mixm (α:=Nat×Int) [3,4] (fun q=>1≤q.1∧q.1≤l.length∧q.2∈l∧∀ x∈l.take q.1,x≤q.2) (fun q=>[(3,vI q.2),(4,vI q.1)]) (fun q=>[]) (fun q=>l.length - q.1) (1,l[0]) ⟨by simp,by dsimp only;omega,List.getElem_mem h0,fun x hx=>by
  rw [show l.take 1 = [l[0]] by cases l with | nil=>simp at h0 | cons a r=>rfl,List.mem_singleton] at hx
  rw [hx];exact Int.le_refl _⟩ ?_ fun q hq=>?_
 ·exact .oA [] []
 obtain ⟨i,v⟩:=q
 obtain ⟨i0,i1,i2,i3⟩:=hq
 dsimp only at i0 i1 i2 i3
 refine sD ?_
 refine ⟨fun h2=>?_,fun h2=>?_⟩
 ·have hi2:i < l.length:=by omega
  have hwi:=qk (i:=i) (by omega)
  simp only [tZ,↓un_u,simprocAttr,Int.toNat_natCast,qe hi2,hwi]
  refine ⟨by omega,(i + 1,maxI v l[i]),⟨by dsimp only;omega,by dsimp only;omega,?_,fun x hx=>?_⟩,by dsimp only;omega,?_⟩
  ·dsimp only [maxI]
   split
   ·exact List.getElem_mem hi2
   ·exact i2
  ·dsimp only at hx
   dsimp only [maxI]
   rw [qM hi2] at hx
   rcases List.mem_append.1 hx with k | k
   ·have:=i3 x k
    split <;> omega
   ·rw [List.mem_singleton.1 k]
    split <;> omega
  ·exact .oA [] []
 ·have hv:v = m:=by
   have h5:=hle v i2
   have h6:=i3 m (by rw [List.take_of_length_le (by omega)];exact hm)
   omega
  rw [hv]
  exact .oA [] []
theorem JR (l:CodL):Spc Tryz.prog kY [cdlT l] [] (vI (zk l)) []:=by
 refine qd qD5 mixm (by simp) fun e _ hst=>qj ?_
 unfold ZG
 refine sW ?_
 refine C1.im (Zd l) (by rfl) (by rfl) ?_
 simp only [tZ,↓un_u,simprocAttr,bne_iff_ne,bne_eq_false_iff_eq]
 refine ⟨fun h=>?_,fun h=>?_⟩
 ·rw [zk,if_pos h]
  exact .oA [] []
 obtain ⟨hp,h1,h2⟩:=zc h
 have hdl:=YJ l.codes
 have hL:zk l = (dep l.codes (l.codes.length - 1):Int) + 1:=by rw [zk,if_neg (by rw [h];simp)]
 have hd:=qt2 hp (l.codes.length - 1) (by omega)
 have hM:=qw1 (depL l.codes) (dep l.codes (l.codes.length - 1)) (List.mem_map.2 ⟨l.codes.length - 1,List.mem_range.2 (by omega),rfl⟩) (fun x hx=>by
  obtain ⟨c,hc,rfl⟩:=List.mem_map.1 hx
  have:=(zp2 h (List.mem_range.1 hc)).1
  omega) (by omega)
 have hw:=qk (i:=dep l.codes (l.codes.length - 1)) (by omega)
 refine C1.im (wh l (Yq h)) (by rfl) (by rfl) ?_
 refine sW ?_
 refine C1.im hM (by rfl) (by rfl) ?_
 simp only [tZ,↓un_u,simprocAttr,hw]
 rw [hL]
 exact .oA [] []
def hasB (l:CodL) (c:Int):Bool:=decide (0≤c) && decide (c < l.codes.length) && (lstE l == 0)
theorem qe9 (l:CodL) (c:Int):Spc Tryz.prog Zq [cdlT l,vI c] [] (vB (hasB l c)) []:=by
 refine qd zh3 mixm (by simp) fun e _ hst=>qj ?_
 unfold Yl
 refine sW ?_
 refine C2.im (fun _=>Zd l) (fun _=>rfl) (by rfl) ?_
 refine sW ?_
 rw [show hasB l c = (decide (0≤c) && decide (c < l.codes.length) && (lstE l == 0)) from rfl]
 exact .oA [] []
theorem ql7 {l:CodL} {c:Int}:hasB l c = true↔0≤c∧c < l.codes.length∧lstE l = 0:=by
 unfold hasB
 rw [Bool.and_eq_true,Bool.and_eq_true,decide_eq_true_eq,decide_eq_true_eq,beq_iff_eq,and_assoc]
theorem qX2 {cs:List Cod} {c:Nat} (h:c < (depL cs).length):(depL cs)[c] = dep cs c:=by simp [depL]
theorem qq9 (l:CodL) (lev:Int):Spc Tryz.prog JY [cdlT l,vI lev] [] (vIs (atL l lev)) []:=by
 refine qd zo1 mixm (by simp) fun e _ hst=>qj ?_
 unfold qd1
 refine sW ?_
 refine C1.im (Zd l) (by rfl) (by rfl) ?_
 simp only [tZ,↓un_u,simprocAttr,bne_iff_ne,bne_eq_false_iff_eq]
 refine ⟨fun h=>?_,fun h=>?_⟩
 ·rw [atL,if_pos h]
  exact .oA [] []
 obtain ⟨hp,h1,h2⟩:=zc h
 have e:atL l lev = atN l.codes lev l.codes.length:=by rw [atL,if_neg (by rw [h];simp)];rfl
 rw [e]
 have hdl:=YJ l.codes
 refine C1.im (wh l (Yq h)) (by rfl) (by rfl) ?_
 refine sW ?_
 refine qw mixm (α:=Nat) [5,14] (fun i=>i≤l.codes.length) (fun i=>[(5,.asl 1 (atN l.codes lev i).length),(14,vI i)]) (fun i=>[(1,.arr 1 ((atN l.codes lev i).map vI) false)]) (fun i=>l.codes.length - i) 0 (by omega) ?_ fun i hi=>?_
 ·simp only [atN,List.range_zero,List.filter_nil,List.map_nil,List.length_nil]
  exact .oA [(1,none)] []
 have hli:=zU9 l.codes lev i
 refine sD ?_
 refine ⟨fun h3=>?_,fun h3=>?_⟩
 ·have hi2:i < (depL l.codes).length:=by omega
  have hwi:=qk (i:=i) (by omega)
  have hs:=zz0 l.codes lev i
  simp only [tZ,↓un_u,simprocAttr,Int.toNat_natCast,qe hi2,qX2 hi2,beq_iff_eq,beq_eq_false_iff_ne,hwi]
  refine ⟨by omega,fun h4=>?_,fun h4=>?_⟩
  ·rw [if_pos h4] at hs
   refine ⟨by omega,i + 1,by omega,by omega,?_⟩
   rw [hs]
   exact .oA [(1,some 1)] []
  ·rw [if_neg h4,List.append_nil] at hs
   refine ⟨i + 1,by omega,by omega,?_⟩
   rw [hs]
   exact .oA [(1,some 1)] []
 ·have hil:i = l.codes.length:=by omega
  subst hil
  exact .oA [] [1]
theorem YK (l:CodL) (c lev:Int):Spc Tryz.prog Zi [cdlT l,vI c,vI lev] [] (vI (upC l c lev)) []:=by
 refine qd zo3 mixm (by simp) fun e _ hst=>qj ?_
 unfold qd2
 refine sW ?_
 refine C1.im (qe9 l c) (by rfl) (by rfl) ?_
 simp only [tZ,↓un_u,simprocAttr,tD,Bool.not_eq_true',Bool.not_eq_false']
 refine ⟨fun h=>?_,fun h=>?_⟩
 ·have:upC l c lev = -1:=by
   rw [upC]
   by_cases k:lstE l≠0∨c < 0∨c≥l.codes.length∨lev < 0∨lev > dep l.codes c.toNat
   ·rw [if_pos k]
   ·rcases h with h | h
    ·have:=ql7 (l:=l) (c:=c)
     rw [h] at this
     exact absurd (this.2 ⟨by omega,by omega,Classical.byContradiction fun q=>k (.inl q)⟩) (by simp)
    ·omega
  rw [this]
  exact .oA [] []
 obtain ⟨h0,h1,h2⟩:=ql7.1 h.1
 obtain ⟨hp,h3,h4⟩:=zc h2
 obtain ⟨k,rfl⟩:=Int.eq_ofNat_of_zero_le h0
 obtain ⟨v,rfl⟩:=Int.eq_ofNat_of_zero_le (show 0≤lev by omega)
 have hdl:=YJ l.codes
 have hk:k < (depL l.codes).length:=by omega
 have hdk:=qt2 hp k (by omega)
 refine C1.im (wh l (Yq h2)) (by rfl) (by rfl) ?_
 simp only [tZ,↓un_u,simprocAttr,Int.toNat_natCast,qe hk,qX2 hk]
 refine ⟨by omega,?_⟩
 by_cases hlv:dep l.codes k < v
 ·have hU:upC l k v = -1:=by rw [upC,if_pos (by simp;omega)]
  rw [hU]
  refine qw mixm (α:=Unit) [1,7] (fun _=>True) (fun _=>[(1,vI k),(7,vI (dep l.codes k))]) (fun _=>[(4096,.arr 2 [cdlT l] false)]) (fun _=>0) () trivial ?_ fun _ _=>?_
  ·exact .oA [(4096,some 4096)] []
  have e0:decide ((dep l.codes k:Int)≥(v:Int)) = false:=decide_eq_false (by omega)
  have e1:decide ((v:Int)≤(dep l.codes k:Int)) = false:=decide_eq_false (by omega)
  simp only [tZ,↓un_u,simprocAttr,e0,e1]
  exact .oA [] []
 have hU:upC l k v = upF l.codes v (k + 1) k:=by rw [upC,if_neg (by simp;omega),Int.toNat_natCast,Int.toNat_natCast]
 rw [hU]
 refine qw mixm (α:=Nat) [1,7] (fun x=>x < l.codes.length∧v≤dep l.codes x∧upF l.codes v (k + 1) k = upF l.codes v (x + 1) x) (fun x=>[(1,vI x),(7,vI (dep l.codes x))]) (fun x=>[(4096,.arr 2 [cdlT l] false)]) (fun x=>x) k ⟨by omega,by omega,rfl⟩ ?_ fun x hx=>?_
 ·exact .oA [(4096,some 4096)] []
 obtain ⟨x1,x2,x3⟩:=hx
 have hcd:l.codes[x].par = parC l.codes x:=by rw [parC,cdAt,qh x1]
 have e0:decide ((dep l.codes x:Int)≥(v:Int)) = true:=decide_eq_true (by omega)
 have e1:decide ((v:Int)≤(dep l.codes x:Int)) = true:=decide_eq_true (by omega)
 have hdx:=qt2 hp x x1
 simp only [tZ,↓un_u,simprocAttr,e0,e1,Int.toNat_natCast,qe x1,hcd,beq_iff_eq,beq_eq_false_iff_ne]
 refine ⟨fun h6=>?_,fun h6=>?_⟩
 ·rw [x3,zz1 (by omega)]
  exact .oA [] []
 ·obtain ⟨u1,u2,u3,u4⟩:=up_step hp (lev:=v) x1 (by omega)
  obtain ⟨p,hpe⟩:=Int.eq_ofNat_of_zero_le u1
  have hw:IntKind.i64.wrap ((dep l.codes x:Int) - 1) = (dep l.codes p:Int):=by
   rw [IntWalk.i64_in _ (by omega),u3,hpe,Int.toNat_natCast];omega
  rw [hpe,Int.toNat_natCast] at u4 u3
  simp only [tZ,↓un_u,simprocAttr,hpe,hw]
  refine ⟨by omega,p,⟨by omega,by omega,x3.trans u4⟩,by omega,?_⟩
  exact .oA [(4096,some 4096)] []
theorem qX3 (l:CodL) (c a:Int):Spc Tryz.prog KG [cdlT l,vI c,vI a] [] (vB (Yn l c a)) []:=by
 refine qd qM0 mixm (by simp) fun e _ hst=>qj ?_
 unfold JJ
 refine sW ?_
 refine C1.im (qe9 l c) (by rfl) (by rfl) ?_
 refine sW ?_
 refine C2.im (fun _=>qe9 l a) (fun _=>rfl) (by rfl) ?_
 simp only [tZ,↓un_u,simprocAttr,Bool.or_eq_true,Bool.or_eq_false_iff,Bool.not_eq_true',Bool.not_eq_false']
 refine ⟨fun h=>?_,fun h=>?_⟩
 ·have:Yn l c a = false:=by
   cases e:Yn l c a with
   | false=>rfl
   | true=>
     unfold Yn at e
     simp only [Bool.and_eq_true,decide_eq_true_eq,beq_iff_eq] at e
     obtain ⟨⟨e1,e2⟩,e3⟩:=e
     have key:∀ x,0≤lvlC l x→hasB l x = true:=fun x hx=>by
      rw [ql7]
      unfold lvlC at hx
      split at hx
      ·omega
      ·rename_i q
       exact ⟨by omega,by omega,Classical.byContradiction fun z=>q (.inl z)⟩
     have ha:=key a e1
     have hc:=key c (by omega)
     rcases h with h | h
     ·rw [hc] at h;cases h
     ·rw [ha] at h;cases h
  rw [this]
  exact .oA [] []
 obtain ⟨c0,c1,c2⟩:=ql7.1 h.1
 obtain ⟨a0,a1,_⟩:=ql7.1 h.2
 obtain ⟨hp,h3,h4⟩:=zc c2
 obtain ⟨k,rfl⟩:=Int.eq_ofNat_of_zero_le c0
 obtain ⟨j,rfl⟩:=Int.eq_ofNat_of_zero_le a0
 have hdl:=YJ l.codes
 have hj:j < (depL l.codes).length:=by omega
 have hdk:=qt2 hp k (by omega)
 have hdj:=qt2 hp j (by omega)
 have l1:lvlC l j = dep l.codes j:=by rw [lvlC,if_neg (by rw [c2];simp;omega),Int.toNat_natCast]
 have l2:lvlC l k = dep l.codes k:=by rw [lvlC,if_neg (by rw [c2];simp;omega),Int.toNat_natCast]
 have hU:Yn l k j = (upC l k (dep l.codes j) == (j:Int)):=by
  unfold Yn
  rw [l1,l2,decide_eq_true (by omega),Bool.true_and]
  by_cases q:(dep l.codes j:Int)≤dep l.codes k
  ·rw [decide_eq_true q,Bool.true_and]
  ·rw [decide_eq_false q,Bool.false_and,upC,if_pos (by simp;omega)]
   symm
   exact beq_eq_false_iff_ne.2 (by omega)
 rw [hU]
 refine C1.im (wh l (Yq c2)) (by rfl) (by rfl) ?_
 simp only [tZ,↓un_u,simprocAttr,Int.toNat_natCast,qe hj,qX2 hj]
 refine ⟨by omega,?_⟩
 refine C1.im (YK l k (dep l.codes j)) (by rfl) (by rfl) ?_
 refine sW ?_
 repeat (first | refine ⟨by omega,?_⟩ | refine ⟨by kernel_rfl,?_⟩)
 exact .oA [] []
end Go.Proofs
