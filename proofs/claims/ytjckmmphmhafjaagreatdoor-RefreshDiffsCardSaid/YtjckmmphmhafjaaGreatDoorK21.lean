/- A part of the proof: trees of Go values, short forms, contracts. -/
import Derived.WalkKit
import Derived.Still
import Derived.MapKept
import GoSem.Builtin.Cap
import Derived.Laws.Externs
import GoSem.Extern.SlicesOverlaps
import Derived.Carry
import Derived.ProofKit
import Derived.OpenShut
import Derived.HandedShaped
import Derived.Lay
import Derived.LaidLaws
import Derived.MakeChecks
import Derived.SevenTiedAt
import Derived.Test.YtjckmmphmhafjaaGreatDoorChecked
import Derived.Test.YtjckmmphmhafjaaGreatDoorK20
set_option linter.unusedSimpArgs false
set_option linter.unusedVariables false
namespace Go.Proofs
open Go Go.TL
set_option maxRecDepth 4000
set_option maxHeartbeats 8000000
open So
theorem jh1 (g:List Int) (rs:List (List Int)) (r:List Int):(selR g rs r).length≤1:=by
 unfold selR
 split
 ·simp
 ·split <;> simp
theorem zX3 (g:List Int) (rs:List (List Int)):∀ a:List (List Int),(a.flatMap (selR g rs)).length≤a.length
 | []=>by simp
 | r :: a=>by
   rw [List.flatMap_cons,List.length_append,List.length_cons]
   have:=zX3 g rs a
   have:=jh1 g rs r
   omega
theorem zX4:∀ (rs l:List (List Int)),(rs.foldl pinR l).length≤l.length + rs.length
 | [],l=>by simp
 | r :: rs,l=>by
   rw [List.foldl_cons,List.length_cons]
   have h1:=zX4 rs (pinR l r)
   have h2:(pinR l r).length≤l.length + 1:=by
    unfold pinR
    split
    ·omega
    ·rw [List.length_append,List.length_cons,List.length_take,List.length_drop];omega
   omega
theorem WV (a:Ext) (c:Chg) (ha:ExtSm a) (hc:ChgSm c):Spc Tryz.prog wu [extT a,chgT c] [] (.tup [extT (appX a c),vI (appE a c)]) []:=by
 have hE:=(rfl:appE a c = appE a c)
 have hS:appX a c = if appE a c≠0 then ⟨⟨#[]⟩,0,[],[]⟩ else ⟨a.proj,c.ver,a.picks,appR a.rows c.gone c.rows⟩:=rfl
 conv at hE=>rhs;unfold appE
 have hbad:∀ v,v≠0→appE a c = v→appX a c = ⟨⟨#[]⟩,0,[],[]⟩∧appE a c = v:=fun v h1 h2=>⟨by rw [hS,h2,if_pos h1],h2⟩
 have hgood:appE a c = 0→appX a c = ⟨a.proj,c.ver,a.picks,appR a.rows c.gone c.rows⟩:=fun h=>by rw [hS,h,if_neg (by simp)]
 clear hS
 generalize appE a c = E at hE hbad hgood ⊢
 generalize appX a c = A at hbad hgood ⊢
 have har:=ha.rows
 have hcr:=hc.rows
 have hap:=ha.picks
 have hla:=har.1
 have hlc:=hcr.1
 have hlg:=hc.gone
 refine qe qp5 mixm (by simp) fun e _ hst=>qh ?_
 unfold yN
 refine sW ?_
 refine C1.im (ko a.rows har.1) (by rfl) (by rfl) ?_
 refine sW ?_
 refine C2.im (fun _=>qm8 c.gone (by omega)) (fun _=>rfl) (by rfl) ?_
 refine sW ?_
 refine C2.im (fun _=>ko c.rows hcr.1) (fun _=>rfl) (by rfl) ?_
 refine sW ?_
 have hCF:=Zr (fun r=>decide (r.length≠a.picks.length + 1)) ka [.ip (extT a).cells] rfl c.rows (fun r _=>qm9 a (by omega) r) (by omega)
 refine C2.lend [4096] (fun _=>hCF) (fun _=>?_) (by rfl) (by rfl) ?_
 ·all_goals (try simp only [tL,simprocAttr,List.map_append,List.map_cons,List.map_nil,List.cons_append,List.nil_append])
  all_goals (try (repeat' (first | exact qZ | (apply zN;intro _;exact ⟨rfl,rfl⟩) | (apply qA;intro _;exact ⟨rfl,rfl⟩) | with_reducible apply za | with_reducible refine zo ⟨rfl,rfl⟩ ?_ | exact zO | with_reducible apply qV | with_reducible refine qJ ⟨rfl,rfl,?_⟩ ?_ | with_reducible apply And.intro | exact qW rfl | exact qW (by assumption) | (refine ⟨⟨?_,rfl,?_,rfl,?_⟩,trivial⟩ <;> first | (simp;done) | (apply qA;intro _;exact ⟨rfl,rfl⟩)) | trivial | rfl | (rw [qg (by omega)]) | omega)))
  simp only [ltP]
  exact ⟨rfl,by omega,rfl,zo ⟨rfl,rfl⟩ zO⟩
 simp only [tZ,↓un_u,simprocAttr,tD,Bool.not_eq_true',Bool.not_eq_false']
 refine ⟨fun h=>?_,fun h=>?_⟩
 ·obtain ⟨a1,a2⟩:=hbad 11 (by decide) (by rw [hE,if_pos (by grind)])
  rw [a1,a2]
  exact .oA [] []
 rw [if_neg (by grind)] at hE
 obtain ⟨hap1,hasa⟩:=KP.1 h.1.1.1
 obtain ⟨hcp1,hasc⟩:=KP.1 h.1.2
 refine qr mixm (α:=Nat) [49] (fun i=>i≤c.gone.length∧(c.gone.take i).any (fun k=>!hasK a.rows k) = false) (fun i=>[(49,vI i)]) (fun i=>[(4096,.arr 4 [extT a] false),(4100,.arr 3 [chgT c] false),(4104,.arr 4 [extT ⟨⟨#[]⟩,0,[],[]⟩] false)]) (fun i=>c.gone.length - i) 0 ⟨by omega,rfl⟩ ?_ fun i hi=>?_
 ·exact .oA [(4096,some 4096),(4100,some 4100),(4104,some 4104)] []
 obtain ⟨i1,i2⟩:=hi
 refine sD ?_
 refine ⟨fun h2=>?_,fun h2=>?_⟩
 ·have hi2:i < c.gone.length:=by omega
  have hwi:=qg (i:=i) (by omega)
  have hfd:=kI a.rows c.gone[i] (by omega) hap1 hasa
  simp only [tZ,↓un_u,simprocAttr,Int.toNat_natCast,qd hi2]
  refine ⟨by omega,?_⟩
  refine C1.im hfd (by rfl) (by rfl) ?_
  simp only [tZ,↓un_u,simprocAttr,Bool.not_eq_true',Bool.not_eq_false']
  refine ⟨fun h3=>?_,fun h3=>?_⟩
  ·obtain ⟨a1,a2⟩:=hbad 21 (by decide) (by rw [hE,if_pos (qo3 (p:=fun k=>!hasK a.rows k) hi2 (by rw [h3];rfl))])
   rw [a1,a2]
   exact .oA [] []
  ·simp only [tZ,↓un_u,simprocAttr,hwi]
   refine ⟨i + 1,⟨by omega,zP hi2 i2 (by rw [h3];rfl)⟩,by omega,?_⟩
   exact .oA [(4096,some 4096),(4100,some 4100),(4104,some 4104)] []
 have hil:i = c.gone.length:=by omega
 subst hil
 rw [List.take_length] at i2
 rw [if_neg (by rw [i2];simp)] at hE
 refine qr mixm (α:=Nat) [67] (fun i=>i≤c.rows.length∧(c.rows.take i).any (fun r=>c.gone.contains (hd r)) = false) (fun i=>[(67,vI i)]) (fun i=>[(4096,.arr 4 [extT a] false),(4100,.arr 3 [chgT c] false),(4104,.arr 4 [extT ⟨⟨#[]⟩,0,[],[]⟩] false)]) (fun i=>c.rows.length - i) 0 ⟨by omega,rfl⟩ ?_ fun i hi=>?_
 ·exact .oA [(4096,some 4096),(4100,some 4100),(4104,some 4104)] []
 obtain ⟨j1,j2⟩:=hi
 refine sD ?_
 refine ⟨fun h2=>?_,fun h2=>?_⟩
 ·have hi2:i < c.rows.length:=by omega
  have hwi:=qg (i:=i) (by omega)
  have hgi:=qU (hcp1 _ (List.getElem_mem hi2))
  have hpi:=hcp1 _ (List.getElem_mem hi2)
  have hct:=jX c.gone (hd c.rows[i]) (by omega)
  simp only [tZ,↓un_u,simprocAttr,Int.toNat_natCast,qd hi2,hgi]
  refine ⟨by omega,by omega,?_⟩
  refine C1.im hct (by rfl) (by rfl) ?_
  refine sW ?_
  refine ⟨by kernel_rfl,fun h3=>?_,fun h3=>?_⟩
  ·obtain ⟨a1,a2⟩:=hbad 10 (by decide) (by rw [hE,if_pos (List.any_eq_true.2 ⟨hd c.rows[i],List.contains_iff_mem.1 h3,ZG.2 ⟨_,List.getElem_mem hi2,rfl⟩⟩)])
   rw [a1,a2]
   exact .oA [] []
  ·simp only [tZ,↓un_u,simprocAttr,hwi]
   refine ⟨i + 1,⟨by omega,zP hi2 j2 h3⟩,by omega,?_⟩
   exact .oA [(4096,some 4096),(4100,some 4100),(4104,some 4104)] []
 have hil:i = c.rows.length:=by omega
 subst hil
 rw [List.take_length] at j2
 have hdis:∀ r∈c.rows,c.gone.contains (hd r) = false:=fun r hr=>by
  have:=List.any_eq_false.1 j2 r hr
  simpa using this
 rw [if_neg (by
  intro k
  obtain ⟨x,hx,e⟩:=List.any_eq_true.1 k
  obtain ⟨r,hr,e⟩:=ZG.1 e
  have:=hdis r hr
  rw [e,List.contains_iff_mem.2 hx] at this
  cases this)] at hE
 have a1:=hgood hE
 rw [a1,hE,← js7 hasa hasc hdis]
 clear hbad hgood i2 j2
 refine C1.im (qc1 a.picks hap) (by rfl) (by rfl) ?_
 refine sW ?_
 refine ⟨by kernel_rfl,?_⟩
 have hL0:(a.rows.take 0).flatMap (selR c.gone c.rows) = []:=rfl
 refine qr mixm (α:=Nat) [90] (fun i=>i≤a.rows.length) (fun i=>[(90,vI i)]) (fun i=>[(4100,.arr 3 [chgT c] false),(4104,.arr 4 [extT ⟨⟨#[]⟩,0,[],[]⟩] false),(73760,.arr 4 [.agg [vS a.proj,vI c.ver,vPs a.picks,.asl 1 ((a.rows.take i).flatMap (selR c.gone c.rows)).length]] false),(1,.arr 1 (((a.rows.take i).flatMap (selR c.gone c.rows)).map vIs) false)]) (fun i=>a.rows.length - i) 0 (by omega) ?_ fun i hi=>?_
 ·exact .oA [(4100,some 4100),(4104,some 4104),(73760,some 73760),(1,none)] []
 have hsl:=zX3 c.gone c.rows (a.rows.take i)
 rw [List.length_take] at hsl
 refine sD ?_
 refine ⟨fun h2=>?_,fun h2=>?_⟩
 ·have hi2:i < a.rows.length:=by omega
  have hwi:=qg (i:=i) (by omega)
  have hpi:=hap1 _ (List.getElem_mem hi2)
  have hgi:=qU hpi
  have hsp:(a.rows.take (i + 1)).flatMap (selR c.gone c.rows) = (a.rows.take i).flatMap (selR c.gone c.rows) ++ selR c.gone c.rows a.rows[i]:=by
   rw [qD hi2,List.flatMap_append,List.flatMap_cons,List.flatMap_nil,List.append_nil]
  have hcl:=jI a.rows[i] (har.2 _ (List.getElem_mem hi2))
  have hct:=jX c.gone (hd a.rows[i]) (by omega)
  have hfd:=kI c.rows (hd a.rows[i]) (by omega) hcp1 hasc
  generalize (a.rows.take i).flatMap (selR c.gone c.rows) = L at hsl hsp ⊢
  simp only [tZ,↓un_u,simprocAttr,Int.toNat_natCast,qd hi2,hgi]
  refine ⟨by omega,by omega,?_⟩
  refine C1.im hfd (by rfl) (by rfl) ?_
  cases h4:hasK c.rows (hd a.rows[i]) with
  | true=>
    obtain ⟨f2,f3⟩:=zX0 hasc h4
    generalize fndN c.rows (hd a.rows[i]) = j at f2 f3 ⊢
    have hse:selR c.gone c.rows a.rows[i] = [c.rows[j]]:=by unfold selR;rw [f3]
    rw [hse] at hsp
    have hspl:=congrArg List.length hsp
    simp only [List.length_append,List.length_cons,List.length_nil] at hspl
    have hcj:=jI c.rows[j] (hcr.2 _ (List.getElem_mem f2))
    simp only [tZ,↓un_u,simprocAttr,Int.toNat_natCast,qd f2]
    refine ⟨by kernel_rfl,by omega,?_⟩
    refine C1.im hcj (by rfl) (by rfl) ?_
    simp only [tZ,↓un_u,simprocAttr,hwi]
    refine ⟨by omega,by kernel_rfl,i + 1,by omega,by omega,?_⟩
    rw [hsp]
    exact .oA [(4100,some 4100),(4104,some 4104),(73760,some 73760),(1,some 1)] []
  | false=>
    have hse:selR c.gone c.rows a.rows[i] = if c.gone.contains (hd a.rows[i]) = true then [] else [a.rows[i]]:=by unfold selR;rw [qA5.2 h4]
    rw [hse] at hsp
    simp only [tZ,↓un_u,simprocAttr,Int.toNat_natCast,hgi]
    refine ⟨by kernel_rfl,by omega,?_⟩
    refine C1.im hct (by rfl) (by rfl) ?_
    simp only [tZ,↓un_u,simprocAttr,Bool.not_eq_true',Bool.not_eq_false']
    refine ⟨by kernel_rfl,fun h5=>?_,fun h5=>?_⟩
    ·rw [if_neg (by rw [h5];simp)] at hsp
     have hspl:=congrArg List.length hsp
     simp only [List.length_append,List.length_cons,List.length_nil] at hspl
     refine C1.im hcl (by rfl) (by rfl) ?_
     simp only [tZ,↓un_u,simprocAttr,hwi]
     refine ⟨by omega,by kernel_rfl,i + 1,by omega,by omega,?_⟩
     rw [hsp]
     exact .oA [(4100,some 4100),(4104,some 4104),(73760,some 73760),(1,some 1)] []
    ·rw [if_pos h5,List.append_nil] at hsp
     simp only [tZ,↓un_u,simprocAttr,hwi]
     refine ⟨i + 1,by omega,by omega,?_⟩
     rw [hsp]
     exact .oA [(4100,some 4100),(4104,some 4104),(73760,some 73760),(1,some 1)] []
 have hil:i = a.rows.length:=by omega
 subst hil
 clear hL0
 rw [List.take_length] at hsl ⊢
 have hq1:=zq2 (g:=c.gone) (rs:=c.rows) hasa
 have hq2:∀ x∈a.rows.flatMap (selR c.gone c.rows),0 < x.length:=fun x hx=>by
  obtain ⟨r,hr,hx⟩:=List.mem_flatMap.1 hx
  unfold selR at hx
  split at hx
  ·rename_i q e
   rw [List.mem_singleton] at hx
   subst hx
   exact hcp1 _ (zq0 e).2
  ·split at hx
   ·simp at hx
   ·rw [List.mem_singleton] at hx
    subst hx
    exact hap1 _ hr
 unfold app2
 generalize a.rows.flatMap (selR c.gone c.rows) = L at hsl hq1 hq2 ⊢
 refine qr mixm (α:=Nat) [133] (fun i=>i≤c.rows.length) (fun i=>[(133,vI i)]) (fun i=>[(4104,.arr 4 [extT ⟨⟨#[]⟩,0,[],[]⟩] false),(73760,.arr 4 [.agg [vS a.proj,vI c.ver,vPs a.picks,.asl 1 ((c.rows.take i).foldl pinR L).length]] false),(1,.arr 1 (((c.rows.take i).foldl pinR L).map vIs) false)]) (fun i=>c.rows.length - i) 0 (by omega) ?_ fun i hi=>?_
 ·exact .oA [(4104,some 4104),(73760,some 73760),(1,some 1)] []
 have hpl:=zX4 (c.rows.take i) L
 rw [List.length_take] at hpl
 refine sD ?_
 refine ⟨fun h2=>?_,fun h2=>?_⟩
 ·have hi2:i < c.rows.length:=by omega
  have hwi:=qg (i:=i) (by omega)
  have hpi:=hcp1 _ (List.getElem_mem hi2)
  have hgi:=qU hpi
  have hsp:(c.rows.take (i + 1)).foldl pinR L = pinR ((c.rows.take i).foldl pinR L) c.rows[i]:=by rw [qD hi2,List.foldl_append];rfl
  obtain ⟨p1,p2⟩:=qW3 (c.rows.take i) L hq1 (hasc.sublist (List.take_sublist _ _))
  have p3:∀ x∈(c.rows.take i).foldl pinR L,0 < x.length:=fun x hx=>by
   rcases (p2 x).1 hx with m | ⟨m,_⟩
   ·exact hq2 _ m
   ·exact hcp1 _ (List.mem_of_mem_take m)
  generalize (c.rows.take i).foldl pinR L = C at hpl hsp p1 p3 ⊢
  clear p2
  have hfd:=kI C (hd c.rows[i]) (by omega) p3 p1
  have hcl:=jI c.rows[i] (hcr.2 _ (List.getElem_mem hi2))
  have hin:=Yz C c.rows[i] (fndN C (hd c.rows[i])) (zW9 _ _) (by omega)
  simp only [tZ,↓un_u,simprocAttr,Int.toNat_natCast,qd hi2,hgi]
  refine ⟨by omega,by omega,?_⟩
  refine C1.lend [1] hfd ?_ (by rfl) (by rfl) ?_
  ·all_goals (try simp only [tL,simprocAttr,List.map_append,List.map_cons,List.map_nil,List.cons_append,List.nil_append])
   all_goals (try (repeat' (first | exact qZ | (apply zN;intro _;exact ⟨rfl,rfl⟩) | (apply qA;intro _;exact ⟨rfl,rfl⟩) | with_reducible apply za | with_reducible refine zo ⟨rfl,rfl⟩ ?_ | exact zO | with_reducible apply qV | with_reducible refine qJ ⟨rfl,rfl,?_⟩ ?_ | with_reducible apply And.intro | exact qW rfl | exact qW (by assumption) | (refine ⟨⟨?_,rfl,?_,rfl,?_⟩,trivial⟩ <;> first | (simp;done) | (apply qA;intro _;exact ⟨rfl,rfl⟩)) | trivial | rfl | (rw [qg (by omega)]) | omega)))
   done
  simp only [tZ,↓un_u,simprocAttr,Bool.not_eq_true',Bool.not_eq_false']
  refine ⟨by kernel_rfl,fun h4=>?_,fun h4=>?_⟩
  ·have hpe:pinR C c.rows[i] = C.take (fndN C (hd c.rows[i])) ++ c.rows[i] :: C.drop (fndN C (hd c.rows[i])):=by unfold pinR;rw [if_neg (by rw [h4];simp)]
   have hfl:=zW9 C (hd c.rows[i])
   have hel:(pinR C c.rows[i]).length = C.length + 1:=by
    rw [hpe,List.length_append,List.length_cons,List.length_take,List.length_drop];omega
   refine C1.im hcl (by rfl) (by rfl) ?_
   refine sW ?_
   refine C1.cutbackF 1 135192 1 135188 hin rfl rfl (by apply qA;intro _;exact ⟨rfl,rfl⟩) (by apply qA;intro _;exact ⟨rfl,rfl⟩) (by rfl) (by decide) ?_ ?_
   ·all_goals (try simp only [tL,simprocAttr,List.map_append,List.map_cons,List.map_nil,List.cons_append,List.nil_append])
    all_goals (try (repeat' (first | exact qZ | (apply zN;intro _;exact ⟨rfl,rfl⟩) | (apply qA;intro _;exact ⟨rfl,rfl⟩) | with_reducible apply za | with_reducible refine zo ⟨rfl,rfl⟩ ?_ | exact zO | with_reducible apply qV | with_reducible refine qJ ⟨rfl,rfl,?_⟩ ?_ | with_reducible apply And.intro | exact qW rfl | exact qW (by assumption) | (refine ⟨⟨?_,rfl,?_,rfl,?_⟩,trivial⟩ <;> first | (simp;done) | (apply qA;intro _;exact ⟨rfl,rfl⟩)) | trivial | rfl | (rw [qg (by omega)]) | omega)))
    done
   simp only [tZ,↓un_u,simprocAttr,hwi]
   refine ⟨by rw [List.length_take,List.length_drop];omega,by kernel_rfl,i + 1,by omega,by omega,?_⟩
   rw [hsp,hel,hpe]
   exact .oA [(4104,some 4104),(73760,some 73760),(1,some 135192)] []
  ·have hpe:pinR C c.rows[i] = C:=by unfold pinR;rw [if_pos h4]
   simp only [tZ,↓un_u,simprocAttr,hwi]
   refine ⟨i + 1,by omega,by omega,?_⟩
   rw [hsp,hpe]
   exact .oA [(4104,some 4104),(73760,some 73760),(1,some 1)] []
 have hil:i = c.rows.length:=by omega
 subst hil
 rw [List.take_length]
 exact .oA [] [1]
end Go.Proofs
namespace Go.Proofs
open Go Go.TL
open Go.TL.So
theorem zX5 (n:Int):Spc Tryz.prog wF [vI n] [] (vB false) []:=by
 refine qe qr1 mixm (by simp) fun e _ hst=>qh ?_
 unfold yX
 simp only [tZ,↓un_u,simprocAttr,bne_self_eq_false]
 exact .oA [] []
theorem qI4 (a b:Int):Spc Tryz.prog yx [vI a,vI b] [] (vB (ltI a b)) []:=by
 refine qe qy2 mixm (by simp) fun e _ hst=>qh ?_
 unfold Zk
 refine sW ?_
 refine C1.im (zX5 a) (by rfl) (by rfl) ?_
 refine sW ?_
 refine C2.no (by simp) ?_
 refine sW ?_
 exact .oA [] []
end Go.Proofs
namespace Go.Proofs
open Go Go.TL
open Go.TL.So
theorem jh2 (k:UInt8):IntKind.i64.wrap (0 + IntKind.i64.wrap ((k.toNat:Nat):Int)) = (k.toNat:Int):=by
 have h:=k.toNat_lt
 rw [IntWalk.i64_in (k.toNat:Int) (by omega),IntWalk.i64_in _ (by omega)];omega
def L8 (n:Nat):Nat:=if n = 0 then 0 else Nat.log2 n + 1
theorem jx8 (n:Nat) (h:n < 256):L8 n≤8∧n < 2 ^ L8 n∧(0 < n→2 ^ L8 n≤2 * n):=by
 unfold L8
 revert n
 decide +kernel
def L16 (n:Nat):Nat:=if n < 256 then L8 n else 8 + L8 (n / 256)
theorem jx9 (n:Nat) (h:n < 65536):L16 n≤16∧n < 2 ^ L16 n∧(0 < n→2 ^ L16 n≤2 * n):=by
 unfold L16
 split
 ·rename_i h2
  obtain ⟨h3,h4,h5⟩:=jx8 n h2
  exact ⟨by omega,h4,h5⟩
 ·rename_i h2
  obtain ⟨h3,h4,h5⟩:=jx8 (n / 256) (by omega)
  rw [Nat.pow_add]
  have h6:=h5 (by omega)
  generalize 2 ^ L8 (n / 256) = p at *
  refine ⟨by omega,?_,fun _=>?_⟩ <;> omega
set_option maxRecDepth 100000 in
theorem qn0 (n:Nat) (h:n < 65536):Spc Tryz.prog yi [vU64 n] [] (vI (L16 n)) []:=by
 have d1:decide ((n:Int)≥4294967296) = false:=decide_eq_false (by omega)
 have d2:decide ((n:Int)≥65536) = false:=decide_eq_false (by omega)
 by_cases h8:n < 256
 ·have d3:decide ((n:Int)≥256) = false:=decide_eq_false (by omega)
  have hw:IntKind.u8.wrap (n:Int) = n:=by rw [IntKind.wrap_u8];omega
  rw [L16,if_pos h8]
  refine qe ZC mixm (by simp) fun e _ hst=>qh ?_
  unfold jH
  simp only [tZ,↓un_u,simprocAttr,d1,d2,d3,hw,Int.toNat_natCast,jh2]
  refine ⟨⟨by omega,Int.ofNat_lt.2 h8⟩,.imR (congrArg (fun k:Nat=>vI (k:Int)) ?_) rfl⟩
  clear d1 d2 d3 hw h
  unfold L8
  revert n
  decide +kernel
 ·have d3:decide ((n:Int)≥256) = true:=decide_eq_true (by omega)
  have hs:shrI .u64 (n:Int) 8 = ((n / 256:Nat):Int):=by
   simp only [shrI]
   rw [show min (8:Int).toNat IntKind.u64.bits = 8 from rfl,show (2:Int) ^ 8 = 256 from rfl,Int.fdiv_eq_ediv_of_nonneg _ (by omega)]
   omega
  have hw:IntKind.u8.wrap ((n / 256:Nat):Int) = ((n / 256:Nat):Int):=by rw [IntKind.wrap_u8];omega
  have hw2:IntKind.i64.wrap (0 + 8) = 8:=by decide
  rw [L16,if_neg h8]
  refine qe ZC mixm (by simp) fun e _ hst=>qh ?_
  unfold jH
  simp only [tZ,↓un_u,simprocAttr,d1,d2,d3,hs,hw,hw2,Int.toNat_natCast]
  have hm:n / 256 < 256:=by omega
  refine ⟨⟨by omega,Int.ofNat_lt.2 hm⟩,.imR (congrArg vI ?_) rfl⟩
  clear d1 d2 d3 hw hw2 hs h h8 hst
  generalize n / 256 = m at *
  unfold L8
  revert m
  decide +kernel
theorem qA6 (n:Nat) (h:n < 65536):∃ l:Nat,(l≤16∧n < 2 ^ l∧(0 < n→2 ^ l≤2 * n))∧Spc Tryz.prog QR [vU64 n] [] (vI l) []:=by
 have hs:=qn0 n h
 refine ⟨L16 n,jx9 n h,?_⟩
 refine qe qq7 mixm (by simp) fun e _ hst=>qh ?_
 unfold yV
 refine sW ?_
 refine C1.im hs (by rfl) (by rfl) ?_
 refine sW ?_
 exact .imR rfl rfl
def xs1 (v:Int):Int:=xorI .u64 v (shlI .u64 v 13)
def xs2 (v:Int):Int:=xorI .u64 v (shrI .u64 v 7)
end Go.Proofs
namespace Go.Proofs
open Go Go.TL
open Go.TL.So
set_option maxHeartbeats 2000000
theorem Jz {xs:List Int} {i:Nat} (h:i < xs.length):(xs.map vI).getD i .junk = vI (gd xs i):=by rw [qM1 h];exact qd h
theorem zj5 (x y:Int):repl (vI x) 0 (vI y) = vI y:=rfl
theorem qA7 (x:Int):(vI x).cells.getD 0 .junk = vI x:=rfl
theorem zA5 (xs:List Int) (i:Nat) (v:Int):(xs.map vI).set i (vI v) = (xs.set i v).map vI:=List.map_set.symm
theorem jh3 (xs:List Int) (i j:Nat):((xs.set i (gd xs j)).set j (gd xs i)) = swp xs i j:=rfl
theorem wU (xs:List Int) (a b:Nat) (hab:a≤b) (hb:b≤xs.length) (hl:xs.length < 4611686018427387904) :
 Spc Tryz.prog zf [.asl 0 xs.length,vI a,vI b] [(0,.arr 1 (xs.map vI) false)] (.tup []) [(0,.arr 1 ((insS ltI xs a b).map vI) false)]:=by
 have hw:=qg (i:=a) (by omega)
 refine qe wl mixm (by simp) fun e _ hst=>qh ?_
 unfold zc
 simp only [tZ,↓un_u,simprocAttr,hw]
 refine qr mixm (α:=List Int×Nat) [6] (fun q=>q.1.length = xs.length∧a + 1≤q.2∧(q.2≤b∨q.2 = a + 1)∧insF ltI a (b - q.2) q.2 q.1 = insS ltI xs a b) (fun q=>[(6,vI q.2)]) (fun q=>[(0,.arr 1 (q.1.map vI) false)]) (fun q=>b - q.2) (xs,a + 1) ⟨rfl,Nat.le_refl _,.inr rfl,rfl⟩ ?_ fun q hq=>?_
 ·exact .oA [(0,some 0)] []
 obtain ⟨ys,i⟩:=q
 obtain ⟨h1,h2,h3,h4⟩:=hq
 dsimp only at h1 h2 h3 h4
 simp only [tZ,↓un_u,simprocAttr,decide_eq_true_eq,decide_eq_false_iff_not]
 refine ⟨fun h5=>?_,fun h5=>?_⟩
 ·have hi2:i < b:=by omega
  rw [show b - i = (b - (i + 1)) + 1 by omega,insF] at h4
  refine qr mixm (α:=List Int×Nat) [7] (fun q=>q.1.length = xs.length∧a≤q.2∧q.2≤i∧insJ ltI a q.2 q.1 = insJ ltI a i ys) (fun q=>[(7,vI q.2)]) (fun q=>[(0,.arr 1 (q.1.map vI) false)]) (fun q=>q.2) (ys,i) ⟨h1,by omega,Nat.le_refl _,rfl⟩ ?_ fun q hq=>?_
  ·exact .oA [(0,some 0)] []
  obtain ⟨zs,j⟩:=q
  obtain ⟨g1,g2,g3,g4⟩:=hq
  dsimp only at g1 g2 g3 g4
  by_cases hj:a < j
  ·obtain ⟨j,rfl⟩:∃ k,j = k + 1:=⟨j - 1,by omega⟩
   have hwj:IntKind.i64.wrap (((j + 1:Nat):Int) - 1) = (j:Int):=by rw [IntWalk.i64_in _ (by omega)];omega
   have hd:decide (((j + 1:Nat):Int) > a) = true:=by simp;omega
   simp only [tZ,↓un_u,simprocAttr,hwj,hd,Int.toNat_natCast,Jz (show j < zs.length by omega),Jz (show j + 1 < zs.length by omega)]
   refine ⟨⟨g1,by omega,by omega⟩,⟨g1,by omega⟩,⟨g1,by omega,by omega⟩,⟨g1,by omega⟩,?_⟩
   refine C2.one (by trivial) (C1.im (qI4 (gd zs (j + 1)) (gd zs j)) (by rfl) (by rfl) ?_)
   have hsl:(zs.set (j + 1) (gd zs j)).length = zs.length:=List.length_set
   simp only [tZ,↓un_u,simprocAttr,hwj,Int.toNat_natCast,Jz (show j < zs.length by omega),Jz (show j + 1 < zs.length by omega),zj5,qA7,zA5,Jz (show j < (zs.set (j + 1) (gd zs j)).length by omega),jh3]
   have hin:insJ ltI a (j + 1) zs = if a < j + 1∧ltI (gd zs (j + 1)) (gd zs j) = true then insJ ltI a j (swp zs (j + 1) j) else zs:=rfl
   refine ⟨by kernel_rfl,fun h6=>?_,fun h6=>?_⟩
   ·refine ⟨⟨g1,by omega,by omega⟩,⟨g1,by omega⟩,⟨g1,by omega,by omega⟩,⟨g1,by omega⟩,⟨g1,by omega,by omega⟩,⟨g1,by omega⟩,⟨by omega,by omega,by omega⟩,⟨by omega,by omega⟩,by kernel_rfl,(swp zs (j + 1) j,j),⟨by dsimp only;rw [qv6];exact g1,by dsimp only;omega,by dsimp only;omega,?_⟩,by dsimp only;omega,?_⟩
    ·rw [← g4,hin,if_pos ⟨hj,h6⟩]
    ·exact .oA [(0,some 0)] []
   ·rw [hin,if_neg (fun e=>by rw [h6] at e;exact absurd e.2 (by simp))] at g4
    have hwi:=qg (i:=i) (by omega)
    refine ⟨(zs,i + 1),⟨g1,by dsimp only;omega,by dsimp only;omega,?_⟩,by dsimp only;omega,?_⟩
    ·dsimp only;rw [g4];exact h4
    ·rw [hwi]
     exact .oA [(0,some 0)] []
  ·have hd:decide ((j:Int) > a) = false:=by simp;omega
   have hwi:=qg (i:=i) (by omega)
   have hin:insJ ltI a j zs = zs:=by
    cases j with
    | zero=>rfl
    | succ j=>unfold insJ;rw [if_neg (fun e=>hj e.1)]
   rw [hin] at g4
   simp only [tZ,↓un_u,simprocAttr,hd,hwi]
   refine C2.no (fun h=>h) ?_
   simp only [tZ,↓un_u,simprocAttr,hwi]
   refine ⟨by kernel_rfl,(zs,i + 1),⟨g1,by dsimp only;omega,by dsimp only;omega,?_⟩,by dsimp only;omega,?_⟩
   ·dsimp only;rw [g4];exact h4
   ·exact .oA [(0,some 0)] []
 ·rw [show b - i = 0 by omega,insF] at h4
  rw [← h4]
  exact .oA [(0,some 0)] []
theorem zA6 {st:Sto} {B:List Nat} (n:Nat) (ts:List T) (h:imAL ts = true):ltAs st [(0,some 0)] B (.asl 0 n :: ts) (.asl 0 n :: ts):=⟨by simp [ltA,ltC,ltC0,TL.get],YP h⟩
theorem qn1 (xs:List Int) (lim:Nat) (hl:xs.length≤12) :
 Spc Tryz.prog qS [.asl 0 xs.length,vI 0,vI xs.length,vI lim] [(0,.arr 1 (xs.map vI) false)] (.tup []) [(0,.arr 1 ((insS ltI xs 0 xs.length).map vI) false)]:=by
 have hw1:IntKind.i64.wrap ((xs.length:Int) - 0) = (xs.length:Int):=by rw [IntWalk.i64_in _ (by omega)];omega
 have hin:=wU xs 0 xs.length (by omega) (by omega) (by omega)
 refine QL [10,15,17] Qy mixm (by simp) fun e _ hst=>qh ?_
 unfold zy
 simp only [JX,List.contains_cons,List.contains_nil,Nat.reduceBEq,Bool.or_false,Bool.or_true,Bool.true_or,Bool.false_or,cond_true,cond_false]
 refine sW ?_
 refine qr mixm (α:=Unit) [1,2,3,8,9] (fun _=>True) (fun _=>[(1,vI 0),(2,vI xs.length),(3,vI lim),(8,vB true),(9,vB true)]) (fun _=>[(0,.arr 1 (xs.map vI) false)]) (fun _=>0) () trivial ?_ fun q hq=>?_
 ·exact .oA [(0,some 0)] []
 simp only [tZ,↓un_u,simprocAttr,decide_eq_true_eq,decide_eq_false_iff_not,hw1]
 refine ⟨fun h8=>?_,fun h8=>absurd (show (xs.length:Int)≤12 by omega) h8⟩
 refine C1.upd 0 1 _ _ hin (by rfl) (by apply qA;intro _;exact ⟨rfl,rfl⟩) (by apply qA;intro _;exact ⟨rfl,rfl⟩) (zA6 _ _ (by rfl)) (by rfl) ?_
 refine sW ?_
 exact .oA [(0,some 0)] []
theorem qn2 (xs:List Int) (hl:xs.length≤12):∃ ys,(ys.Perm xs∧Srt ltI ys 0 xs.length)∧
 Spc Tryz.prog yg [.asl 0 xs.length] [(0,.arr 1 (xs.map vI) false)] (.tup []) [(0,.arr 1 (ys.map vI) false)]:=by
 obtain ⟨lim,hlim,hs⟩:=qA6 xs.length (by omega)
 refine ⟨insS ltI xs 0 xs.length,⟨(jr5 ltI xs (Nat.zero_le _) (Nat.le_refl _)).perm,je6 ltI_ord xs (Nat.zero_le _) (Nat.le_refl _)⟩,?_⟩
 have hu:IntKind.u64.wrap (xs.length:Int) = (xs.length:Int):=by rw [IntKind.wrap_u64];omega
 refine qe qg7 mixm (by simp) fun e _ hst=>qh ?_
 unfold wP
 simp only [tZ,↓un_u,simprocAttr,hu]
 refine C1.im hs (by rfl) (by rfl) ?_
 refine sW ?_
 refine C1.upd 0 1 _ _ (qn1 xs lim hl) (by rfl) (by apply qA;intro _;exact ⟨rfl,rfl⟩) (by apply qA;intro _;exact ⟨rfl,rfl⟩) (zA6 _ _ (by rfl)) (by rfl) ?_
 refine sW ?_
 exact .oA [(0,some 0)] []
theorem qA8 {A l:List Int} {m j:Nat} (h:A.drop m = l.drop m) (hj:m≤j):gd A j = gd l j:=by
 have h1:(A.drop m).getD (j - m) default = (l.drop m).getD (j - m) default:=by rw [h]
 simp only [List.getD_eq_getElem?_getD,List.getElem?_drop] at h1
 rw [show m + (j - m) = j by omega] at h1
 simpa [gd,List.getD_eq_getElem?_getD] using h1
theorem YA (l:List Int) (hl:l.length < 2305843009213693952) :
 Spc Tryz.prog kz [.vw 0 l.length 0 l.length] [(0,.arr 1 (l.map vI) false)] (.asl 1 (cptN eqI2 l l.length).length) [(0,.dead),(1,.arr 1 ((cptN eqI2 l l.length).map vI) false)]:=by
 refine qe WL mixm (by simp) fun e _ hst=>qh ?_
 unfold jU
 refine sW ?_
 have hfull:∀ j,j≤l.length→(∀ i,0 < i→i < j→eqI2 (gd l i) (gd l (i - 1)) = false)→cptN eqI2 l j = l.take j:=by
  intro j
  induction j with
  | zero=>intro _ _;rfl
  | succ j ih=>
    intro h1 h2
    rw [cptN,ih (by omega) (fun i h3 h4=>h2 i h3 (by omega)),qD (by omega),if_neg ?_,qM1 (by omega)]
    intro e
    rw [h2 j e.1 (by omega)] at e
    exact absurd e.2 (by simp)
 have hdone:∀ e:Env,True:=fun _=>trivial
 simp only [tZ,↓un_u,simprocAttr,decide_eq_true_eq,decide_eq_false_iff_not]
 refine ⟨fun h=>?_,fun h=>?_⟩
 ·have hc:cptN eqI2 l l.length = l:=by rw [hfull l.length (Nat.le_refl _) (fun i h1 h2=>by omega),List.take_length]
  rw [hc]
  refine .cutv 1 rfl (by simp) rfl (by simp) ?_
  simp only [QK,List.length_map,List.take_of_length_le (show (l.map vI).length≤l.length by simp)]
  exact .oA [(0,some 0),(1,some 1)] []
 refine qr mixm (α:=Nat) [3] (fun k=>1≤k∧k≤l.length∧∀ i,0 < i→i < k→eqI2 (gd l i) (gd l (i - 1)) = false) (fun k=>[(3,vI k)]) (fun k=>[(0,.arr 1 (l.map vI) false)]) (fun k=>l.length - k) 1 ⟨Nat.le_refl _,by omega,fun i h1 h2=>by omega⟩ ?_ fun k hk=>?_
 ·exact .oA [(0,some 0)] []
 obtain ⟨k1,k2,k3⟩:=hk
 simp only [tZ,↓un_u,simprocAttr,decide_eq_true_eq,decide_eq_false_iff_not]
 refine ⟨fun h4=>?_,fun h4=>?_⟩
 ·have hkl:k < l.length:=by omega
  have hwp:IntKind.i64.wrap ((k:Int) - 1) = ((k - 1:Nat):Int):=by rw [IntWalk.i64_in _ (by omega)];omega
  have hws:=qg (i:=k) (by omega)
  simp only [tZ,↓un_u,simprocAttr,hwp,Int.toNat_natCast,Nat.zero_add,Nat.add_zero,Jz hkl,Jz (show k - 1 < l.length by omega),qA7]
  refine ⟨by omega,by omega,by omega,by omega,by kernel_rfl,fun h5=>?_,fun h5=>?_⟩
  ·have hFk:cptN eqI2 l (k + 1) = l.take k:=by
    rw [cptN,if_pos ⟨by omega,h5⟩,List.append_nil,hfull k k2 k3]
   have hF0:(cptN eqI2 l (k + 1)).length = k:=by rw [hFk,List.length_take];omega
   refine ⟨by omega,?_⟩
   refine qr mixm (α:=List Int×Nat) [3,5] (fun q=>q.1.length = l.length∧1≤q.2∧k + q.2≤l.length∧(cptN eqI2 l (k + q.2)).length < k + q.2∧q.1.take (cptN eqI2 l (k + q.2)).length = cptN eqI2 l (k + q.2)∧q.1.drop (k + q.2 - 1) = l.drop (k + q.2 - 1)) (fun q=>[(3,vI (cptN eqI2 l (k + q.2)).length),(5,vI q.2)]) (fun q=>[(0,.arr 1 (q.1.map vI) false)]) (fun q=>l.length - q.2) (l,1) ⟨rfl,Nat.le_refl _,by dsimp only;omega,by dsimp only;omega,by dsimp only;rw [hF0,hFk],rfl⟩ ?_ fun q hq=>?_
   ·rw [show (l,1).2 = 1 from rfl,hF0]
    exact .oA [(0,some 0)] []
   obtain ⟨A,q⟩:=q
   obtain ⟨g1,g2,g3,g4,g5,g6⟩:=hq
   dsimp only at g1 g2 g3 g4 g5 g6
   dsimp only
   simp only [tZ,↓un_u,simprocAttr,decide_eq_true_eq,decide_eq_false_iff_not]
   refine ⟨g1,fun h6=>?_,fun h6=>?_⟩
   ·have hkq:k + q < l.length:=by omega
    have hwq:IntKind.i64.wrap ((q:Int) - 1) = ((q - 1:Nat):Int):=by rw [IntWalk.i64_in _ (by omega)];omega
    have hwq1:=qg (i:=q) (by omega)
    have hwF:=qg (i:=(cptN eqI2 l (k + q)).length) (by omega)
    have ha1:gd A (k + q) = gd l (k + q):=qA8 g6 (by omega)
    have ha2:gd A (k + (q - 1)) = gd l (k + q - 1):=by rw [show k + (q - 1) = k + q - 1 by omega];exact qA8 g6 (Nat.le_refl _)
    have hlF:=zU5 eqI2 l (k + q)
    have hFs:cptN eqI2 l (k + (q + 1)) = cptN eqI2 l (k + q) ++ (if eqI2 (gd l (k + q)) (gd l (k + q - 1)) = true then [] else [gd l (k + q)]):=by
     rw [show k + (q + 1) = (k + q) + 1 by omega,cptN]
     by_cases e:eqI2 (gd l (k + q)) (gd l (k + q - 1)) = true
     ·rw [if_pos ⟨by omega,e⟩,if_pos e]
     ·rw [if_neg (fun h=>e h.2),if_neg e]
    simp only [tZ,↓un_u,simprocAttr,hwq,Int.toNat_natCast,List.length_map,Jz (show k + q < A.length by omega),Jz (show k + (q - 1) < A.length by omega),qA7,ha1,ha2]
    refine ⟨by omega,by omega,by omega,by omega,by kernel_rfl,fun h7=>?_,fun h7=>?_⟩
    ·have hne:¬ eqI2 (gd l (k + q)) (gd l (k + q - 1)) = true:=by
      intro e
      have e2:((gd l (k + q)) == (gd l (k + q - 1))) = true:=e
      first | (rw [e2] at h7;cases h7) | (rw [bne,e2] at h7;cases h7)
     rw [if_neg hne] at hFs
     simp only [tZ,↓un_u,simprocAttr,Int.toNat_natCast,List.length_map,Jz (show (cptN eqI2 l (k + q)).length < A.length by omega),zj5,zA5,ha1,hwF]
     refine ⟨by omega,by omega,by omega,by omega,(A.set (cptN eqI2 l (k + q)).length (gd l (k + q)),q + 1),⟨?_,by dsimp only;omega,by dsimp only;omega,?_,?_,?_⟩,by dsimp only;omega,?_⟩
     ·dsimp only;rw [List.length_set];exact g1
     ·dsimp only;rw [hFs,List.length_append];simp;omega
     ·dsimp only
      rw [hFs,List.length_append,List.length_cons,List.length_nil,Nat.zero_add,qD (by rw [List.length_set];omega),List.take_set_of_le (Nat.le_refl _),g5,List.getElem_set_self]
     ·dsimp only
      rw [show k + (q + 1) - 1 = (k + q - 1) + 1 by omega,List.drop_set_of_lt (by omega),← List.drop_drop,← List.drop_drop,g6]
     ·dsimp only
      rw [hwq1,hFs,List.length_append,List.length_cons,List.length_nil,Nat.zero_add]
      exact .oA [(0,some 0)] []
    ·have heq:eqI2 (gd l (k + q)) (gd l (k + q - 1)) = true:=by
      show ((gd l (k + q)) == (gd l (k + q - 1))) = true
      simpa using h7
     rw [if_pos heq,List.append_nil] at hFs
     refine ⟨(A,q + 1),⟨g1,by dsimp only;omega,by dsimp only;omega,by dsimp only;rw [hFs];omega,by dsimp only;rw [hFs];exact g5,?_⟩,by dsimp only;omega,?_⟩
     ·dsimp only
      rw [show k + (q + 1) - 1 = (k + q - 1) + 1 by omega,← List.drop_drop,← List.drop_drop,g6]
     ·dsimp only
      rw [hwq1,hFs]
      exact .oA [(0,some 0)] []
   ·have hkq:k + q = l.length:=by omega
    rw [hkq] at g4 g5
    rw [hkq]
    generalize cptN eqI2 l l.length = F at *
    simp only [tZ,↓un_u,simprocAttr,List.length_map,Int.toNat_natCast,g1,List.length_take,List.length_drop,List.length_replicate]
    refine ⟨by omega,by omega,by omega,?_⟩
    refine .cutv 1 rfl (by simp;omega) rfl (by simp;omega) ?_
    have hcut:(((A.map vI).take F.length ++ List.replicate (l.length - F.length) (T.v (Value.int .i64 0)) ++ (A.map vI).drop (F.length + (l.length - F.length))).take F.length) = F.map vI:=by
     rw [List.append_assoc,List.take_append_of_le_length (by rw [List.length_take,List.length_map];omega),List.take_take,Nat.min_self,← List.map_take,g5]
    simp only [Nat.sub_zero,Nat.zero_add,QK,List.append_assoc] at hcut ⊢
    rw [hcut]
    exact .oA [(0,some 0),(1,some 1)] []
  ·refine ⟨k + 1,⟨by omega,by omega,fun i h6 h7=>?_⟩,by omega,?_⟩
   ·by_cases e:i = k
    ·subst e;exact h5
    ·exact k3 i h6 (by omega)
   ·rw [hws]
    exact .oA [(0,some 0)] []
 ·obtain rfl:k = l.length:=by omega
  have hc:cptN eqI2 l l.length = l:=by rw [hfull l.length (Nat.le_refl _) k3,List.take_length]
  rw [hc]
  refine .cutv 1 rfl (by simp) rfl (by simp) ?_
  simp only [QK,List.length_map,List.take_of_length_le (show (l.map vI).length≤l.length by simp)]
  exact .oA [(0,some 0),(1,some 1)] []
end Go.Proofs
namespace Go.Proofs
open Go Go.TL
set_option maxRecDepth 4000
set_option maxHeartbeats 8000000
open So
def setI (l:List Int):List Int:=l.foldl (insU ltI eqI2) []
def qI5 (c:Chg):List Int:=c.gone ++ (c.rows.filter fun r=>decide (0 < r.length)).map hd
def zX6 (c:Chg) (dep:List Int):Bool:=dep.any fun n=>(setI (qI5 c)).contains n
theorem qc3 (l:List Int) (hl:l.length * 8≤140737488355328):Spc Tryz.prog qX [vIs l] [] (.asl 0 l.length) [(0,.arr 1 (l.map vI) false)]:=by
 refine qe QW mixm (by simp) fun e _ hst=>qh ?_
 unfold js
 refine sW ?_
 refine ⟨fun h=>?_,?_⟩
 ·have:l = []:=by
   simpa using h
  subst this
  exact .oA [(0,none)] []
 ·refine ⟨by omega,?_⟩
  exact .oA [(0,some 16384)] []
theorem qW4 (l:List Int) (hl:l.length≤12):Spc Tryz.prog Ke [.asl 0 l.length] [(0,.arr 1 (l.map vI) false)] (.asl 1 (setI l).length) [(0,.dead),(1,.arr 1 ((setI l).map vI) false)]:=by
 obtain ⟨ys,⟨hp,hso⟩,hsc⟩:=qn2 l hl
 have hpl:=hp.length_eq
 rw [← hpl] at hso
 have hns:cptN eqI2 ys ys.length = setI l:=jr6 ltI_ord ltI_tot ltI_trans eqI2_iff hp hso
 have hcm:=YA ys (by omega)
 refine qe qD7 mixm (by simp) fun e _ hst=>qh ?_
 unfold ZY
 refine sW ?_
 refine C1.upd 0 1 _ _ hsc (by rfl) (by apply qA;intro _;exact ⟨rfl,rfl⟩) (by apply qA;intro _;exact ⟨rfl,rfl⟩) ⟨by simp [ltA,ltC,ltC0,TL.get],trivial⟩ (by rfl) ?_
 refine sW ?_
 rw [← hpl]
 refine C1.cutback 0 12292 1 [] hcm (by rfl) (by apply qA;intro _;exact ⟨rfl,rfl⟩) (by apply qA;intro _;exact ⟨rfl,rfl⟩) (by apply zT9;intro _;rfl) (by rfl) ?_ (by rfl) ?_
 ·all_goals (try exact clA)
 refine sW ?_
 rw [hns]
 exact .oA [(0,some 0),(1,some 12292)] []
def qA9 (c:Chg) (i:Nat):List Int:=c.gone ++ ((c.rows.take i).filter fun r=>decide (0 < r.length)).map hd
theorem zF3 (c:Chg):qA9 c 0 = c.gone:=by simp [qA9]
theorem zX7 (c:Chg):qA9 c c.rows.length = qI5 c:=by rw [qA9,List.take_length];rfl
theorem zF4 {c:Chg} {i:Nat} (hi2:i < c.rows.length):qA9 c (i + 1) = qA9 c i ++ if 0 < c.rows[i].length then [hd c.rows[i]] else []:=by
 unfold qA9
 rw [qD hi2,List.filter_append,List.map_append,List.filter_cons,List.filter_nil,List.append_assoc]
 congr 2
 by_cases h:0 < c.rows[i].length
 ·rw [if_pos (by simpa using h),if_pos h];rfl
 ·rw [if_neg (by simpa using h),if_neg h];rfl
theorem zX8 (c:Chg) (i:Nat):(qA9 c i).length≤c.gone.length + c.rows.length:=by
 unfold qA9
 rw [List.length_append,List.length_map]
 have:=List.length_filter_le (fun r:List Int=>decide (0 < r.length)) (c.rows.take i)
 rw [List.length_take] at this
 omega
theorem YI (c:Chg) (hg:c.gone.length + c.rows.length≤12):Spc Tryz.prog yw [chgT c] [] (vIs (setI (qI5 c))) []:=by
 have hcl:=qc3 c.gone (by omega)
 refine qe qw0 mixm (by simp) fun e _ hst=>qh ?_
 unfold QU
 refine sW ?_
 refine C1.fresh 8200 hcl (by rfl) (by apply qA;intro _;exact ⟨rfl,rfl⟩) (by rfl) ?_
 refine sW ?_
 refine qr mixm (α:=Nat) [3,12] (fun i=>i≤c.rows.length) (fun i=>[(3,.asl 1 (qA9 c i).length),(12,vI i)]) (fun i=>[(1,.arr 1 ((qA9 c i).map vI) false)]) (fun i=>c.rows.length - i) 0 (by omega) ?_ fun i hi=>?_
 ·rw [zF3]
  exact .oA [(1,some 8200)] []
 have hll:=zX8 c i
 refine sD ?_
 refine ⟨fun h2=>?_,fun h2=>?_⟩
 ·have hi2:i < c.rows.length:=by omega
  have hwi:=qg (i:=i) (by omega)
  have hs:=zF4 hi2
  simp only [tZ,↓un_u,simprocAttr,Int.toNat_natCast,qd hi2,gt_iff_lt,tD]
  refine ⟨by omega,fun h3=>?_,fun h3=>?_⟩
  ·have hgi:=qU (show 0 < c.rows[i].length by omega)
   rw [if_pos (by omega)] at hs
   have hsl:=congrArg List.length hs
   simp only [List.length_append,List.length_cons,List.length_nil] at hsl
   simp only [tZ,↓un_u,simprocAttr,hgi,hwi]
   refine ⟨by omega,by omega,i + 1,by omega,by omega,?_⟩
   rw [hs]
   exact .oA [(1,some 1)] []
  ·rw [if_neg (by omega),List.append_nil] at hs
   simp only [tZ,↓un_u,simprocAttr,hwi]
   refine ⟨i + 1,by omega,by omega,?_⟩
   rw [hs]
   exact .oA [(1,some 1)] []
 ·have hil:i = c.rows.length:=by omega
  rw [hil,zX7] at hll ⊢
  refine C1.cutback 1 36868 1 [] (qW4 (qI5 c) (by omega)) (by rfl) (by apply qA;intro _;exact ⟨rfl,rfl⟩) (by apply qA;intro _;exact ⟨rfl,rfl⟩) (by apply zT9;intro _;rfl) (by rfl) ?_ (by rfl) ?_
  ·all_goals (try exact clA)
  refine sW ?_
  exact .oA [] [36868]
theorem qn3 (K:List Int) (hK:K.length < 4611686018427387904) (n:Int):Spc Tryz.prog ke [vI n,.ip [vIs K]] [] (vB (K.contains n)) []:=by
 refine qe qg1 mixm (by simp) fun e _ hst=>qh ?_
 unfold wM
 refine sW ?_
 refine C1.im (jX K n hK) (by rfl) (by rfl) ?_
 refine sW ?_
 exact .oA [] []
theorem insF_len:∀ (l m:List Int),(l.foldl (insU ltI eqI2) m).length≤m.length + l.length
 | [],m=>by simp
 | x :: l,m=>by
   rw [List.foldl_cons,List.length_cons]
   have h1:=insF_len l (insU ltI eqI2 m x)
   have h2:=insU_len (lt:=ltI) (eq:=eqI2) (l:=m) (v:=x)
   omega
theorem jh4 (c:Chg):(qI5 c).length≤c.gone.length + c.rows.length:=by
 unfold qI5
 rw [List.length_append,List.length_map]
 have:=List.length_filter_le (fun r:List Int=>decide (0 < r.length)) c.rows
 omega
theorem js8 (l:List Int):(setI l).length≤l.length:=by
 have:=insF_len l []
 simpa [setI] using this
theorem WW (c:Chg) (dep:List Int) (hg:c.gone.length + c.rows.length≤12) (hd1:dep.length < 4611686018427387904):Spc Tryz.prog wv [chgT c,vIs dep] [] (vB (zX6 c dep)) []:=by
 have hkl:=jh4 c
 have hsl:=js8 (qI5 c)
 have hCF:=Jy (fun n=>(setI (qI5 c)).contains n) ke [.ip [vIs (setI (qI5 c))]] rfl dep (fun n _=>qn3 _ (by omega) n) hd1
 refine qe qp7 mixm (by simp) fun e _ hst=>qh ?_
 unfold yO
 refine sW ?_
 refine C1.im (YI c hg) (by rfl) (by rfl) ?_
 refine sW ?_
 refine C1.lend [8200] hCF ?_ (by rfl) (by rfl) ?_
 ·all_goals (try simp only [tL,simprocAttr,List.map_append,List.map_cons,List.map_nil,List.cons_append,List.nil_append])
  all_goals (try (repeat' (first | exact qZ | (apply zN;intro _;exact ⟨rfl,rfl⟩) | (apply qA;intro _;exact ⟨rfl,rfl⟩) | with_reducible apply za | with_reducible refine zo ⟨rfl,rfl⟩ ?_ | exact zO | with_reducible apply qV | with_reducible refine qJ ⟨rfl,rfl,?_⟩ ?_ | with_reducible apply And.intro | exact qW rfl | exact qW (by assumption) | (refine ⟨⟨?_,rfl,?_,rfl,?_⟩,trivial⟩ <;> first | (simp;done) | (apply qA;intro _;exact ⟨rfl,rfl⟩)) | trivial | rfl | (rw [qg (by omega)]) | omega)))
  simp only [ltP]
  exact ⟨rfl,by omega,rfl,zo ⟨rfl,rfl⟩ zO⟩
 refine sW ?_
 exact .oA [] []
end Go.Proofs
namespace Go.Proofs
open Go Go.TL
set_option maxRecDepth 4000
def mixA (h:Int):Int:=IntKind.u64.wrap (xorI .u64 h (shrI .u64 h 31) * 13787848793156543929)
def mix0 (s r x:Int):Int:=IntKind.u64.wrap (IntKind.u64.wrap (IntKind.u64.wrap s + IntKind.u64.wrap (IntKind.u64.wrap r * 11400714819323198485)) + IntKind.u64.wrap (IntKind.u64.wrap x * 14029467366897019727))
def iter {α:Type} (f:α→α):Nat→α→α
 | 0,x=>x
 | n + 1,x=>f (iter f n x)
def mixI (s r x:Int):Int:=IntKind.i64.wrap (shrI .u64 (iter mixA 3 (mix0 s r x)) 54)
def fwd (s:Int):Nat→Int×Int→Int×Int
 | 0,p=>p
 | r + 1,p=>((fwd s r p).2,xorI .i64 (fwd s r p).1 (mixI s r (fwd s r p).2))
def zj6 (s n:Int):Bool:=decide (0≤s) && decide (s < 1152921504606846976) && decide (0≤n) && decide (n < 1048576)
def tie (p:Int×Int):Int:=p.1 * 1024 + p.2
def cut (n:Int):Int×Int:=(n / 1024,n % 1024)
def keyI (s n:Int):Int:=if zj6 s n = true then tie (fwd s 8 (cut n)) else -1
theorem bits_nat {n:Int} (h0:0≤n):BitVec.ofInt 64 n = BitVec.ofNat 64 n.toNat:=by
 apply BitVec.eq_of_toNat_eq
 simp [BitVec.toNat_ofInt]
 omega
theorem js9 {a b:Int} (ha:0≤a∧a < 9223372036854775808) (hb:0≤b∧b < 9223372036854775808):xorI .i64 a b = ((a.toNat ^^^ b.toNat:Nat):Int):=by
 have h1:a.toNat < 2 ^ 63:=by omega
 have h2:b.toNat < 2 ^ 63:=by omega
 have h3:=Nat.xor_lt_two_pow h1 h2
 unfold xorI
 rw [show IntKind.i64.bits = 64 from rfl,bits_nat ha.1,bits_nat hb.1,BitVec.toNat_xor,BitVec.toNat_ofNat,BitVec.toNat_ofNat,Nat.mod_eq_of_lt (by omega),Nat.mod_eq_of_lt (by omega)]
 exact IntWalk.i64_in _ (by omega)
theorem zX9 {a b:Int} (ha:0≤a∧a < 1024) (hb:0≤b∧b < 1024):0≤xorI .i64 a b∧xorI .i64 a b < 1024:=by
 have h1:a.toNat < 2 ^ 10:=by omega
 have h2:b.toNat < 2 ^ 10:=by omega
 have h3:=Nat.xor_lt_two_pow h1 h2
 rw [js9 (by omega) (by omega)]
 omega
theorem zY0 (s r x:Int):0≤mixI s r x∧mixI s r x < 1024:=by
 unfold mixI
 have h:∀ n,0≤iter mixA 3 n∧iter mixA 3 n < 18446744073709551616:=by
  intro n
  simp only [iter]
  unfold mixA
  rw [IntKind.wrap_u64]
  omega
 have:=h (mix0 s r x)
 have h1:shrI .u64 (iter mixA 3 (mix0 s r x)) 54 = (iter mixA 3 (mix0 s r x)) / 18014398509481984:=by
  unfold shrI
  rw [Int.fdiv_eq_ediv_of_nonneg _ (by decide)]
  rfl
 rw [h1]
 rw [IntWalk.i64_in _ (by omega)]
 omega
theorem qB0 {s:Int} {p:Int×Int} (h:(0≤p.1∧p.1 < 1024)∧0≤p.2∧p.2 < 1024):∀ r,(0≤(fwd s r p).1∧(fwd s r p).1 < 1024)∧0≤(fwd s r p).2∧(fwd s r p).2 < 1024
 | 0=>h
 | r + 1=>⟨(qB0 h r).2,zX9 (qB0 h r).1 (zY0 _ _ _)⟩
theorem zY1 {n:Int} (h:0≤n∧n < 1048576):(0≤(cut n).1∧(cut n).1 < 1024)∧0≤(cut n).2∧(cut n).2 < 1024:=by
 simp only [cut];omega
theorem qW5 (a b:Int):Spc Tryz.prog Kf [vI a,vI b] [] (vB (zj6 a b)) []:=by
 refine qe qD9 mixm (by simp) fun e hn hst=>qh ?_
 unfold ZZ
 refine sW ?_
 exact .imR rfl rfl
def zj7 (s r x:Int):Int:=if s < 0∨1152921504606846976≤s∨r < 0∨8≤r∨x < 0∨1024≤x then 0 else mixI s r x
theorem qW6 (a b c:Int):Spc Tryz.prog Kg [vI a,vI b,vI c] [] (vI (zj7 a b c)) []:=by
 refine qe qE1 mixm (by simp) fun e hn hst=>qh ?_
 unfold Ja
 simp only [tZ,↓un_u,simprocAttr,Bool.or_eq_true,Bool.or_eq_false_iff,decide_eq_true_eq,decide_eq_false_iff_not]
 refine ⟨fun h=>.imR ?_ rfl,fun h=>?_⟩
 ·rw [zj7,if_pos (by omega)]
 ·refine zS4 mixm (α:=Nat) (fun i=>i≤3) (fun i=>[(7,vU64 (iter mixA i (mix0 a b c))),(8,vI i)]) (fun _=>[]) (fun i=>3 - i) 0 (by omega) (.ofFr (by simp [Yl,TL.get,iter,mix0])) fun i hi=>?_
  simp only [tZ,↓un_u,simprocAttr,decide_eq_true_eq,decide_eq_false_iff_not]
  refine ⟨fun h=>⟨i + 1,by omega,by omega,.ofFr ?_⟩,fun h=>?_⟩
  ·simp [Yl,TL.get,iter,mixA]
   exact IntWalk.i64_in _ (by omega)
  ·have:i = 3:=by omega
   subst this
   refine .imR ?_ rfl
   rw [zj7,if_neg (by omega)]
   rfl
theorem jh5 {s n x:Int} {r:Nat} (h:zj6 s n = true) (hr:r < 8) (hx:0≤x∧x < 1024):zj7 s r x = mixI s r x:=by
 simp [zj6] at h
 rw [zj7,if_neg (by omega)]
theorem zq3 (s n:Int):Spc Tryz.prog YS [vI s,vI n] [] (vI (keyI s n)) []:=by
 refine qe zg0 mixm (by simp) fun e hn hst=>qh ?_
 unfold WF
 refine sW ?_
 refine C1.im (qW5 s n) rfl rfl ?_
 simp only [tZ,↓un_u,simprocAttr,Bool.not_eq_false']
 refine ⟨fun h=>.imR (by simp [keyI,h]) rfl,fun h=>?_⟩
 have hn:0≤n∧n < 1048576:=by simp [zj6] at h;omega
 rw [Int.tdiv_eq_ediv_of_nonneg hn.1,Int.tmod_eq_emod_of_nonneg hn.1,IntWalk.i64_in _ (by omega)]
 have hr:=qB0 (s:=s) (zY1 hn)
 refine zS4 mixm (α:=Nat) (fun i=>i≤8) (fun i=>[(0,vI s),(5,vI (fwd s i (cut n)).1),(6,vI (fwd s i (cut n)).2),(7,vI i)]) (fun _=>[]) (fun i=>8 - i) 0 (by omega) (.ofFr (by simp [Yl,TL.get,fwd,cut])) fun i hi=>?_
 simp only [tZ,↓un_u,simprocAttr,decide_eq_true_eq,decide_eq_false_iff_not]
 refine ⟨fun h1=>?_,fun h1=>?_⟩
 ·refine C1.im (qW6 s i _) rfl rfl ?_
  refine sW ?_
  refine ⟨i + 1,by omega,by omega,.ofFr ?_⟩
  rw [jh5 h (by omega) (hr i).2]
  simp [Yl,TL.get,fwd]
  exact IntWalk.i64_in _ (by omega)
 ·have:i = 8:=by omega
  subst this
  have:=hr 8
  refine .imR ?_ rfl
  rw [IntWalk.i64_in _ (by rw [IntWalk.i64_in _ (by omega)];omega),IntWalk.i64_in _ (by omega)]
  simp [keyI,h,tie]
end Go.Proofs
namespace Go.Proofs
open Go Go.TL
set_option maxRecDepth 4000
set_option maxHeartbeats 8000000
open So
end Go.Proofs
namespace Go.Proofs
open Go Go.TL
set_option maxHeartbeats 4000000
open So
def drw0 (seed id:Int):Int:=IntKind.u64.wrap (IntKind.u64.wrap (IntKind.u64.wrap (IntKind.u64.wrap seed * 2654435761) + IntKind.u64.wrap (IntKind.u64.wrap id * 40503)) + 97)
def drwA (h:Int):Int:=IntKind.u64.wrap (IntKind.u64.wrap (h * 6364136223846793005) + 1442695040888963407)
def drwX (h:Int):Int:=xorI .u64 (drwA h) (shrI .u64 (drwA h) 29)
def drwI (seed id:Int):Int:=IntKind.i64.wrap (shrI .u64 (iter drwX 3 (drw0 seed id)) 32)
def inS (x:Smp) (id:Int):Bool:=(smpE x == 0) && decide (1≤id) && decide (id≤1048575) && decide ((drwI x.seed id).tmod x.of < x.part)
theorem qW7 (x:Smp):Spc Tryz.prog Ki [smpT x] [] (vI (smpE x)) []:=by
 refine qe qG9 mixm (by simp) fun e _ hst=>qh ?_
 unfold Jo
 refine sD ?_
 refine ⟨fun h=>?_,fun h=>?_⟩
 ·rw [smpE,if_pos (by omega)]
  exact .oA [] []
 ·rw [smpE,if_neg (by omega)]
  exact .oA [] []
theorem zj8 (seed id:Int):Spc Tryz.prog Wu [vI seed,vI id] [] (vI (drwI seed id)) []:=by
 refine qe qT3 mixm (by simp) fun e _ hst=>qh ?_
 unfold KC
 refine sW ?_
 refine qr mixm (α:=Nat) [5,6] (fun i=>i≤3) (fun i=>[(5,vU64 (iter drwX i (drw0 seed id))),(6,vI i)]) (fun i=>[]) (fun i=>3 - i) 0 (by omega) ?_ fun i hi=>?_
 ·exact .oA [] []
 have hwi:=qg (i:=i) (by omega)
 refine sD ?_
 refine ⟨fun h=>?_,fun h=>?_⟩
 ·simp only [tZ,↓un_u,simprocAttr,hwi]
  refine ⟨i + 1,by omega,by omega,?_⟩
  show Le _ _ ⟨(5,vU64 (drwX (iter drwX i (drw0 seed id)))) :: _,_⟩
  exact .oA [] []
 ·have:i = 3:=by omega
  subst this
  exact .oA [] []
theorem zF5 (x:Smp) (id:Int):Spc Tryz.prog qk9 [smpT x,vI id] [] (vB (inS x id)) []:=by
 refine qe zn8 mixm (by simp) fun e _ hst=>qh ?_
 unfold qb1
 refine sW ?_
 refine C1.im (qW7 x) (by rfl) (by rfl) ?_
 refine sW ?_
 refine C2.im (fun _=>zj8 x.seed id) (fun _=>rfl) (by rfl) ?_
 refine sW ?_
 rw [show (smpE x == 0 && decide (id≥1) && decide (id≤1048575) && decide ((drwI x.seed id).tmod x.of < x.part)) = inS x id from rfl]
 refine ⟨fun h=>?_,by kernel_rfl,?_⟩
 ·simp only [tD,beq_iff_eq] at h
  have:=h.1.1
  unfold smpE at this
  grind
 ·exact .oA [] []
def ownP (s:Src) (d:Dcl) (r:List Int):Bool:=(zV9 s.sch d.coh r == 1) && inS d.smp (hd r)
def ownR (s:Src) (d:Dcl):List (List Int):=if srcB s = false∨dclE s.sch d≠0 then [] else s.rows.filter (ownP s d)
def ownS (s:Src) (d:Dcl):List Int:=(ownR s d).map hd
theorem qI6 (s:Src) (d:Dcl) (hs:qI3 s) (hL:0 < s.sch.lists.length):Spc Tryz.prog ZJ [srcT s,dclT d] [] (vIs (ownS s d)) []:=by
 refine qe qw6 mixm (by simp) fun e _ hst=>qh ?_
 unfold Za
 refine sW ?_
 refine C1.im (KO s hs) (by rfl) (by rfl) ?_
 refine sW ?_
 refine C2.im (fun _=>KM s.sch hs.1 hL d) (fun _=>rfl) (by rfl) ?_
 simp only [tZ,↓un_u,simprocAttr,tD,bne_iff_ne,bne_eq_false_iff_eq,Bool.not_eq_true',Bool.not_eq_false']
 refine ⟨fun h=>?_,fun h=>?_⟩
 ·rw [ownS,ownR,if_pos h]
  exact .oA [] []
 have hok:=qm6.1 h.1
 have hrp:=hok.rowp
 have hnr:=hok.nr
 rw [ownS,ownR,if_neg (by grind)]
 refine qr mixm (α:=Nat) [5,6,16] (fun i=>i≤s.rows.length) (fun i=>[(5,.asl 1 (((s.rows.take i).filter (ownP s d)).map hd).length),(6,vI i)]) (fun i=>[(4096,.arr 5 [srcT s] false),(4100,.arr 12 [dclT d] false),(1,.arr 1 ((((s.rows.take i).filter (ownP s d)).map hd).map vI) false)]) (fun i=>s.rows.length - i) 0 (by omega) ?_ fun i hi=>?_
 ·exact .oA [(4096,some 4096),(4100,some 4100),(1,none)] []
 have hfl:=List.length_filter_le (ownP s d) (s.rows.take i)
 rw [List.length_take] at hfl
 refine sD ?_
 refine ⟨fun h2=>?_,fun h2=>?_⟩
 ·have hi2:i < s.rows.length:=by omega
  have hwi:=qg (i:=i) (by omega)
  have hgi:=qU (hrp _ (List.getElem_mem hi2))
  have hrpi:=hrp _ (List.getElem_mem hi2)
  have hsp:((s.rows.take (i + 1)).filter (ownP s d)).map hd = ((s.rows.take i).filter (ownP s d)).map hd ++ if ownP s d s.rows[i] = true then [hd s.rows[i]] else []:=by
   rw [qD hi2,List.filter_append,List.map_append,List.filter_cons,List.filter_nil]
   congr 1
   split <;> rfl
  have hP:ownP s d s.rows[i] = ((zV9 s.sch d.coh s.rows[i] == 1) && inS d.smp (hd s.rows[i])):=rfl
  have hI:=zF5 d.smp (hd s.rows[i])
  simp only [tZ,↓un_u,simprocAttr,Int.toNat_natCast,qd hi2]
  refine ⟨by omega,?_⟩
  refine C1.im (zh9 s.sch hs.1 hL d.coh s.rows[i] (hs.2 _ (List.getElem_mem hi2))) (by rfl) (by rfl) ?_
  simp only [tZ,↓un_u,simprocAttr,Int.toNat_natCast,qd hi2,hgi]
  refine ⟨fun _=>by omega,fun _=>by omega,?_⟩
  refine C2.im (fun _=>hI) (fun _=>rfl) (by rfl) ?_
  refine sW ?_
  rw [← hP]
  refine ⟨by kernel_rfl,fun h3=>?_,fun h3=>?_⟩
  ·rw [if_pos h3] at hsp
   have hspl:=congrArg List.length hsp
   simp only [List.length_append,List.length_map,List.length_cons,List.length_nil] at hspl
   simp only [tZ,↓un_u,simprocAttr,Int.toNat_natCast,qd hi2,hgi,hwi]
   refine ⟨by omega,by omega,by omega,i + 1,by omega,by omega,?_⟩
   rw [hsp]
   exact .oA [(4096,some 4096),(4100,some 4100),(1,some 1)] []
  ·rw [if_neg (by rw [h3];simp),List.append_nil] at hsp
   have hspl:=congrArg List.length hsp
   simp only [List.length_append,List.length_map,List.length_cons,List.length_nil] at hspl
   simp only [tZ,↓un_u,simprocAttr,hwi]
   refine ⟨i + 1,by omega,by omega,?_⟩
   rw [hsp]
   exact .oA [(4096,some 4096),(4100,some 4100),(1,some 1)] []
 ·have hil:i = s.rows.length:=by omega
  subst hil
  rw [List.take_length]
  exact .oA [] [1]
end Go.Proofs
