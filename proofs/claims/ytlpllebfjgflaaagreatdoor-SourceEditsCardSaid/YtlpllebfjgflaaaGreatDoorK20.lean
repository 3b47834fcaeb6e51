/- A part of the proof: trees of Go values, short forms, contracts. -/
import Derived.WalkKit
import Derived.Still
import Derived.MapKept
import GoSem.Builtin.Cap
import Derived.Laws.Externs
import GoSem.Extern.SlicesOverlaps
import Derived.Carry
import Derived.ProofKit
import Derived.OpenShut
import Derived.HandedShaped
import Derived.Lay
import Derived.LaidLaws
import Derived.MakeChecks
import Derived.SevenTiedAt
import Derived.Test.YtlpllebfjgflaaaGreatDoorChecked
import Derived.Test.YtlpllebfjgflaaaGreatDoorK19
set_option linter.unusedSimpArgs false
set_option linter.unusedVariables false
namespace Go.Proofs
open Go Go.TL
set_option maxRecDepth 4000
set_option maxHeartbeats 8000000
open So
def dupB (l:List (List Int)):Bool:=!decide ((l.map hd).Nodup)
def newL (l:List (List Int)):List (List Int):=l.foldl putR []
def newE (s:Sch) (l:List (List Int)):Int:=
 if schE s≠0 then schE s else if l.length > 200 then 1 else if (l.any fun r=>rowE s r != 0) = true then 9 else if dupB l = true then 10 else 0
def newS (s:Sch) (l:List (List Int)):Src:=if newE s l≠0 then src0 else ⟨s,newL l,[],0⟩
theorem zq0:∀ (l a:List (List Int)),AscR a→((a ++ l).map hd).Nodup→AscR (l.foldl putR a)∧∀ x,x∈l.foldl putR a↔x∈a∨x∈l
 | [],a,h,_=>⟨h,fun x=>by simp⟩
 | r :: l,a,h,hn=>by
   have hn1:∀ x∈a,hd x≠hd r:=fun x hx e=>by
    rw [List.map_append,List.map_cons,List.nodup_append] at hn
    exact hn.2.2 (hd x) (List.mem_map.2 ⟨x,hx,rfl⟩) (hd r) (by simp) e
   have hm:∀ x,x∈putR a r↔x = r∨x∈a:=fun x=>by
    rw [Wr h]
    constructor
    ·rintro (k | ⟨k,_⟩)
     ·exact .inl k
     ·exact .inr k
    ·rintro (k | k)
     ·exact .inl k
     ·exact .inr ⟨k,hn1 x k⟩
   have hp:(putR a r).Perm (r :: a):=by
    rw [qJ0 h]
    have e1:(a.filter fun x=>decide (hd r < hd x)) = a.filter fun x=>!decide (hd x < hd r):=List.filter_congr fun x hx=>by
     have:=hn1 x hx
     rw [Bool.eq_iff_iff,decide_eq_true_eq,Bool.not_eq_true',decide_eq_false_iff_not]
     omega
    rw [e1]
    exact List.perm_middle.trans ((List.filter_append_perm (fun x=>decide (hd x < hd r)) a).cons r)
   have hn2:((putR a r ++ l).map hd).Nodup:=by
    have h1:(putR a r ++ l).Perm (a ++ r :: l):=(hp.append_right l).trans (by rw [List.cons_append];exact List.perm_middle.symm)
    exact (h1.map hd).nodup_iff.2 hn
   obtain ⟨k1,k2⟩:=zq0 l (putR a r) (YR h) hn2
   refine ⟨k1,fun x=>?_⟩
   rw [List.foldl_cons,k2,hm,List.mem_cons]
   constructor
   ·rintro ((k | k) | k)
    ·exact .inr (.inl k)
    ·exact .inl k
    ·exact .inr (.inr k)
   ·rintro (k | k | k)
    ·exact .inl (.inr k)
    ·exact .inl (.inl k)
    ·exact .inr k
def bidV (x y:List Int):Int:=hd x - hd y
def bidP (x:List Int):Prop:=0 < x.length∧1≤hd x∧hd x≤1048575
theorem qu0 (x y:List Int) (hx:bidP x) (hy:bidP y):Spc Tryz.prog yl [vIs x,vIs y] [] (vI (bidV x y)) []:=by
 have h1:=zu hx.1
 have h2:=zu hy.1
 have a1:=hx.1
 have a2:=hy.1
 have hw:IntKind.i64.wrap (hd x - hd y) = hd x - hd y:=IntWalk.i64_in _ (by have:=hx.2;have:=hy.2;omega)
 refine qd qi3 mixm (by simp) fun e _ hst=>qj ?_
 unfold Qw
 simp only [tZ,↓un_u,simprocAttr,h1,h2,hw]
 refine ⟨by omega,by omega,by kernel_rfl,?_⟩
 rw [show bidV x y = hd x - hd y from rfl]
 exact .oA [] []
theorem zq1 (x y:List Int):ltV bidV x y = decide (hd x < hd y):=by
 unfold ltV bidV
 exact decide_eq_decide.2 (by omega)
theorem zI7:SWOrd (ltV bidV):=by
 refine ⟨fun x y h=>?_,fun x y z h1 h2=>?_⟩
 ·rw [zq1] at h ⊢
  have:=of_decide_eq_true h
  exact decide_eq_false (by omega)
 ·rw [zq1] at h1 h2 ⊢
  have k1:=of_decide_eq_false h1
  have k2:=of_decide_eq_false h2
  exact decide_eq_false (by omega)
theorem zI8 {ys:List (List Int)} (h:Srt (ltV bidV) ys 0 ys.length) (hn:∀ i,0 < i→i < ys.length→hd (ys.getD i default)≠hd (ys.getD (i - 1) default)):AscR ys:=by
 refine zo9 (f:=hd) fun i h0 hi=>?_
 have h1:=h (i - 1) i (by omega) (by omega) hi
 have h2:=hn i h0 hi
 have e1:gd ys i = ys.getD i default:=rfl
 have e2:gd ys (i - 1) = ys.getD (i - 1) default:=rfl
 unfold lew at h1
 rw [e1,e2,zq1] at h1
 have:=of_decide_eq_false h1
 omega
theorem qE4 (s:Sch) (l:List (List Int)) (hn:s.cols.length < 4611686018427387904) (hl:s.lists.length < 4611686018427387904) (hr:∀ r∈l,r.length < 4611686018427387904) (h12:l.length≤12):Spc Tryz.prog Jc [schT s,vRw l] [] (.tup [srcT (newS s l),vI (newE s l)]) []:=by
 have hC:=Kg s hn hl
 have hbad:∀ v,v≠0→newE s l = v→newS s l = src0:=fun v h1 h2=>by rw [newS,h2,if_pos h1]
 refine qd qq6 mixm (by simp) fun e _ hst=>qj ?_
 unfold Zn
 refine sW ?_
 refine C1.im hC (by rfl) (by rfl) ?_
 simp only [tZ,↓un_u,simprocAttr,bne_iff_ne,bne_eq_false_iff_eq,tD]
 refine ⟨fun h=>?_,fun h=>⟨fun h2=>by omega,fun _=>?_⟩⟩
 ·have hE:newE s l = schE s:=by rw [newE,if_pos h]
  rw [hbad _ h hE,hE]
  exact .oA [] []
 refine qy mixm (α:=Nat) [23] (fun i=>i≤l.length∧(l.take i).any (fun r=>rowE s r != 0) = false) (fun i=>[(23,vI i)]) (fun i=>[(4096,.arr 2 [schT s] false),(4100,.arr 5 [srcT src0] false)]) (fun i=>l.length - i) 0 ⟨by omega,rfl⟩ ?_ fun i hi=>?_
 ·exact .oA [(4096,some 4096),(4100,some 4100)] []
 refine sD ?_
 refine ⟨fun h2=>?_,fun h2=>?_⟩
 ·have hi2:i < l.length:=by omega
  have hwi:=qh (i:=i) (by omega)
  have hF:=ZF s h l[i] (hr _ (List.getElem_mem hi2))
  simp only [tZ,↓un_u,simprocAttr,Int.toNat_natCast,qe hi2]
  refine ⟨by omega,?_⟩
  refine C1.im hF (by rfl) (by rfl) ?_
  simp only [tZ,↓un_u,simprocAttr,Bool.not_eq_true',Bool.not_eq_false',hwi]
  refine ⟨fun h3=>?_,fun h3=>?_⟩
  ·have h4:(rowE s l[i] != 0) = true:=by rw [bne,h3];rfl
   have hE:newE s l = 9:=by rw [newE,if_neg (by rw [h];simp),if_neg (by omega),if_pos (qn5 (p:=fun r=>rowE s r != 0) hi2 h4)]
   rw [hbad 9 (by decide) hE,hE]
   exact .oA [] []
  ·refine ⟨i + 1,⟨by omega,jz hi2 hi.2 (by rw [bne,h3];rfl)⟩,by omega,?_⟩
   exact .oA [(4096,some 4096),(4100,some 4100)] []
 have hil:i = l.length:=by omega
 subst hil
 have h5:=hi.2
 rw [List.take_length] at h5
 have hfit:∀ r∈l,rowE s r = 0:=fun r hr=>by
  have:=List.any_eq_false.1 h5 r hr
  simpa using this
 have hok:=jb h
 have hnc:=hok.nc
 have hP:∀ r∈l,bidP r:=fun r hr=>⟨jx (hfit r hr),zx2 (hfit r hr)⟩
 have hEv:newE s l = if dupB l = true then 10 else 0:=by rw [newE,if_neg (by rw [h];simp),if_neg (by omega),if_neg (by rw [h5];simp)]
 have hrw:=JD l (by omega) (fun r hr=>by have:=(QH (hfit r hr)).2.1;omega)
 obtain ⟨ys,⟨hp,hso⟩,hS⟩:=ZP bidV bidP yl (fun x y hx hy=>qu0 x y hx hy) l hP h12
 have hso:=hso zI7
 have hpl:=hp.length_eq
 rw [← hpl] at hso
 have hPy:∀ r∈ys,bidP r:=fun r hr=>hP r (hp.mem_iff.1 hr)
 refine C1.im (yc s hok) (by rfl) (by rfl) ?_
 refine sW ?_
 refine C1.fresh 53260 hrw (by rfl) (by apply qt;intro _;exact ⟨rfl,rfl⟩) (by rfl) ?_
 refine sW ?_
 refine C1.upd 53260 1 _ _ hS (by rfl) (by apply qt;intro _;exact ⟨rfl,rfl⟩) (by apply qt;intro _;exact ⟨rfl,rfl⟩) ⟨by simp [ltA,ltC,ltC0,TL.get],ZZ (by rfl)⟩ (by rfl) ?_
 refine sW ?_
 rw [← hpl]
 refine ⟨rfl,?_⟩
 have hdup:dupB l = dupB ys:=by
  unfold dupB
  have:=(hp.map hd).nodup_iff
  by_cases k:(l.map hd).Nodup
  ·rw [decide_eq_true k,decide_eq_true (this.2 k)]
  ·rw [decide_eq_false k,decide_eq_false (fun e=>k (this.1 e))]
 rw [hdup] at hEv
 have hy12:ys.length≤12:=by omega
 refine qy mixm (α:=Nat) [44] (fun i=>i≤ys.length∧∀ j,0 < j→j < i→hd (ys.getD j default)≠hd (ys.getD (j - 1) default)) (fun i=>[(44,vI i)]) (fun i=>[(4100,.arr 5 [srcT src0] false),(53260,.arr 1 (ys.map vIs) false),(53268,.arr 5 [.agg [.sl 2 (s.lists.map cdlT),.sl 7 (s.cols.map colT),.asl 53260 ys.length,.v (.slice none 0 0),vI 0]] false)]) (fun i=>ys.length - i) 0 ⟨by omega,fun j h0 h1=>by omega⟩ ?_ fun i hi=>?_
 ·exact .oA [(4100,some 4100),(53260,some 53260),(53268,some 53268)] []
 obtain ⟨i1,i2⟩:=hi
 refine sD ?_
 refine ⟨fun h2=>?_,fun h2=>?_⟩
 ·have hi2:i < ys.length:=by omega
  have hwi:=qh (i:=i) (by omega)
  obtain ⟨k,hk1,hk2,hk3⟩:∃ k:Nat,(IntKind.i64.wrap ((i:Int) - 1)).toNat = k∧k < ys.length∧(i = 0∧k = 0∨0 < i∧k + 1 = i∧IntKind.i64.wrap ((i:Int) - 1) = k):=by
   rcases Nat.eq_zero_or_pos i with h0 | h0
   ·subst h0
    exact ⟨0,by decide,hi2,.inl ⟨rfl,rfl⟩⟩
   ·have e:=jR h0 (show i < 4611686018427387904 by omega)
    exact ⟨i - 1,by rw [e];omega,by omega,.inr ⟨h0,by omega,e⟩⟩
  have hg:ys.getD i default = ys[i]:=qo hi2
  have hgk:ys.getD k default = ys[k]:=qo hk2
  have hpi:=(hPy _ (List.getElem_mem hi2)).1
  have hpk:=(hPy _ (List.getElem_mem hk2)).1
  have hgi:=zu hpi
  have hgi2:=zu hpk
  simp only [tZ,↓un_u,simprocAttr,Int.toNat_natCast,hk1,qe hi2,qe hk2,hgi,hgi2,tD,gt_iff_lt,beq_iff_eq,beq_eq_false_iff_ne]
  refine ⟨fun _=>by omega,fun _=>by omega,fun _=>by omega,fun _=>by omega,fun _=>by omega,fun _=>by omega,by kernel_rfl,fun h3=>?_,fun h3=>?_⟩
  ·have hD:dupB ys = true:=by
    unfold dupB
    rw [Bool.not_eq_true',decide_eq_false_iff_not]
    intro hn
    have:=List.pairwise_iff_getElem.1 hn k i (by rw [List.length_map];omega) (by rw [List.length_map];omega) (by omega)
    rw [List.getElem_map,List.getElem_map] at this
    exact this h3.2.symm
   rw [if_pos hD] at hEv
   rw [hbad 10 (by decide) hEv,hEv]
   exact .oA [] []
  ·simp only [tZ,↓un_u,simprocAttr,hwi]
   refine ⟨i + 1,⟨by omega,fun j h0 hj=>?_⟩,by omega,?_⟩
   ·by_cases e:j = i
    ·subst e
     rw [hg,show j - 1 = k by omega,hgk]
     exact fun e=>by
      rcases h3 with h3 | h3
      ·omega
      ·exact h3 e
    ·exact i2 j h0 (by omega)
   ·exact .oA [(4100,some 4100),(53260,some 53260),(53268,some 53268)] []
 ·have hil:i = ys.length:=by omega
  subst hil
  have hA:=zI8 hso (fun i h0 hi=>i2 i h0 hi)
  have hnd:(ys.map hd).Nodup:=List.pairwise_map.2 (hA.imp fun h e=>by omega)
  have hD:dupB ys = false:=by unfold dupB;rw [decide_eq_true hnd];rfl
  rw [if_neg (by rw [hD];simp)] at hEv
  have hnl:(l.map hd).Nodup:=(hp.map hd).nodup_iff.1 hnd
  obtain ⟨q1,q2⟩:=zq0 l [] List.Pairwise.nil hnl
  have hy:newL l = ys:=YS q1 hA fun x=>by
   show x∈l.foldl putR []↔x∈ys
   rw [q2,hp.mem_iff]
   simp
  have hNS:newS s l = ⟨s,ys,[],0⟩:=by rw [newS,hEv,if_neg (by simp),hy]
  rw [hEv,hNS]
  exact .oA [] [53260]
end Go.Proofs
namespace Go.Proofs
open Go Go.TL
set_option maxRecDepth 4000
set_option maxHeartbeats 8000000
theorem WZ (s:Sch) (hs:qY0 s) (hc:∀ c∈s.cols,c.widths.length < 4611686018427387904):Spc Tryz.prog Jf [schT s,schT s] [] (vB true) []:=by
 obtain ⟨hs1,hs2,hs3⟩:=hs
 refine qd qr6 mixm (by simp) fun e _ hst=>qj ?_
 unfold Zu
 simp only [tZ,↓un_u,simprocAttr,bne_self_eq_false,Bool.or_false]
 refine qy mixm (α:=Nat) [5] (fun i=>i≤s.lists.length) (fun i=>[(5,vI i)]) (fun i=>[(4096,.arr 2 [schT s] false),(4100,.arr 2 [schT s] false)]) (fun i=>s.lists.length - i) 0 (by omega) ?_ fun i hi=>?_
 ·exact .oA [(4096,some 4096),(4100,some 4100)] []
 refine sD ?_
 refine ⟨fun h2=>?_,fun h2=>?_⟩
 ·have hi2:i < s.lists.length:=by omega
  have hwi:=qh (i:=i) (by omega)
  have hcl:=hs3 _ (List.getElem_mem hi2)
  simp only [tZ,↓un_u,simprocAttr,Int.toNat_natCast,qe hi2,bne_self_eq_false,Bool.or_false]
  refine ⟨by omega,by omega,by omega,by omega,by kernel_rfl,?_⟩
  refine qy mixm (α:=Nat) [6] (fun k=>k≤s.lists[i].codes.length) (fun k=>[(6,vI k)]) (fun k=>[(4096,.arr 2 [schT s] false),(4100,.arr 2 [schT s] false)]) (fun k=>s.lists[i].codes.length - k) 0 (by omega) ?_ fun k hk=>?_
  ·exact .oA [(4096,some 4096),(4100,some 4100)] []
  simp only [tZ,↓un_u,simprocAttr,Int.toNat_natCast,qe hi2,tD]
  refine ⟨by omega,fun h3=>?_,fun h3=>?_⟩
  ·have hk2:k < s.lists[i].codes.length:=by omega
   have hwk:=qh (i:=k) (by omega)
   simp only [tZ,↓un_u,simprocAttr,Int.toNat_natCast,qe hi2,qe hk2,hwk]
   refine ⟨by omega,by omega,by omega,by omega,by kernel_rfl,k + 1,by omega,by omega,?_⟩
   exact .oA [(4096,some 4096),(4100,some 4100)] []
  ·simp only [tZ,↓un_u,simprocAttr,hwi]
   refine ⟨i + 1,by omega,by omega,?_⟩
   exact .oA [(4096,some 4096),(4100,some 4100)] []
 ·have hil:i = s.lists.length:=by omega
  refine qy mixm (α:=Nat) [7] (fun i=>i≤s.cols.length) (fun i=>[(7,vI i)]) (fun i=>[(4096,.arr 2 [schT s] false),(4100,.arr 2 [schT s] false)]) (fun i=>s.cols.length - i) 0 (by omega) ?_ fun i hi=>?_
  ·exact .oA [(4096,some 4096),(4100,some 4100)] []
  refine sD ?_
  refine ⟨fun h2=>?_,fun h2=>?_⟩
  ·have hi2:i < s.cols.length:=by omega
   have hwi:=qh (i:=i) (by omega)
   have hI:=Jx s.cols[i].widths s.cols[i].widths (hc _ (List.getElem_mem hi2))
   rw [qf0.2 rfl] at hI
   simp only [tZ,↓un_u,simprocAttr,Int.toNat_natCast,qe hi2,bne_self_eq_false,Bool.or_false]
   refine ⟨by omega,by omega,by kernel_rfl,?_⟩
   refine C2.im (fun _=>hI) (fun _=>rfl) (by rfl) ?_
   simp only [tZ,↓un_u,simprocAttr,hwi]
   refine ⟨i + 1,by omega,by omega,?_⟩
   exact .oA [(4096,some 4096),(4100,some 4100)] []
  ·exact .oA [] []
theorem SchOk.wdl {s:Sch} (h:SchOk s) {c:Col} (hc:c∈s.cols):c.widths.length≤4:=by
 obtain ⟨i,hi,rfl⟩:=List.getElem_of_mem hc
 have hat:qu s i = s.cols[i]:=by rw [qu,qo hi]
 have hE:=h.cs i hi
 have hEc:=wJ hE
 rw [hat] at hEc
 by_cases k3:s.cols[i].kind = 3
 ·have hm:=hEc.2.2.2.2 k3
  unfold measE at hm
  split at hm
  ·cases hm
  ·split at hm
   ·cases hm
   ·omega
 ·unfold colE at hE
  rw [hat] at hE
  repeat (split at hE;first | (exfalso;revert hE;decide) | (rename_i q;try (exact absurd hE q.2)))
  all_goals omega
structure SmS (s:Src):Prop where
 sch:qY0 s.sch
 wid:∀ c∈s.sch.cols,c.widths.length < 4611686018427387904
 rows:s.rows.length < 4611686018427387904
 row:∀ r∈s.rows,r.length < 4611686018427387904
 gone:s.gone.length < 4611686018427387904
theorem SrcOk.same {s:Src} (h:SrcOk s):SmS s:=⟨(jb h.sch).sm,fun c hc=>by have:=(jb h.sch).wdl hc;omega,by have:=h.nr;omega,h.smy.2,by have:=h.ng;omega⟩
theorem zq2:SmS src0:=⟨⟨by decide,by decide,by simp⟩,by simp,by decide,by simp,by decide⟩
theorem Ya (s:Src) (h:SmS s):Spc Tryz.prog Jd [srcT s,srcT s] [] (vB true) []:=by
 have hR:=qD2 s.rows s.rows h.rows h.row
 rw [qX9.2 rfl] at hR
 have hI:=Jx s.gone s.gone h.gone
 rw [qf0.2 rfl] at hI
 refine qd qq8 mixm (by simp) fun e _ hst=>qj ?_
 unfold Zo
 refine sW ?_
 refine C1.im (WZ s.sch h.sch h.wid) (by rfl) (by rfl) ?_
 refine sW ?_
 refine C2.im (fun _=>hR) (fun _=>rfl) (by rfl) ?_
 refine sW ?_
 refine C2.im (fun _=>hI) (fun _=>rfl) (by rfl) ?_
 simp only [tZ,↓un_u,simprocAttr,beq_self_eq_true]
 exact .oA [] []
def aw4:Sch:=⟨[],[⟨⟨#[119,104,111]⟩,1,0,0,0,[],false⟩]⟩
def aw4x:Src:=⟨aw4,[[3],[7]],[],0⟩
def aw4y:Src:=⟨aw4,[[3]],[7],1⟩
theorem qu1:Spc Tryz.prog Zf [] [] (vB true) []:=by
 have hN:=qE4 aw4 [[7],[3]] (by decide) (by decide) (by simp) (by decide)
 rw [show newS aw4 [[7],[3]] = aw4x by kernel_rfl,show newE aw4 [[7],[3]] = 0 by kernel_rfl] at hN
 have hsx:qJ1 aw4x:=⟨⟨by decide,by decide,by simp [aw4x,aw4]⟩,by simp [aw4x]⟩
 have hsy:qJ1 aw4y:=⟨⟨by decide,by decide,by simp [aw4y,aw4]⟩,by simp [aw4y]⟩
 have hA:=QI aw4x ⟨4,[],7⟩ hsx (by decide) (by unfold idOk;decide)
 rw [show jm aw4x ⟨4,[],7⟩ = aw4y by kernel_rfl,show jw aw4x ⟨4,[],7⟩ = 0 by kernel_rfl] at hA
 have hB:=QI aw4y ⟨1,[7],0⟩ hsy (by decide) (by unfold idOk;decide)
 rw [show jm aw4y ⟨1,[7],0⟩ = src0 by kernel_rfl,show jw aw4y ⟨1,[7],0⟩ = 20 by kernel_rfl] at hB
 have hV:=Ki aw4x (by decide) (by decide) (by simp [aw4x])
 rw [show srcB aw4x = true by kernel_rfl] at hV
 have hF:=Wv aw4y 7 (by decide)
 rw [show QW aw4y 7 = -1 by kernel_rfl] at hF
 have hG:=Wv aw4y 3 (by decide)
 rw [show QW aw4y 3 = 0 by kernel_rfl] at hG
 refine qd qh3 mixm (by simp) fun e _ hst=>qj ?_
 unfold Qr
 refine sW ?_
 refine C1.shutD [8196,12292,12296,12300] hN ?_ (by rfl) rfl ?_
 ·simp [ptw,ltAD,ltD,TL.get,T.cells,imT,imL,aw4]
  all_goals (try (repeat' apply And.intro))
  all_goals (try rfl)
 refine sW ?_
 refine C1.shut [] hA ?_ (by rfl) rfl ?_
 ·all_goals (try exact clA)
 refine sW ?_
 refine C1.shutD [20484] hB ?_ (by rfl) rfl ?_
 ·simp [ptw,ltAD,ltD,TL.get,T.cells,imT,imL,aw4y]
  all_goals (try (repeat' apply And.intro))
  all_goals (try rfl)
 refine sW ?_
 refine C2.im (fun _=>hV) (fun _=>rfl) (by rfl) ?_
 refine sW ?_
 refine C2.im (fun _=>hF) (fun _=>rfl) (by rfl) ?_
 refine sW ?_
 refine C2.im (fun _=>hG) (fun _=>rfl) (by rfl) ?_
 refine sW ?_
 rw [show (((aw4x.rows.length:Nat):Int) == 2 && aw4y.ver == 1) = true by rfl]
 exact .oA [] []
end Go.Proofs
namespace Go.Proofs
open Go Go.TL
theorem zm (l:List UInt8) (at_:Nat) (lo hi:Int) (hl:l.length≤400) (ha:at_≤l.length) (hlo : -1000000≤lo∧lo≤1000000) (hhi:lo≤hi∧hi≤lo + 100000) :
 Spc Tryz.prog qA [.ptr 0 1 0 0,vI lo,vI hi] [(0,oC l at_)] (vI (lo + (nx l at_ (hi - lo + 1)).1)) [(0,oC l (nx l at_ (hi - lo + 1)).2)]:=by
 refine qd Ku mixm (by simp) fun e _ hst=>qj ?_
 unfold kg
 have hw1:IntKind.i64.wrap (hi - lo) = hi - lo:=IntWalk.i64_in _ (by omega)
 have hw2:IntKind.i64.wrap (hi - lo + 1) = hi - lo + 1:=IntWalk.i64_in _ (by omega)
 simp only [tZ,↓un_u,simprocAttr,hw1,hw2]
 refine C1.draw 0 l at_ _ (zx l at_ (hi - lo + 1) hl ha (by omega)) rfl rfl rfl ?_
 have hr:=jS l at_ (hi - lo + 1) (by omega)
 have hw3:IntKind.i64.wrap (lo + (nx l at_ (hi - lo + 1)).1) = lo + (nx l at_ (hi - lo + 1)).1:=IntWalk.i64_in _ (by omega)
 simp only [tZ,↓un_u,simprocAttr,hw3]
 refine .of [(0,some 0)] [] rfl rfl ?_ ?_
 ·simp only [tL,simprocAttr]
  exact qD ⟨rfl,rfl,rfl,rfl,trivial⟩ qT
 ·simp only [tL,simprocAttr]
end Go.Proofs
namespace Go.Proofs
open Go Go.TL
set_option maxRecDepth 4000
def iter {α:Type} (f:α→α):Nat→α→α
 | 0,x=>x
 | n + 1,x=>f (iter f n x)
def cut (n:Int):Int×Int:=(n / 1024,n % 1024)
end Go.Proofs
namespace Go.Proofs
open Go Go.TL
set_option maxHeartbeats 4000000
open So
def drw0 (seed id:Int):Int:=IntKind.u64.wrap (IntKind.u64.wrap (IntKind.u64.wrap (IntKind.u64.wrap seed * 2654435761) + IntKind.u64.wrap (IntKind.u64.wrap id * 40503)) + 97)
def drwA (h:Int):Int:=IntKind.u64.wrap (IntKind.u64.wrap (h * 6364136223846793005) + 1442695040888963407)
def drwX (h:Int):Int:=xorI .u64 (drwA h) (shrI .u64 (drwA h) 29)
def drwI (seed id:Int):Int:=IntKind.i64.wrap (shrI .u64 (iter drwX 3 (drw0 seed id)) 32)
def inS (x:Smp) (id:Int):Bool:=(smpE x == 0) && decide (1≤id) && decide (id≤1048575) && decide ((drwI x.seed id).tmod x.of < x.part)
def ownP (s:Src) (d:Dcl) (r:List Int):Bool:=(zQ4 s.sch d.coh r == 1) && inS d.smp (hd r)
def ownR (s:Src) (d:Dcl):List (List Int):=if srcB s = false∨dclE s.sch d≠0 then [] else s.rows.filter (ownP s d)
def ownS (s:Src) (d:Dcl):List Int:=(ownR s d).map hd
end Go.Proofs
namespace Go.Proofs
open Go Go.TL
set_option maxHeartbeats 4000000
def buildE (s:Src) (d:Dcl) (l:List Pk) (k:Int):Int:=if srcB s = false then 13 else if zN9 s.sch d l≠0 then zN9 s.sch d l else if k < 0∨k≥1152921504606846976 then 2 else 0
end Go.Proofs
namespace Go.Proofs
open Go Go.TL
set_option maxRecDepth 4000
set_option maxHeartbeats 4000000
def d36:ByteArray:=⟨#[48,49,50,51,52,53,54,55,56,57,97,98,99,100,101,102,103,104,105,106,107,108,109,110,111,112,113,114,115,116,117,118,119,120,121,122]⟩
theorem qn8 {a b:ByteArray} (h:a.data.toList = b.data.toList):a = b:=by
 cases a;cases b
 exact congrArg ByteArray.mk (Array.ext' h)
def dgS (n:Nat):ByteArray:=⟨#[dgt n]⟩
theorem zO8 (n:Nat) (h:n < 10):d36.extract n (n + 1) = dgS n:=by
 have:((List.range 10).all fun n=>(d36.extract n (n + 1)).data.toList == (dgS n).data.toList) = true:=by decide +kernel
 exact qn8 (eq_of_beq (List.all_eq_true.1 this n (List.mem_range.2 h)))
theorem qU2 (c:UInt8) (n:Nat):(⟨#[c]⟩:ByteArray) ++ dgS n = ⟨#[c,dgt n]⟩:=by
 apply qn8
 rw [ByteArray.toList_data_append]
 rfl
theorem zI9 (n:Nat) (h:n < 10):Spc Tryz.prog zQ [vI n] [] (vS (dgS n)) []:=by
 have h1:=qh (i:=n) (by omega)
 have z1:d36.size = 36:=rfl
 refine qd QF mixm (by simp) fun e _ hst=>qj ?_
 unfold zN
 simp only [tZ,↓un_u,simprocAttr,tD,h1,Int.toNat_natCast]
 refine ⟨fun h2=>?_,fun h2=>by omega⟩
 refine ⟨?_,?_⟩
 ·show (0≤(n:Int)∧(n:Int)≤((n + 1:Nat):Int)∧((n + 1:Nat):Int)≤(d36.size:Int))
  omega
 ·show yY [] (vS (d36.extract n (n + 1))) [] (vS (dgS n)) []
  rw [zO8 n (by omega)]
  exact .oA [] []
theorem qU3 (n:Nat) (h:n < 10):Spc Tryz.prog jO [vI n] [] (vS (dgS n)) []:=by
 have h1:Spc Tryz.prog zr [vI n,vI 10] [] (vS (dgS n)) []:=by
  have e1:decide (0≤(n:Int)) = true:=decide_eq_true (by omega)
  have e2:decide ((n:Int) < 100) = true:=decide_eq_true (by omega)
  refine qd ya mixm (by simp) fun e _ hst=>qj ?_
  unfold zp
  simp only [tZ,↓un_u,simprocAttr,beq_self_eq_true,e1,e2,Bool.true_and]
  refine C1.im (zI9 n h) (by rfl) (by rfl) ?_
  refine sW ?_
  exact .oA [] []
 have h2:Spc Tryz.prog zV [vI n] [] (vS (dgS n)) []:=by
  refine qd QR mixm (by simp) fun e _ hst=>qj ?_
  unfold zS
  refine sW ?_
  refine C1.im h1 (by rfl) (by rfl) ?_
  refine sW ?_
  exact .oA [] []
 refine qd qd6 mixm (by simp) fun e _ hst=>qj ?_
 unfold yN
 refine sW ?_
 refine C1.im h2 (by rfl) (by rfl) ?_
 refine sW ?_
 exact .oA [] []
def oneB (l:List UInt8) (a:Nat) (n:Int):Bool:=(nx l a n).1 == n - 1
theorem jX (l:List UInt8) (a:Nat) (n:Int) (hl:l.length≤400) (ha:a≤l.length) (hn:0≤n∧n≤1000000):Spc Tryz.prog zb [.ptr 0 1 0 0,vI n] [(0,oC l a)] (vB (oneB l a n)) [(0,oC l (nx l a n).2)]:=by
 have hw:IntKind.i64.wrap (n - 1) = n - 1:=IntWalk.i64_in _ (by omega)
 refine qd WQ mixm (by simp) fun e _ hst=>qj ?_
 unfold wi
 refine sW ?_
 refine C1.draw 0 l a _ (zx l a n hl ha hn.2) rfl rfl rfl ?_
 simp only [tZ,↓un_u,simprocAttr,hw]
 rw [show ((nx l a n).1 == n - 1) = oneB l a n from rfl]
 exact .oA [(0,some 0)] []
theorem zq3 (l:List UInt8) (a:Nat) (n:Int) (hl:l.length≤400) (ha:a≤l.length) (hn:1≤n∧n≤1000000) :
 ∃ v b,0≤v∧v < n∧b≤l.length∧Spc Tryz.prog qE [.ptr 0 1 0 0,vI n] [(0,oC l a)] (vI v) [(0,oC l b)]:=
 ⟨_,_,(jS l a n hn.1).1,(jS l a n hn.1).2,Wd l a n ha,zx l a n hl ha hn.2⟩
theorem qu2 (l:List UInt8) (a:Nat) (lo hi:Int) (hl:l.length≤400) (ha:a≤l.length) (hlo : -1000000≤lo∧lo≤1000000) (hhi:lo≤hi∧hi≤lo + 100000) :
 ∃ v b,lo≤v∧v≤hi∧b≤l.length∧Spc Tryz.prog qA [.ptr 0 1 0 0,vI lo,vI hi] [(0,oC l a)] (vI v) [(0,oC l b)]:=by
 have r:=jS l a (hi - lo + 1) (by omega)
 exact ⟨_,_,by omega,by omega,Wd l a (hi - lo + 1) ha,zm l a lo hi hl ha hlo hhi⟩
theorem zO9 (l:List UInt8) (a:Nat) (n:Int) (hl:l.length≤400) (ha:a≤l.length) (hn:0≤n∧n≤1000000) :
 ∃ o b,b≤l.length∧Spc Tryz.prog zb [.ptr 0 1 0 0,vI n] [(0,oC l a)] (vB o) [(0,oC l b)]:=
 ⟨_,_,Wd l a n ha,jX l a n hl ha hn⟩
theorem zJ0 (m:Nat) (h:m < 4):wTab.getD m []∈wTab:=by rw [qo (by exact h)];exact List.getElem_mem _
theorem ye (n:Nat) (l:List UInt8) (a:Nat) (hl:l.length≤400) (ha:a≤l.length) :
 ∃ r:Col×Nat,(DrM n r.1∧r.2≤l.length)∧Spc Tryz.prog jE [.ptr 0 1 0 0,vS ⟨#[109,dgt n]⟩] [(0,oC l a)] (colT r.1) [(0,oC l r.2)]:=by
 have h1:=zm l a (-4) 2 hl ha (by omega) (by omega)
 have r1:=jS l a (2 - -4 + 1) (by omega)
 have b1:=Wd l a (2 - -4 + 1) ha
 generalize nx l a (2 - -4 + 1) = x1 at h1 r1 b1
 have h2:=zx l x1.2 4 hl b1 (by omega)
 have r2:=jS l x1.2 4 (by omega)
 have b2:=Wd l x1.2 4 b1
 generalize nx l x1.2 4 = x2 at h2 r2 b2
 have h3:=jX l x2.2 3 hl b2 (by omega)
 have b3:=Wd l x2.2 3 b2
 generalize (nx l x2.2 3).2 = a3 at h3 b3
 generalize oneB l x2.2 3 = o at h3
 have h4:=zx l a3 45 hl b3 (by omega)
 have r4:=jS l a3 45 (by omega)
 have b4:=Wd l a3 45 b3
 generalize nx l a3 45 = x4 at h4 r4 b4
 refine ⟨(⟨⟨#[109,dgt n]⟩,3,0,-4 + x1.1,-4 + x1.1 + x4.1,wTab.getD x2.1.toNat [],o⟩,x4.2),⟨⟨rfl,rfl,rfl,by dsimp only;omega,by dsimp only;omega,zJ0 _ (by omega)⟩,b4⟩,?_⟩
 obtain ⟨m,hm⟩:=Int.eq_ofNat_of_zero_le r2.1
 have hw:IntKind.i64.wrap (-4 + x1.1 + x4.1) = -4 + x1.1 + x4.1:=IntWalk.i64_in _ (by omega)
 refine qd Jp mixm (by simp) fun e _ hst=>qj ?_
 unfold js
 refine sW ?_
 refine C1.draw 0 l a _ h1 rfl rfl rfl ?_
 refine sW ?_
 refine C1.draw 0 l x1.2 _ h2 rfl rfl rfl ?_
 rw [hm] at r2 ⊢
 rw [Int.toNat_natCast]
 have hm4:m = 0∨m = 1∨m = 2∨m = 3:=by omega
 have k0:wTab.getD 0 [] = [1]:=rfl
 have k1:wTab.getD 1 [] = [1,5]:=rfl
 have k2:wTab.getD 2 [] = [1,5,20]:=rfl
 have k3:wTab.getD 3 [] = [1,2,4,12]:=rfl
 rcases hm4 with e | e | e | e
 all_goals (
  subst e
  simp only [tZ,↓un_u,simprocAttr,Int.toNat_natCast,k0,k1,k2,k3]
  repeat (refine ⟨by omega,?_⟩)
  refine C1.draw 0 l x2.2 _ h3 rfl rfl rfl ?_
  refine sW ?_
  refine ⟨by kernel_rfl,?_⟩
  refine C1.draw 0 l a3 _ h4 rfl rfl rfl ?_
  simp only [tZ,↓un_u,simprocAttr,hw]
  refine ⟨by kernel_rfl,?_⟩
  )
 ·exact .oA [(0,some 0)] [8204]
 ·exact .oA [(0,some 0)] [8208]
 ·exact .oA [(0,some 0)] [8212]
 ·exact .oA [(0,some 0)] [8216]
def addN (i:Nat):Nat→List Cod→List Cod
 | 0,cs=>cs
 | k + 1,cs=>addN i k (addL cs i)
theorem qg6 (i:Nat):∀ (k:Nat) (cs:List Cod),(List.range k).foldl (fun cs _=>addL cs i) cs = addN i k cs:=by
 have key:∀ (m:List Nat) (cs:List Cod),m.foldl (fun cs _=>addL cs i) cs = addN i m.length cs:=by
  intro m
  induction m with
  | nil=>intro cs;rfl
  | cons x m ih=>intro cs;rw [List.foldl_cons,ih];rfl
 intro k cs
 rw [key,List.length_range]
theorem qE5:∀ (ns:List Nat) (cs:List Cod) (i n:Nat),lefL cs i (ns ++ [n]) = addN (i + ns.length) n (lefL cs i ns)
 | [],cs,i,n=>by rw [List.nil_append,lefL,lefL,qg6];rfl
 | x :: r,cs,i,n=>by rw [List.cons_append,lefL,lefL,qE5 r _ (i + 1) n,List.length_cons,show i + 1 + r.length = i + (r.length + 1) by omega]
theorem qU4 (i:Nat):∀ (k:Nat) (cs:List Cod),(addN i k cs).length = cs.length + k
 | 0,cs=>rfl
 | k + 1,cs=>by rw [addN,qU4 i k,addL,List.length_append];simp;omega
theorem qU5:∀ (ns:List Nat) (cs:List Cod) (i:Nat),(∀ x∈ns,x = 1∨x = 2)→cs.length + ns.length≤(lefL cs i ns).length∧(lefL cs i ns).length≤cs.length + 2 * ns.length
 | [],cs,i,_=>by rw [lefL];simp
 | x :: r,cs,i,h=>by
   have h1:=qU5 r ((List.range x).foldl (fun cs _=>addL cs i) cs) (i + 1) fun y hy=>h y (List.mem_cons_of_mem _ hy)
   rw [qg6,qU4] at h1
   rw [lefL,qg6,List.length_cons]
   have:=h x (by simp)
   omega
theorem QX (nm:ByteArray) (hnm:nm = qD5∨nm = qD6) (l:List UInt8) (a:Nat) (hl:l.length≤400) (ha:a≤l.length) :
 ∃ r:CodL×Nat,(DrL nm r.1∧r.2≤l.length)∧Spc Tryz.prog jA [.ptr 0 1 0 0,vS nm] [(0,oC l a)] (cdlT r.1) [(0,oC l r.2)]:=by
 have h1:=zm l a 1 3 hl ha (by omega) (by omega)
 have r1:=jS l a (3 - 1 + 1) (by omega)
 have b1:=Wd l a (3 - 1 + 1) ha
 generalize nx l a (3 - 1 + 1) = x1 at h1 r1 b1
 obtain ⟨K,hK⟩:=Int.eq_ofNat_of_zero_le (show 0≤1 + x1.1 by omega)
 rw [hK] at h1
 have hK3:1≤K∧K≤3:=by omega
 refine wB Wk mixm (fun r:CodL×Nat=>cdlT r.1) (fun r=>[(0,oC l r.2)]) (by simp) ?_
 unfold kV
 refine sW ?_
 refine XE.mp (fun _ _=>C1.draw 0 l a _ h1 rfl rfl rfl) ?_
 refine sW ?_
 have hk0:(ZO 0).map codT = [.agg [vS ⟨#[116,111,112]⟩,vI (-1)]]:=rfl
 have hkl:∀ i,(ZO i).length = i + 1:=fun i=>by simp [ZO]
 have hks:∀ i,ZO (i + 1) = ZO i ++ [kidC i]:=fun i=>by rw [ZO,List.range_succ,List.map_append];rfl
 refine XE.loopF mixm [7] (fun i:Nat=>i≤K) (fun i=>[(7,vI i)]) (fun i=>[(0,oC l x1.2),(4096,.arr 2 [cdlT default] false),(8200,.arr 2 ((ZO i).map codT) false),(8208,.arr 2 [.agg [vS nm,.asl 8200 (i + 1)]] false)]) (fun i=>K - i) 0 (by omega) (fun e ⟨_,hst⟩=>?_) fun T' i hi ih=>?_
 ·simp only [hk0]
  exact .oA [(0,some 0),(4096,some 4096),(8200,some 8200),(8208,some 8208)] []
 simp only [tZ,↓un_u,simprocAttr,decide_eq_true_eq,decide_eq_false_iff_not]
 refine XE.brN (fun h=>?_) (fun h=>?_)
 ·have hwi:=qh (i:=i) (by omega)
  refine XE.mp (fun _ _=>C1.im (qU3 i (by omega)) (by rfl) (by rfl)) ?_
  simp only [tZ,↓un_u,simprocAttr,hwi]
  refine XE.sd (show 1 + 1≤9223372036854775807 by omega) (XE.sd ⟨hkl i,by omega⟩ (XE.sd (hkl i) (XE.sd (by kernel_rfl) ?_)))
  refine XE.next ih (i + 1) (by omega) (by omega) fun e ⟨_,hst⟩=>?_
  rw [qU2,hks]
  exact .oA [(0,some 0),(4096,some 4096),(8200,some 8200),(8208,some 8208)] []
 ·have hiK:i = K:=by omega
  subst hiK
  have h2:=jX l x1.2 2 hl b1 (by omega)
  have b2:=Wd l x1.2 2 b1
  generalize (nx l x1.2 2).2 = a2 at h2 b2
  generalize oneB l x1.2 2 = o at h2
  refine XE.mp (fun _ _=>C1.draw 0 l x1.2 _ h2 rfl rfl rfl) ?_
  refine sW ?_
  refine XE.brB (fun h3=>?_) (fun h3=>?_)
  ·refine XE.fin (⟨nm,ZO i⟩,a2) ⟨⟨rfl,(zn8 hnm hK3).1,by rw [hkl];omega⟩,b2⟩ fun e ⟨_,hst⟩=>?_
   have hkli:=hkl i
   refine ⟨hkl i,?_⟩
   exact .oA [(0,some 0)] [8200]
  ·refine XE.loopF mixm [8] (fun y:List Nat×Nat=>y.1.length≤i∧(∀ x∈y.1,x = 1∨x = 2)∧y.2≤l.length) (fun y=>[(8,vI y.1.length)]) (fun y=>[(0,oC l y.2),(4096,.arr 2 [cdlT default] false),(8200,.arr 2 ((lefL (ZO i) 0 y.1).map codT) false),(8208,.arr 2 [.agg [vS nm,.asl 8200 (lefL (ZO i) 0 y.1).length]] false)]) (fun y=>i - y.1.length) ([],a2) ⟨by simp,by simp,b2⟩ (fun e ⟨_,hst⟩=>?_) fun T2 y hy ih2=>?_
   ·have hkli:=hkl i
    simp only [lefL]
    refine .of [(0,some 0),(4096,some 4096),(8200,some 8200),(8208,some 8208)] [] rfl (by first | rfl | (rw [hst];rfl)) ?_ ?_
    all_goals (try simp only [tL,simprocAttr,List.map_append,List.map_cons,List.map_nil,List.cons_append,List.nil_append,hkl])
    all_goals (try (repeat' (first | exact qT | (apply zh;intro _;exact ⟨rfl,rfl⟩) | (apply qt;intro _;exact ⟨rfl,rfl⟩) | with_reducible apply qS | with_reducible refine qW ⟨rfl,rfl⟩ ?_ | exact zi | with_reducible apply qJ | with_reducible refine qD ⟨rfl,rfl,?_⟩ ?_ | with_reducible apply And.intro | exact qK rfl | exact qK (by assumption) | (refine ⟨⟨?_,rfl,?_,rfl,?_⟩,trivial⟩ <;> first | (simp;done) | (apply qt;intro _;exact ⟨rfl,rfl⟩)) | trivial | rfl | (rw [qh (by omega)]) | omega)))
   obtain ⟨ns,a3⟩:=y
   obtain ⟨y1,y2,y3⟩:=hy
   dsimp only at y1 y2 y3
   have hll:=qU5 ns (ZO i) 0 y2
   rw [hkl] at hll
   simp only [tZ,↓un_u,simprocAttr,decide_eq_true_eq,decide_eq_false_iff_not]
   refine XE.brN (fun h4=>?_) (fun h4=>?_)
   ·have h5:=zm l a3 1 2 hl y3 (by omega) (by omega)
    have r5:=jS l a3 (2 - 1 + 1) (by omega)
    have b5:=Wd l a3 (2 - 1 + 1) y3
    generalize nx l a3 (2 - 1 + 1) = x5 at h5 r5 b5
    obtain ⟨M,hM⟩:=Int.eq_ofNat_of_zero_le (show 0≤1 + x5.1 by omega)
    rw [hM] at h5
    have hsn:=qE5 ns (ZO i) 0 M
    rw [Nat.zero_add] at hsn
    refine XE.mp (fun _ _=>C1.draw 0 l a3 _ h5 rfl rfl rfl) ?_
    refine sW ?_
    generalize lefL (ZO i) 0 ns = cs at hll hsn ⊢
    refine XE.loopF mixm [9] (fun z:Nat×List Cod=>addN ns.length z.1 z.2 = addN ns.length M cs∧z.2.length + z.1 = cs.length + M) (fun z=>[(9,vI z.1)]) (fun z=>[(0,oC l x5.2),(4096,.arr 2 [cdlT default] false),(8200,.arr 2 (z.2.map codT) false),(8208,.arr 2 [.agg [vS nm,.asl 8200 z.2.length]] false)]) (fun z=>z.1) (M,cs) ⟨rfl,rfl⟩ (fun e ⟨_,hst⟩=>?_) fun T3 z hz ih3=>?_
    ·exact .oA [(0,some 0),(4096,some 4096),(8200,some 8200),(8208,some 8208)] []
    obtain ⟨k,ds⟩:=z
    obtain ⟨z1,z2⟩:=hz
    dsimp only at z1 z2
    simp only [tZ,↓un_u,simprocAttr,decide_eq_true_eq,decide_eq_false_iff_not]
    refine XE.brN (fun h6=>?_) (fun h6=>?_)
    ·have hwn:=qh (i:=ns.length) (by omega)
     have hwk:=jR (i:=k) (by omega) (by omega)
     have hw1:IntKind.i64.wrap (1 + (ns.length:Int)) = 1 + (ns.length:Int):=IntWalk.i64_in _ (by omega)
     refine XE.mp (fun _ _=>C1.im (qU3 ds.length (by omega)) (by rfl) (by rfl)) ?_
     simp only [tZ,↓un_u,simprocAttr,hwk,hw1]
     refine XE.sd (show 1 + 1≤9223372036854775807 by omega) (XE.sd (by omega) (XE.sd (by kernel_rfl) ?_))
     refine XE.next ih3 (k - 1,addL ds ns.length) ⟨?_,by dsimp only;rw [addL,List.length_append];simp;omega⟩ (by dsimp only;omega) fun e ⟨_,hst⟩=>?_
     ·dsimp only
      rw [← z1]
      obtain ⟨j,rfl⟩:∃ j,k = j + 1:=⟨k - 1,by omega⟩
      rfl
     ·rw [qU2]
      have e1:addL ds ns.length = ds ++ [⟨⟨#[108,dgt ds.length]⟩,1 + (ns.length:Int)⟩]:=rfl
      rw [e1]
      exact .oA [(0,some 0),(4096,some 4096),(8200,some 8200),(8208,some 8208)] []
    ·have hk0:k = 0:=by omega
     subst hk0
     have hwn:=qh (i:=ns.length) (by omega)
     rw [addN,← hsn] at z1
     simp only [tZ,↓un_u,simprocAttr,hwn]
     refine XE.next ih2 (ns ++ [M],x5.2) ⟨by simp;omega,fun x hx=>?_,b5⟩ (by simp;omega) fun e ⟨_,hst⟩=>?_
     ·rcases List.mem_append.1 hx with hx | hx
      ·exact y2 x hx
      ·rw [List.mem_singleton.1 hx];omega
     ·simp only [z1,List.length_append,List.length_cons,List.length_nil]
      rw [← z1]
      exact .oA [(0,some 0),(4096,some 4096),(8200,some 8200),(8208,some 8208)] []
   ·have hni:ns.length = i:=by omega
    have hok:=(zn8 hnm hK3).2 ns hni y2
    refine XE.fin (⟨nm,lefL (ZO i) 0 ns⟩,a3) ⟨⟨rfl,hok,by dsimp only;omega⟩,y3⟩ fun e ⟨_,hst⟩=>?_
    exact .oA [(0,some 0)] [8200]
end Go.Proofs
namespace Go.Proofs
open Go Go.TL
set_option maxRecDepth 4000
set_option maxHeartbeats 4000000
theorem KJ (l:List UInt8) (a:Nat) (hl:l.length≤400) (ha:a≤l.length) :
 ∃ r:Sch×Nat,(DrS r.1∧r.2≤l.length)∧Spc Tryz.prog jZ [.ptr 0 1 0 0] [(0,oC l a)] (schT r.1) [(0,oC l r.2)]:=by
 obtain ⟨⟨A,a1⟩,⟨dA,ha1⟩,sA⟩:=QX qD5 (.inl rfl) l a hl ha
 obtain ⟨⟨B,a2⟩,⟨dB,ha2⟩,sB⟩:=QX qD6 (.inr rfl) l a1 hl ha1
 dsimp only at dA ha1 sA dB ha2 sB
 have h1:=jX l a2 2 hl ha2 (by omega)
 have b1:=Wd l a2 2 ha2
 generalize (nx l a2 2).2 = a3 at h1 b1
 generalize oneB l a2 2 = o at h1
 have h2:=zm l a3 1 3 hl b1 (by omega) (by omega)
 have r2:=jS l a3 (3 - 1 + 1) (by omega)
 have b2:=Wd l a3 (3 - 1 + 1) b1
 generalize nx l a3 (3 - 1 + 1) = x2 at h2 r2 b2
 obtain ⟨N,hN⟩:=Int.eq_ofNat_of_zero_le (show 0≤1 + x2.1 by omega)
 rw [hN] at h2
 refine wB JS mixm (fun r:Sch×Nat=>schT r.1) (fun r=>[(0,oC l r.2)]) (by simp) ?_
 unfold jK
 refine sW ?_
 refine XE.mp (fun _ _=>C1.draw 0 l a _ sA rfl rfl rfl) ?_
 refine sW ?_
 refine XE.mp (fun _ _=>C1.draw 0 l a1 _ sB rfl rfl rfl) ?_
 refine sW ?_
 refine XE.mp (fun _ _=>C1.draw 0 l a2 _ h1 rfl rfl rfl) ?_
 refine sW ?_
 refine XE.brB (fun ho=>?_) (fun ho=>?_)
 ·refine XE.mp (fun _ _=>C1.draw 0 l a3 _ h2 rfl rfl rfl) ?_
  refine sW ?_
  refine XE.loopF mixm [4,15] (fun y:List Col×Nat=>y.1.length≤N∧(∀ i (h:i < y.1.length),DrM (3 + i) y.1[i])∧y.2≤l.length) (fun y=>[(4,vI ((N - y.1.length:Nat):Int))]) (fun y=>[(0,oC l y.2),(4096,.arr 2 [schT default] false),(8208,.arr 2 [cdlT A,cdlT B] false),(8220,.arr 7 (([whoC,sexC,jobC] ++ y.1).map colT) false),(8228,.arr 2 [.agg [.asl 8208 2,.asl 8220 (3 + y.1.length)]] false)]) (fun y=>N - y.1.length) ([],x2.2) ⟨by simp,fun i h=>by simp at h,b2⟩ (fun e ⟨_,hst⟩=>?_) fun T' y hy ih=>?_
  ·show Le _ _ ⟨[(4,vI N),(0,_),(2,_),(3,_)],[(0,oC l x2.2),(4096,.arr 2 [schT default] false),(8208,.arr 2 [cdlT A,cdlT B] false),(8220,.arr 7 [colT whoC,colT sexC,colT jobC] false),(8228,.arr 2 [.agg [.asl 8208 2,.asl 8220 3]] false)]⟩
   exact .oA [(0,some 0),(4096,some 4096),(8208,some 8208),(8220,some 8220),(8228,some 8228)] []
  obtain ⟨ms,a4⟩:=y
  obtain ⟨y1,y2,y3⟩:=hy
  dsimp only at y1 y2 y3
  simp only [tZ,↓un_u,simprocAttr,decide_eq_true_eq,decide_eq_false_iff_not]
  refine XE.brN (fun h4=>?_) (fun h4=>?_)
  ·have hlt:ms.length < N:=by omega
   have hI:=qU3 (3 + ms.length) (by omega)
   obtain ⟨⟨M,a5⟩,⟨dM,ha5⟩,sM⟩:=ye (3 + ms.length) l a4 hl y3
   dsimp only at dM ha5 sM
   have hwk:=jR (i:=N - ms.length) (by omega) (by omega)
   refine XE.sd (by omega) ?_
   refine XE.mp (fun _ _=>C1.im hI (by rfl) (by rfl)) ?_
   simp only [tZ,↓un_u,simprocAttr,qU2]
   refine XE.sd (show 1 + 1≤9223372036854775807 by omega) ?_
   refine XE.mp (fun _ _=>C1.draw 0 l a4 _ sM rfl rfl rfl) ?_
   simp only [tZ,↓un_u,simprocAttr,hwk]
   refine XE.sd (by omega) (XE.sd (by omega) (XE.sd (by kernel_rfl) ?_))
   refine XE.next ih (ms ++ [M],a5) ⟨by simp;omega,fun i h=>?_,ha5⟩ (by simp;omega) fun e ⟨_,hst⟩=>?_
   ·dsimp only at h ⊢
    by_cases hi:i < ms.length
    ·rw [List.getElem_append_left hi]
     exact y2 i hi
    ·have he:i = ms.length:=by rw [List.length_append] at h;simp at h;omega
     subst he
     rw [List.getElem_append_right (Nat.le_refl _)]
     simpa using dM
   ·have e1:N - (ms ++ [M]).length = N - ms.length - 1:=by rw [List.length_append];simp;omega
    simp only [e1]
    exact .oA [(0,some 0),(4096,some 4096),(8208,some 8208),(8220,some 8220),(8228,some 8228)] []
  ·have hnl:ms.length = N:=by omega
   refine XE.fin (⟨[A,B],[whoC,sexC,jobC] ++ ms⟩,a4) ⟨⟨⟨A,B,rfl,dA,dB⟩,⟨ms,.inr ⟨rfl,y2⟩,by omega,by omega⟩⟩,y3⟩ fun e ⟨_,hst⟩=>?_
   refine ⟨by omega,?_⟩
   exact .oA [(0,some 0)] [8208,8220]
 ·refine XE.mp (fun _ _=>C1.draw 0 l a3 _ h2 rfl rfl rfl) ?_
  refine sW ?_
  refine XE.loopF mixm [4,15] (fun y:List Col×Nat=>y.1.length≤N∧(∀ i (h:i < y.1.length),DrM (2 + i) y.1[i])∧y.2≤l.length) (fun y=>[(4,vI ((N - y.1.length:Nat):Int))]) (fun y=>[(0,oC l y.2),(4096,.arr 2 [schT default] false),(8208,.arr 2 [cdlT A,cdlT B] false),(8220,.arr 7 (([whoC,sexC] ++ y.1).map colT) false),(8228,.arr 2 [.agg [.asl 8208 2,.asl 8220 (2 + y.1.length)]] false)]) (fun y=>N - y.1.length) ([],x2.2) ⟨by simp,fun i h=>by simp at h,b2⟩ (fun e ⟨_,hst⟩=>?_) fun T' y hy ih=>?_
  ·show Le _ _ ⟨[(4,vI N),(0,_),(2,_),(3,_)],[(0,oC l x2.2),(4096,.arr 2 [schT default] false),(8208,.arr 2 [cdlT A,cdlT B] false),(8220,.arr 7 [colT whoC,colT sexC] false),(8228,.arr 2 [.agg [.asl 8208 2,.asl 8220 2]] false)]⟩
   exact .oA [(0,some 0),(4096,some 4096),(8208,some 8208),(8220,some 8220),(8228,some 8228)] []
  obtain ⟨ms,a4⟩:=y
  obtain ⟨y1,y2,y3⟩:=hy
  dsimp only at y1 y2 y3
  simp only [tZ,↓un_u,simprocAttr,decide_eq_true_eq,decide_eq_false_iff_not]
  refine XE.brN (fun h4=>?_) (fun h4=>?_)
  ·have hlt:ms.length < N:=by omega
   have hI:=qU3 (2 + ms.length) (by omega)
   obtain ⟨⟨M,a5⟩,⟨dM,ha5⟩,sM⟩:=ye (2 + ms.length) l a4 hl y3
   dsimp only at dM ha5 sM
   have hwk:=jR (i:=N - ms.length) (by omega) (by omega)
   refine XE.sd (by omega) ?_
   refine XE.mp (fun _ _=>C1.im hI (by rfl) (by rfl)) ?_
   simp only [tZ,↓un_u,simprocAttr,qU2]
   refine XE.sd (show 1 + 1≤9223372036854775807 by omega) ?_
   refine XE.mp (fun _ _=>C1.draw 0 l a4 _ sM rfl rfl rfl) ?_
   simp only [tZ,↓un_u,simprocAttr,hwk]
   refine XE.sd (by omega) (XE.sd (by omega) (XE.sd (by kernel_rfl) ?_))
   refine XE.next ih (ms ++ [M],a5) ⟨by simp;omega,fun i h=>?_,ha5⟩ (by simp;omega) fun e ⟨_,hst⟩=>?_
   ·dsimp only at h ⊢
    by_cases hi:i < ms.length
    ·rw [List.getElem_append_left hi]
     exact y2 i hi
    ·have he:i = ms.length:=by rw [List.length_append] at h;simp at h;omega
     subst he
     rw [List.getElem_append_right (Nat.le_refl _)]
     simpa using dM
   ·have e1:N - (ms ++ [M]).length = N - ms.length - 1:=by rw [List.length_append];simp;omega
    simp only [e1]
    exact .oA [(0,some 0),(4096,some 4096),(8208,some 8208),(8220,some 8220),(8228,some 8228)] []
  ·have hnl:ms.length = N:=by omega
   refine XE.fin (⟨[A,B],[whoC,sexC] ++ ms⟩,a4) ⟨⟨⟨A,B,rfl,dA,dB⟩,⟨ms,.inl ⟨rfl,y2⟩,by omega,by omega⟩⟩,y3⟩ fun e ⟨_,hst⟩=>?_
   refine ⟨by omega,?_⟩
   exact .oA [(0,some 0)] [8208,8220]
end Go.Proofs
namespace Go.Proofs
open Go Go.TL
set_option maxRecDepth 4000
set_option maxHeartbeats 4000000
theorem DrS.col {s:Sch} (h:DrS s) {i:Nat} (hi:i < s.cols.length) (hk:(qu s i).kind = 3):∃ n,DrM n (qu s i):=by
 obtain ⟨ms,hc,h1,h3⟩:=h.cs
 have key:∀ (pre:List Col) (n:Nat),(∀ c∈pre,c.kind≠3)→s.cols = pre ++ ms→(∀ j (hj:j < ms.length),DrM (n + j) ms[j])→∃ n,DrM n (qu s i):=by
  intro pre n hp he hm
  rw [qu,qo hi] at hk ⊢
  by_cases c:i < pre.length
  ·have e:s.cols[i] = pre[i]:=by simp only [he];exact List.getElem_append_left c
   rw [e] at hk
   exact absurd hk (hp _ (List.getElem_mem c))
  ·have hl:i - pre.length < ms.length:=by rw [he,List.length_append] at hi;omega
   have e:s.cols[i] = ms[i - pre.length]:=by simp only [he];exact List.getElem_append_right (by omega)
   rw [e]
   exact ⟨_,hm _ hl⟩
 rcases hc with ⟨hc,hm⟩ | ⟨hc,hm⟩
 ·exact key [whoC,sexC] 2 (by simp [whoC,sexC]) (by rw [hc];rfl) hm
 ·exact key [whoC,sexC,jobC] 3 (by simp [whoC,sexC,jobC]) (by rw [hc];rfl) hm
theorem DrS.nl {s:Sch} (h:DrS s):s.lists.length = 2:=by
 obtain ⟨a,b,e,_⟩:=h.ls
 rw [e];rfl
theorem KK (s:Sch) (hd:DrS s) (i:Nat) (hi:i < s.cols.length) (l:List UInt8) (a:Nat) (hl:l.length≤400) (ha:a≤l.length) :
 ∃ r:Int×Nat,(jP s i r.1 = true∧(i = 0→r.1≤60)∧r.2≤l.length)∧Spc Tryz.prog kO [.ptr 0 1 0 0,schT s,vI i] [(0,oC l a)] (vI r.1) [(0,oC l r.2)]:=by
 have hE:=hd.ok
 have hok:=jb hE
 have hat:qu s i = s.cols[i]:=by rw [qu,qo hi]
 have hk:=wJ (hok.cs i hi)
 have hH:∀ v,jP s i v = if s.cols[i].kind = 1 then inB v 1 1048575
  else if s.cols[i].kind = 2 then inB v 0 ((kD s i).codes.length - 1) && (lvlC (kD s i) v == kZ (kD s i) - 1)
  else (s.cols[i].opt && (v == qf2)) || inB v s.cols[i].low s.cols[i].high:=fun v=>by rw [jP,hat]
 by_cases k1:s.cols[i].kind = 1
 ·have h1:=zm l a 1 60 hl ha (by omega) (by omega)
  have r1:=jS l a (60 - 1 + 1) (by omega)
  have b1:=Wd l a (60 - 1 + 1) ha
  generalize nx l a (60 - 1 + 1) = x1 at h1 r1 b1
  refine ⟨(1 + x1.1,x1.2),⟨by rw [hH,if_pos k1,zo7];dsimp only;omega,fun _=>by dsimp only;omega,b1⟩,?_⟩
  have q:(s.cols[i].kind == 1) = true:=beq_iff_eq.2 k1
  refine qd zC mixm (by simp) fun e _ hst=>qj ?_
  unfold qX
  simp only [tZ,↓un_u,simprocAttr,Int.toNat_natCast,qe hi,q]
  refine ⟨by omega,?_⟩
  refine C1.draw 0 l a _ h1 rfl rfl rfl ?_
  refine sW ?_
  exact .oA [(0,some 0)] []
 have q1:(s.cols[i].kind == 1) = false:=beq_eq_false_iff_ne.2 k1
 have hi0:∀ v:Int,i = 0→v≤60:=fun v e=>by
  subst e
  have:=hok.c0
  rw [hat] at this
  exact absurd this k1
 by_cases k2:s.cols[i].kind = 2
 ·have q2:(s.cols[i].kind == 2) = true:=beq_iff_eq.2 k2
  have hlv:=qk0 s hok i hi (by rw [hat];exact k2)
  have hll:=qY2 hok hi (by rw [hat];exact k2)
  obtain ⟨d1,d2⟩:=hok.cdl hi (by rw [hat];exact k2)
  have hne:0 < (kW s i).length:=zo2 d2
  have hlh:=fun v=>qY1 (s:=s) (i:=i) (by rw [hat];exact k2) d2 (v:=v)
  generalize kW s i = L at hlv hll hne hlh
  have h1:=zx l a L.length hl ha (by omega)
  have r1:=jS l a L.length (by omega)
  have b1:=Wd l a L.length ha
  generalize nx l a L.length = x1 at h1 r1 b1
  obtain ⟨m,hm⟩:=Int.eq_ofNat_of_zero_le r1.1
  have hmL:m < L.length:=by omega
  rw [hm] at h1
  refine ⟨(L[m],x1.2),⟨hlh _ (List.getElem_mem hmL),hi0 _,b1⟩,?_⟩
  refine qd zC mixm (by simp) fun e _ hst=>qj ?_
  unfold qX
  simp only [tZ,↓un_u,simprocAttr,Int.toNat_natCast,qe hi,q1,q2]
  refine ⟨by omega,?_⟩
  refine C1.im hlv (by rfl) (by rfl) ?_
  refine sW ?_
  refine C1.draw 0 l a _ h1 rfl rfl rfl ?_
  simp only [tZ,↓un_u,simprocAttr,Int.toNat_natCast,qe hmL]
  refine ⟨by omega,?_⟩
  exact .oA [(0,some 0)] []
 have q2:(s.cols[i].kind == 2) = false:=beq_eq_false_iff_ne.2 k2
 have k3:s.cols[i].kind = 3:=by rw [hat] at hk;omega
 obtain ⟨n,hM⟩:=hd.col hi (by rw [hat];exact k3)
 rw [hat] at hM
 have hlo:=hM.low
 have hhi:=hM.high
 have hin:∀ v,s.cols[i].low≤v→v≤s.cols[i].high→jP s i v = true:=fun v h1 h2=>by
  rw [hH,if_neg k1,if_neg k2,Bool.or_eq_true,zo7]
  exact .inr ⟨h1,h2⟩
 cases ho:s.cols[i].opt with
 | false=>
   obtain ⟨v,a2,v1,v2,ha2,sR⟩:=qu2 l a s.cols[i].low s.cols[i].high hl ha (by omega) (by omega)
   refine ⟨(v,a2),⟨hin v v1 v2,hi0 _,ha2⟩,?_⟩
   refine qd zC mixm (by simp) fun e _ hst=>qj ?_
   unfold qX
   simp only [tZ,↓un_u,simprocAttr,Int.toNat_natCast,qe hi,q1,q2,ho]
   refine ⟨by omega,?_⟩
   refine C2.no (by simp) ?_
   refine sW ?_
   refine C1.draw 0 l a _ sR rfl rfl rfl ?_
   refine sW ?_
   exact .oA [(0,some 0)] []
 | true=>
   obtain ⟨o,a1,b1,h1⟩:=zO9 l a 4 hl ha (by omega)
   cases o with
   | true=>
     refine ⟨(qf2,a1),⟨by rw [hH,if_neg k1,if_neg k2,ho];simp,hi0 _,b1⟩,?_⟩
     refine qd zC mixm (by simp) fun e _ hst=>qj ?_
     unfold qX
     simp only [tZ,↓un_u,simprocAttr,Int.toNat_natCast,qe hi,q1,q2,ho]
     refine ⟨by omega,?_⟩
     refine C2.one (by trivial) (C1.draw 0 l a _ h1 rfl rfl rfl ?_)
     refine sW ?_
     exact .oA [(0,some 0)] []
   | false=>
     obtain ⟨v,a2,v1,v2,ha2,sR⟩:=qu2 l a1 s.cols[i].low s.cols[i].high hl b1 (by omega) (by omega)
     refine ⟨(v,a2),⟨hin v v1 v2,hi0 _,ha2⟩,?_⟩
     refine qd zC mixm (by simp) fun e _ hst=>qj ?_
     unfold qX
     simp only [tZ,↓un_u,simprocAttr,Int.toNat_natCast,qe hi,q1,q2,ho]
     refine ⟨by omega,?_⟩
     refine C2.one (by trivial) (C1.draw 0 l a _ h1 rfl rfl rfl ?_)
     refine sW ?_
     refine C1.draw 0 l a1 _ sR rfl rfl rfl ?_
     refine sW ?_
     exact .oA [(0,some 0)] []
theorem QY (s:Sch) (hD:DrS s) (l:List UInt8) (a:Nat) (hl:l.length≤400) (ha:a≤l.length) :
 ∃ r:List Int×Nat,(rowE s r.1 = 0∧hd r.1≤60∧r.2≤l.length)∧Spc Tryz.prog zJ [.ptr 0 1 0 0,schT s] [(0,oC l a)] (.asl 1 r.1.length) [(0,oC l r.2),(1,.arr 1 (r.1.map vI) false)]:=by
 have hE:=hD.ok
 have hnc:=(jb hE).nc
 refine wB WN mixm (fun r:List Int×Nat=>.asl 1 r.1.length) (fun r=>[(0,oC l r.2),(1,.arr 1 (r.1.map vI) false)]) (by simp) ?_
 unfold wh
 refine sW ?_
 refine XE.loopF mixm [5,10] (fun y:List Int×Nat=>y.1.length≤s.cols.length∧(∀ i,i < y.1.length→jP s i (y.1.getD i 0) = true)∧hd y.1≤60∧y.2≤l.length) (fun y=>[(5,.asl 1 y.1.length),(10,vI y.1.length)]) (fun y=>[(0,oC l y.2),(4096,.arr 2 [schT s] false),(1,.arr 1 (y.1.map vI) false)]) (fun y=>s.cols.length - y.1.length) ([],a) ⟨by simp,by simp,by simp [hd],ha⟩ (fun e ⟨_,hst⟩=>?_) fun T' y hy ih=>?_
 ·exact .oA [(0,some 0),(4096,some 4096),(1,none)] []
 obtain ⟨rs,a1⟩:=y
 obtain ⟨y1,y2,y5,y3⟩:=hy
 dsimp only at y1 y2 y3 y5
 simp only [tZ,↓un_u,simprocAttr,decide_eq_true_eq,decide_eq_false_iff_not]
 refine XE.brN (fun h4=>?_) (fun h4=>?_)
 ·have hlt:rs.length < s.cols.length:=by omega
  obtain ⟨⟨v,a2⟩,⟨hv,hv6,ha2⟩,sV⟩:=KK s hD rs.length hlt l a1 hl y3
  dsimp only at hv hv6 ha2 sV
  have hwi:=qh (i:=rs.length) (by omega)
  refine XE.mp (fun _ _=>C1.draw 0 l a1 _ sV rfl rfl rfl) ?_
  simp only [tZ,↓un_u,simprocAttr,hwi]
  refine XE.sd (by omega) ?_
  refine XE.next ih (rs ++ [v],a2) ⟨by simp;omega,fun i h=>?_,?_,ha2⟩ (by simp;omega) fun e ⟨_,hst⟩=>?_
  ·dsimp only at h ⊢
   by_cases hi:i < rs.length
   ·rw [List.getD_eq_getElem?_getD,List.getElem?_append_left hi,← List.getD_eq_getElem?_getD]
    exact y2 i hi
   ·have he:i = rs.length:=by rw [List.length_append] at h;simp at h;omega
    subst he
    rw [List.getD_eq_getElem?_getD,List.getElem?_append_right (Nat.le_refl _)]
    simpa using hv
  ·cases rs with
   | nil=>exact hv6 rfl
   | cons r0 rs=>exact y5
  ·exact .oA [(0,some 0),(4096,some 4096),(1,some 1)] []
 ·have hnl:rs.length = s.cols.length:=by omega
  refine XE.fin (rs,a1) ⟨qI9 hE hnl y2,y5,y3⟩ fun e ⟨_,hst⟩=>?_
  exact .oA [(0,some 0),(1,some 1)] []
theorem YJ (s:Sch) (hd:DrS s) (l:List UInt8) (a:Nat) (hl:l.length≤400) (ha:a≤l.length) :
 ∃ r:List Int×Nat,(rowE s r.1 = 0∧r.2≤l.length)∧Spc Tryz.prog zJ [.ptr 0 1 0 0,schT s] [(0,oC l a)] (.asl 1 r.1.length) [(0,oC l r.2),(1,.arr 1 (r.1.map vI) false)]:=by
 obtain ⟨r,⟨h1,_,h3⟩,h⟩:=QY s hd l a hl ha
 exact ⟨r,⟨h1,h3⟩,h⟩
theorem Ww (s:Sch) (hD:DrS s) (l:List UInt8) (a:Nat) (hl:l.length≤400) (ha:a≤l.length) :
 ∃ r:List Int×Nat,(rowE s r.1 = 0∧hd r.1≤60∧r.2≤l.length)∧Spc Tryz.prog zJ [.ptr 0 1 0 0,schT s] [(0,oC l a)] (vIs r.1) [(0,oC l r.2)]:=by
 obtain ⟨r,hr,hs⟩:=QY s hD l a hl ha
 refine ⟨r,hr,hs.weaken ?_⟩
 refine .of [(0,some 0)] [1] rfl rfl ?_ ?_
 all_goals (try exact clA)
structure DrX (x:Src):Prop where
 sch:DrS x.sch
 ok:SrcOk x
 gone:x.gone = []
 ver:x.ver = 0
abbrev srcZ (s:Src):T:=.agg [.sl 2 (s.sch.lists.map cdlT),.sl 7 (s.sch.cols.map colT),vRw s.rows,.v (.slice none 0 0),vI s.ver]
theorem yf (most:Int) (l:List UInt8) (a:Nat) (hl:l.length≤400) (ha:a≤l.length) (hm:0≤most∧most≤100) :
 ∃ r:Src×Nat,((DrX r.1∧(r.1.rows.length:Int)≤most∧∀ r2∈r.1.rows,hd r2≤60)∧r.2≤l.length)∧Spc Tryz.prog zf [.ptr 0 1 0 0,vI most] [(0,oC l a)] (srcZ r.1) [(0,oC l r.2)]:=by
 obtain ⟨⟨s,a1⟩,⟨hD,ha1⟩,sS⟩:=KJ l a hl ha
 dsimp only at hD ha1 sS
 obtain ⟨v,a2,v1,v2,ha2,sN⟩:=zq3 l a1 (most + 1) hl ha1 (by omega)
 obtain ⟨N,rfl⟩:=Int.eq_ofNat_of_zero_le v1
 have hE:=hD.ok
 have hw:IntKind.i64.wrap (most + 1) = most + 1:=IntWalk.i64_in _ (by omega)
 refine wB JQ mixm (fun r:Src×Nat=>srcZ r.1) (fun r=>[(0,oC l r.2)]) (by simp) ?_
 unfold jJ
 refine sW ?_
 refine XE.mp (fun _ _=>C1.draw 0 l a _ sS rfl rfl rfl) ?_
 simp only [tZ,↓un_u,simprocAttr,hw]
 refine XE.mp (fun _ _=>C1.draw 0 l a1 _ sN rfl rfl rfl) ?_
 refine sW ?_
 refine XE.loopF mixm [7] (fun y:Nat×List (List Int)×Nat=>y.1≤N∧y.2.1.length + y.1≤N∧AscR y.2.1∧(∀ r∈y.2.1,rowE s r = 0∧hd r≤60)∧y.2.2≤l.length) (fun y=>[(7,vI y.1)]) (fun y=>[(0,oC l y.2.2),(4096,.arr 5 [srcT src0] false),(8200,.arr 2 [schT s] false),(12296,.arr 5 [.agg [.sl 2 (s.lists.map cdlT),.sl 7 (s.cols.map colT),vRw y.2.1,.v (.slice none 0 0),vI 0]] false)]) (fun y=>y.1) (N,[],a2) ⟨by simp,by simp,.nil,by simp,ha2⟩ (fun e ⟨_,hst⟩=>?_) fun T' y hy ih=>?_
 ·exact .oA [(0,some 0),(4096,some 4096),(8200,some 8200),(12296,some 12296)] []
 obtain ⟨k,rs,a3⟩:=y
 obtain ⟨y0,y1,y2,y3,y4⟩:=hy
 dsimp only at y0 y1 y2 y3 y4
 simp only [tZ,↓un_u,simprocAttr,decide_eq_true_eq,decide_eq_false_iff_not]
 refine XE.brN (fun h4=>?_) (fun h4=>?_)
 ·obtain ⟨⟨row,a4⟩,⟨hr,hr6,ha4⟩,sR⟩:=Ww s hD l a3 hl y4
  dsimp only at hr hr6 ha4 sR
  have hwk:=jR (i:=k) (by omega) (by omega)
  refine XE.mp (fun _ _=>C1.draw 0 l a3 _ sR rfl rfl rfl) ?_
  refine sW ?_
  refine XE.mp (fun _ _=>C1.im (qg1 rs row (by omega) (fun r hr=>jx (y3 r hr).1) (jx hr)) (by rfl) (by rfl)) ?_
  simp only [tZ,↓un_u,simprocAttr,hwk]
  refine XE.sd (by kernel_rfl) ?_
  have hpl:=qT6 rs row
  refine XE.next ih (k - 1,putR rs row,a4) ⟨by dsimp only;omega,by dsimp only;omega,YR y2,fun r hr2=>?_,ha4⟩ (by dsimp only;omega) fun e ⟨_,hst⟩=>?_
  ·rcases (Wr y2).1 hr2 with h | h
   ·rw [h];exact ⟨hr,hr6⟩
   ·exact y3 r h.1
  ·exact .oA [(0,some 0),(4096,some 4096),(8200,some 8200),(12296,some 12296)] []
 ·have hk:k = 0:=by omega
  refine XE.fin (⟨s,rs,[],0⟩,a3) ⟨⟨⟨hD,⟨hE,by dsimp only;omega,by simp,by simp,fun r hr=>(y3 r hr).1,y2,by simp,.nil⟩,rfl,rfl⟩,by dsimp only;omega,fun r hr=>(y3 r hr).2⟩,y4⟩ fun e ⟨_,hst⟩=>?_
  exact .oA [(0,some 0)] []
theorem Ka (most:Int) (l:List UInt8) (a:Nat) (hl:l.length≤400) (ha:a≤l.length) (hm:0≤most∧most≤100) :
 ∃ r:Src×Nat,((DrX r.1∧(r.1.rows.length:Int)≤most∧∀ r2∈r.1.rows,hd r2≤60)∧r.2≤l.length)∧Spc Tryz.prog zf [.ptr 0 1 0 0,vI most] [(0,oC l a)] (srcT r.1) [(0,oC l r.2)]:=by
 obtain ⟨r,hr,hs⟩:=yf most l a hl ha hm
 refine ⟨r,hr,hs.weaken ?_⟩
 have hg:r.1.gone.map vI = []:=by rw [hr.1.1.gone];rfl
 refine .of [(0,some 0)] [] rfl rfl ?_ ?_
 all_goals (try exact clA)
 all_goals (try exact hg)
theorem KL (most:Int) (l:List UInt8) (a:Nat) (hl:l.length≤400) (ha:a≤l.length) (hm:0≤most∧most≤100) :
 ∃ r:Src×Nat,(DrX r.1∧r.2≤l.length)∧Spc Tryz.prog zf [.ptr 0 1 0 0,vI most] [(0,oC l a)] (srcT r.1) [(0,oC l r.2)]:=by
 obtain ⟨r,⟨h1,h3⟩,h⟩:=Ka most l a hl ha hm
 exact ⟨r,⟨h1.1,h3⟩,h⟩
end Go.Proofs
namespace Go.Proofs
open Go Go.TL
set_option maxRecDepth 4000
set_option maxHeartbeats 4000000
structure DrE (x:Src) (d:Edt):Prop where
 kind:1≤d.kind∧d.kind≤4
 len:d.row.length≤8
 id:0≤d.id∧d.id≤1048575
theorem Yb (x:Src) (hD:DrS x.sch) (hr:∀ r∈x.rows,0 < r.length) (hri:∀ r∈x.rows,1≤hd r∧hd r≤1048575) (hn:x.rows.length≤1000) (l:List UInt8) (a:Nat) (hl:l.length≤400) (ha:a≤l.length) :
 ∃ r:Edt×Nat,(DrE x r.1∧r.2≤l.length)∧Spc Tryz.prog zw [.ptr 0 1 0 0,srcT x] [(0,oC l a)] (edtT r.1) [(0,oC l r.2)]:=by
 obtain ⟨k,a1,k1,k2,ha1,sK⟩:=qu2 l a 1 4 hl ha (by omega) (by omega)
 obtain ⟨w,c,i1,i2,hc,sI⟩:=qu2 l a1 1 60 hl ha1 (by omega) (by omega)
 have hnc:=(jb hD.ok).nc
 refine wB Wg mixm (fun r:Edt×Nat=>edtT r.1) (fun r=>[(0,oC l r.2)]) (by simp) ?_
 unfold kT
 refine sW ?_
 refine XE.mp (fun _ _=>C1.draw 0 l a _ sK rfl rfl rfl) ?_
 refine sW ?_
 refine XE.mp (fun _ _=>C1.draw 0 l a1 _ sI rfl rfl rfl) ?_
 rcases Nat.eq_zero_or_pos x.rows.length with h0 | h0
 focus
  have e0:decide ((x.rows.length:Int) > 0) = false:=decide_eq_false (by omega)
  simp only [tZ,↓un_u,simprocAttr,e0]
  refine XE.mp (fun _ _=>C2.no (by simp)) ?_
  refine sW ?_
  obtain ⟨v,hv⟩:∃ v,v = w:=⟨_,rfl⟩
  obtain ⟨b,hb⟩:∃ b,b = c:=⟨_,rfl⟩
  rw [← hv,← hb]
  have hb:b≤l.length:=by omega
  have hvi:0≤v∧v≤1048575:=by omega
 rotate_left
 focus
  have e0:decide ((x.rows.length:Int) > 0) = true:=decide_eq_true (by omega)
  obtain ⟨o,a3,ha3,sO⟩:=zO9 l c 2 hl hc (by omega)
  obtain ⟨j,a4,j1,j2,ha4,sJ⟩:=zq3 l a3 x.rows.length hl ha3 (by omega)
  obtain ⟨m,rfl⟩:=Int.eq_ofNat_of_zero_le j1
  have hm:m < x.rows.length:=by omega
  have hgm:=zu (hr _ (List.getElem_mem hm))
  have hrm:=hr _ (List.getElem_mem hm)
  simp only [tZ,↓un_u,simprocAttr,e0]
  refine XE.mp (fun _ _=>C2.one (by trivial)) ?_
  refine XE.mp (fun _ _=>C1.draw 0 l c _ sO rfl rfl rfl) ?_
  refine sW ?_
  refine XE.brB (fun h3=>?_) (fun h3=>?_)
  focus
   refine XE.mp (fun _ _=>C1.draw 0 l a3 _ sJ rfl rfl rfl) ?_
   simp only [tZ,↓un_u,simprocAttr,Int.toNat_natCast,qe hm,hgm]
   refine XE.sd (by omega) (XE.sd (by omega) (XE.sd (by kernel_rfl) ?_))
   have hvi:=hri _ (List.getElem_mem hm)
   generalize hd x.rows[m] = v at hvi ⊢
   obtain ⟨b,hb⟩:∃ b,b = a4:=⟨_,rfl⟩
   rw [← hb]
   have hb:b≤l.length:=by omega
  rotate_left
  focus
   obtain ⟨v,hv⟩:∃ v,v = w:=⟨_,rfl⟩
   obtain ⟨b,hb⟩:∃ b,b = a3:=⟨_,rfl⟩
   rw [← hv,← hb]
   have hb:b≤l.length:=by omega
   have hvi:0≤v∧v≤1048575:=by omega
 all_goals (
  refine XE.brB (fun h5=>?_) (fun h5=>?_)
  ·obtain ⟨⟨row,a2⟩,⟨hr2,ha2⟩,sR⟩:=YJ x.sch hD l b hl hb
   dsimp only at hr2 ha2 sR
   have hrl:=(QH hr2).2.1
   obtain ⟨r0,rs,rfl⟩:∃ r0 rs,row = r0 :: rs:=by
    cases row with
    | nil=>have:=jx hr2;simp at this
    | cons r0 rs=>exact ⟨r0,rs,rfl⟩
   refine XE.mp (fun _ _=>C1.drawF 0 24588 l b a2 sR rfl rfl (zD2 _) rfl) ?_
   simp only [tZ,↓un_u,simprocAttr,beq_iff_eq,beq_eq_false_iff_ne]
   refine XE.brN (fun h6=>?_) (fun h6=>?_)
   ·refine XE.sd (by omega) (XE.sd (by omega) ?_)
    refine XE.fin (⟨k,v :: rs,0⟩,a2) ⟨⟨⟨k1,k2⟩,by simp at hrl ⊢;omega,by simp⟩,ha2⟩ fun e ⟨_,hst⟩=>?_
    exact .oA [(0,some 0)] [24588]
   ·refine XE.fin (⟨k,r0 :: rs,0⟩,a2) ⟨⟨⟨k1,k2⟩,by dsimp only;omega,by simp⟩,ha2⟩ fun e ⟨_,hst⟩=>?_
    exact .oA [(0,some 0)] [24588]
  ·refine XE.fin (⟨k,[],v⟩,b) ⟨⟨⟨k1,k2⟩,by simp,by dsimp only;omega⟩,hb⟩ fun e ⟨_,hst⟩=>?_
   exact .oA [(0,some 0)] []
  )
end Go.Proofs
namespace Go.Proofs
open Go Go.TL
def modI (n m:Int):Int:=if m < 1 then 0 else n % m
theorem JM (n m:Int) (hm:m≤1000000000):Spc Tryz.prog yx [vI n,vI m] [] (vI (modI n m)) []:=by
 refine qd qI0 mixm (by simp) fun e _ hst=>qj ?_
 unfold Ks
 simp only [tZ,↓un_u,simprocAttr,decide_eq_true_eq,decide_eq_false_iff_not]
 refine ⟨fun h=>?_,fun h=>?_⟩
 ·rw [modI,if_pos h]
  exact .imR rfl rfl
 rw [modI,if_neg h]
 have h1:=Int.tmod_lt_of_pos n (show 0 < m by omega)
 have h2:=Int.lt_tmod_of_pos n (show 0 < m by omega)
 have h3:=Int.emod_nonneg n (b:=m) (by omega)
 have h4:=Int.emod_lt_of_pos n (b:=m) (by omega)
 have h5:n % m = n.tmod m∨n % m = n.tmod m + m:=by
  rw [Int.tmod_eq_emod]
  split
  ·left;omega
  ·right
   rw [show (m.natAbs:Int) = m by omega]
   omega
 refine ⟨by omega,fun h=>?_,fun h=>?_⟩
 ·have hw:IntKind.i64.wrap (n.tmod m + m) = n % m:=by rw [IntWalk.i64_in _ (by omega)];omega
  rw [hw]
  exact .imR rfl rfl
 ·have hw:n.tmod m = n % m:=by omega
  rw [hw]
  exact .imR rfl rfl
end Go.Proofs
namespace Go.Proofs
open Go Go.TL
set_option maxRecDepth 4000
set_option maxHeartbeats 8000000
theorem qu3 (n:Int) {m:Int} (h:0 < m):0≤modI n m∧modI n m < m:=by
 unfold modI
 rw [if_neg (by omega)]
 exact ⟨Int.emod_nonneg n (by omega),Int.emod_lt_of_pos n h⟩
theorem qJ4 {s:Src} {d:Edt} (h:SrcOk s) (he:jw s d = 0):(d.kind = 1∨d.kind = 2)∧rowE s.sch d.row = 0∧s.gone.contains (hd d.row) = false∧jm s d = ⟨s.sch,putR s.rows d.row,s.gone,s.ver + 1⟩∨
 d.kind = 3∧hasK s.rows d.id = true∧jm s d = ⟨s.sch,JY s.rows d.id,s.gone,s.ver + 1⟩∨
 d.kind = 4∧(1≤d.id∧d.id≤1048575)∧s.gone.contains d.id = false∧jm s d = ⟨s.sch,JY s.rows d.id,putI s.gone d.id,s.ver + 1⟩:=by
 have hS:jm s d = ⟨s.sch,Qi s d,if d.kind = 4 then putI s.gone d.id else s.gone,s.ver + 1⟩:=by rw [jm,if_neg (by rw [he];simp)]
 have hv:s.ver≠300:=fun e=>by rw [jw,if_pos (.inr e)] at he;cases he
 have hc:=qE3 (d:=d) h hv
 rw [he] at hc
 unfold chgE at hc
 by_cases k12:d.kind = 1∨d.kind = 2
 ·rw [if_pos k12] at hc
  obtain ⟨_,q2,q3⟩:=put0 hc
  rw [Qi,if_pos k12,if_neg (by omega)] at hS
  exact .inl ⟨k12,q2,q3,hS⟩
 ·rw [if_neg k12] at hc
  by_cases k3:d.kind = 3
  ·rw [if_pos k3] at hc
   rw [Qi,if_neg k12,if_neg (by omega)] at hS
   refine .inr (.inl ⟨k3,?_,hS⟩)
   cases e:hasK s.rows d.id with
   | true=>rfl
   | false=>rw [if_pos e] at hc;cases hc
  ·rw [if_neg k3] at hc
   by_cases k4:d.kind = 4
   ·rw [if_pos k4] at hc
    rw [Qi,if_neg k12,if_pos k4] at hS
    refine .inr (.inr ⟨k4,?_,?_,hS⟩)
    ·split at hc
     ·cases hc
     ·omega
    ·split at hc
     ·cases hc
     ·cases e:s.gone.contains d.id with
      | false=>rfl
      | true=>rw [if_pos e] at hc;cases hc
   ·rw [if_neg k4] at hc;cases hc
end Go.Proofs
namespace Go.Proofs
open Go Go.TL
set_option maxRecDepth 4000
set_option maxHeartbeats 8000000
end Go.Proofs
namespace Go.Proofs
open Go Go.TL
set_option maxRecDepth 4000
set_option maxHeartbeats 8000000
open So
end Go.Proofs
namespace Go.Proofs
open Go Go.TL
set_option maxRecDepth 4000
set_option maxHeartbeats 8000000
open So
end Go.Proofs
namespace Go.Proofs
open Go Go.TL
set_option maxRecDepth 4000
set_option maxHeartbeats 8000000
end Go.Proofs
