/- A part of the proof: trees of Go values, short forms, contracts. -/
import Derived.WalkKit
import Derived.Still
import Derived.MapKept
import GoSem.Builtin.Cap
import Derived.Laws.Externs
import GoSem.Extern.SlicesOverlaps
import Derived.Carry
import Derived.ProofKit
import Derived.OpenShut
import Derived.HandedShaped
import Derived.Lay
import Derived.LaidLaws
import Derived.MakeChecks
import Derived.SevenTiedAt
import Derived.Test.YtjckmmphmhafjaaGreatDoorChecked
import Derived.Test.YtjckmmphmhafjaaGreatDoorK14
set_option linter.unusedSimpArgs false
set_option linter.unusedVariables false
namespace Go.Proofs
open Go Go.TL
theorem mid {K G:Prop} (main:K→G) (rest:K):G:=main rest
theorem mixm:Tryz.prog.follows .mixedOrders = true:=by kernel_rfl
theorem zE7 (l:List UInt8):Spc Tryz.prog qk7 [vL l] [] (.ptr 0 1 0 0) [(0,oC (l.take 400) 0)]:=by
 refine qe zn4 mixm (by simp) fun e _ hst=>qh ?_
 unfold YV
 obtain ⟨m,hm,hm2⟩:∃ m:Nat,minI (l.length:Int) 400 = m∧m≤l.length∧l.take m = l.take 400:=by
  unfold minI
  split
  ·exact ⟨400,rfl,by omega,rfl⟩
  ·exact ⟨l.length,rfl,by omega,by rw [List.take_length,List.take_of_length_le (by omega)]⟩
 simp only [tZ,↓un_u,simprocAttr,hm,zm5,jn8,hm2]
 refine ⟨by omega,.of [(0,some 8216)] [] rfl rfl ?_ ?_⟩
 ·simp only [tL,simprocAttr]
  exact qJ ⟨rfl,rfl,rfl,rfl,trivial⟩ qZ
 ·simp only [tL,simprocAttr]
theorem zB (l:List UInt8) (at_:Nat) (n:Int) (hl:l.length≤400) (ha:at_≤l.length) (hn:n≤1000000):Spc Tryz.prog qo [.ptr 0 1 0 0,vI n] [(0,oC l at_)] (vI (nx l at_ n).1) [(0,oC l (nx l at_ n).2)]:=by
 refine qe qf6 mixm (by simp) fun e _ hst=>qh ?_
 unfold wK
 simp only [tZ,↓un_u,simprocAttr,Bool.or_eq_true,Bool.or_eq_false_iff,decide_eq_true_eq,decide_eq_false_iff_not]
 refine ⟨by kernel_rfl,fun h1=>?_,fun h1=>?_⟩
 ·have e:nx l at_ n = (0,at_):=by unfold nx;rw [if_pos (by omega)]
  rw [e]
  refine .of [(0,some 0)] [] rfl rfl ?_ ?_
  ·simp only [tL,simprocAttr]
   exact qJ ⟨rfl,rfl,rfl,rfl,trivial⟩ qZ
  ·simp only [tL,simprocAttr]
 ·have h2:at_ < l.length:=by omega
  have hw1:IntKind.i64.wrap ((at_:Int) + 1) = ((at_ + 1:Nat):Int):=by rw [IntWalk.i64_in _ (by omega)];omega
  have hw2:IntKind.i64.wrap (((at_ + 1:Nat):Int) - 1) = (at_:Int):=by rw [IntWalk.i64_in _ (by omega)];omega
  simp only [tZ,↓un_u,simprocAttr,hw1,hw2,Int.toNat_natCast,qL5 h2]
  refine ⟨by omega,by kernel_rfl,by kernel_rfl,fun h3=>?_,fun h3=>?_⟩
  ·simp only [Bool.and_eq_true,decide_eq_true_eq] at h3
   have h4:at_ + 1 < l.length:=by omega
   have hb:=zm4 (l.getD at_ 0)
   have hb2:=zm4 (l.getD (at_ + 1) 0)
   have e:nx l at_ n = (((l.getD at_ 0).toNat * 256 + (l.getD (at_ + 1) 0).toNat) % n,at_ + 2):=by
    unfold nx
    rw [if_neg (by omega),if_pos (by omega)]
   have hw3:IntKind.i64.wrap (((at_ + 1:Nat):Int) + 1) = ((at_ + 2:Nat):Int):=by rw [IntWalk.i64_in _ (by omega)];omega
   have hv1:IntKind.i64.wrap ((l.getD at_ 0).toNat:Int) = (l.getD at_ 0).toNat:=IntWalk.i64_in _ (by omega)
   have hv2:IntKind.i64.wrap ((l.getD (at_ + 1) 0).toNat:Int) = (l.getD (at_ + 1) 0).toNat:=IntWalk.i64_in _ (by omega)
   have hv3:IntKind.i64.wrap (((l.getD at_ 0).toNat:Int) * 256) = (l.getD at_ 0).toNat * 256:=IntWalk.i64_in _ (by omega)
   have hv4:IntKind.i64.wrap (((l.getD at_ 0).toNat:Int) * 256 + (l.getD (at_ + 1) 0).toNat) = (l.getD at_ 0).toNat * 256 + (l.getD (at_ + 1) 0).toNat:=IntWalk.i64_in _ (by omega)
   simp only [tZ,↓un_u,simprocAttr,hw3,Int.toNat_natCast,qL5 h4,hv1,hv2,hv3,hv4]
   rw [e,Int.tmod_eq_emod_of_nonneg (by omega)]
   refine ⟨by omega,by kernel_rfl,by omega,.of [(0,some 0)] [] rfl rfl ?_ ?_⟩
   ·simp only [tL,simprocAttr]
    exact qJ ⟨rfl,rfl,rfl,rfl,trivial⟩ qZ
   ·simp only [tL,simprocAttr]
  ·have e:nx l at_ n = ((l.getD at_ 0).toNat % n,at_ + 1):=by
    unfold nx
    rw [if_neg (by omega),if_neg]
    simp only [Bool.and_eq_false_iff,decide_eq_false_iff_not] at h3
    omega
   have hb:=zm4 (l.getD at_ 0)
   rw [e,IntWalk.i64_in _ (by omega),Int.tmod_eq_emod_of_nonneg (by omega)]
   refine ⟨by omega,.of [(0,some 0)] [] rfl rfl ?_ ?_⟩
   ·simp only [tL,simprocAttr]
    exact qJ ⟨rfl,rfl,rfl,rfl,trivial⟩ qZ
   ·simp only [tL,simprocAttr]
end Go.Proofs
namespace Go.Proofs
open Go Go.TL
structure Cod where
 name:ByteArray
 par:Int
structure CodL where
 name:ByteArray
 codes:List Cod
structure Col where
 name:ByteArray
 kind:Int
 list:Int
 low:Int
 high:Int
 widths:List Int
 opt:Bool
structure Sch where
 lists:List CodL
 cols:List Col
structure Pk where
 col:Int
 lev:Int
inductive Cnd where
 | mk (op col code lo hi:Int) (kids:List Cnd)
structure Qst where
 name:ByteArray
 kind:Int
 filt:Cnd
 dims:List Pk
 meas:Int
 terms:List Int
 event:Cnd
structure Smp where
 part:Int
 of:Int
 seed:Int
structure Dcl where
 proj:ByteArray
 src:ByteArray
 coh:Cnd
 smp:Smp
 qs:List Qst
structure Src where
 sch:Sch
 rows:List (List Int)
 gone:List Int
 ver:Int
structure Edt where
 kind:Int
 row:List Int
 id:Int
structure Ext where
 proj:ByteArray
 ver:Int
 picks:List Pk
 rows:List (List Int)
structure Chg where
 ver:Int
 gone:List Int
 rows:List (List Int)
namespace Cnd
def op:Cnd→Int | .mk a _ _ _ _ _=>a
def col:Cnd→Int | .mk _ a _ _ _ _=>a
def code:Cnd→Int | .mk _ _ a _ _ _=>a
def lo:Cnd→Int | .mk _ _ _ a _ _=>a
def hi:Cnd→Int | .mk _ _ _ _ a _=>a
def kids:Cnd→List Cnd | .mk _ _ _ _ _ a=>a
end Cnd
abbrev cnd0:Cnd:=.mk 0 0 0 0 0 []
instance:Inhabited Cod:=⟨⟨⟨#[]⟩,0⟩⟩
instance:Inhabited CodL:=⟨⟨⟨#[]⟩,[]⟩⟩
instance:Inhabited Col:=⟨⟨⟨#[]⟩,0,0,0,0,[],false⟩⟩
instance:Inhabited Sch:=⟨⟨[],[]⟩⟩
instance:Inhabited Pk:=⟨⟨0,0⟩⟩
instance:Inhabited Cnd:=⟨cnd0⟩
instance:Inhabited Qst:=⟨⟨⟨#[]⟩,0,cnd0,[],0,[],cnd0⟩⟩
instance:Inhabited Edt:=⟨⟨0,[],0⟩⟩
abbrev codT (c:Cod):T:=.agg [vS c.name,vI c.par]
abbrev cdlT (l:CodL):T:=.agg [vS l.name,.sl 2 (l.codes.map codT)]
abbrev colT (c:Col):T:=.agg [vS c.name,vI c.kind,vI c.list,vI c.low,vI c.high,vIs c.widths,vB c.opt]
abbrev schT (s:Sch):T:=.agg [.sl 2 (s.lists.map cdlT),.sl 7 (s.cols.map colT)]
abbrev pkT (p:Pk):T:=.agg [vI p.col,vI p.lev]
abbrev vPs (l:List Pk):T:=.sl 2 (l.map pkT)
mutual
def cndT:Cnd→T
 | .mk op col code lo hi kids=>.agg [vI op,vI col,vI code,vI lo,vI hi,.sl 6 (zU8 kids)]
def zU8:List Cnd→List T
 | []=>[]
 | c :: r=>cndT c :: zU8 r
end
theorem zg5:∀ l:List Cnd,zU8 l = l.map cndT
 | []=>by simp [zU8]
 | c :: r=>by simp [zU8,zg5 r]
theorem kW (c:Cnd):cndT c = .agg [vI c.op,vI c.col,vI c.code,vI c.lo,vI c.hi,.sl 6 (c.kids.map cndT)]:=by
 cases c
 simp only [cndT,zg5,Cnd.op,Cnd.col,Cnd.code,Cnd.lo,Cnd.hi,Cnd.kids]
abbrev vCs (l:List Cnd):T:=.sl 6 (l.map cndT)
abbrev qstT (q:Qst):T:=.agg [vS q.name,vI q.kind,vI q.filt.op,vI q.filt.col,vI q.filt.code,vI q.filt.lo,vI q.filt.hi,vCs q.filt.kids,vPs q.dims,vI q.meas,vIs q.terms,vI q.event.op,vI q.event.col,vI q.event.code,vI q.event.lo,vI q.event.hi,vCs q.event.kids]
abbrev smpT (x:Smp):T:=.agg [vI x.part,vI x.of,vI x.seed]
abbrev dclT (d:Dcl):T:=.agg [vS d.proj,vS d.src,vI d.coh.op,vI d.coh.col,vI d.coh.code,vI d.coh.lo,vI d.coh.hi,vCs d.coh.kids,vI d.smp.part,vI d.smp.of,vI d.smp.seed,.sl 17 (d.qs.map qstT)]
abbrev vRw (l:List (List Int)):T:=.sl 1 (l.map vIs)
abbrev srcT (s:Src):T:=.agg [.sl 2 (s.sch.lists.map cdlT),.sl 7 (s.sch.cols.map colT),vRw s.rows,vIs s.gone,vI s.ver]
abbrev edtT (e:Edt):T:=.agg [vI e.kind,vIs e.row,vI e.id]
abbrev extT (x:Ext):T:=.agg [vS x.proj,vI x.ver,vPs x.picks,vRw x.rows]
abbrev chgT (c:Chg):T:=.agg [vI c.ver,vIs c.gone,vRw c.rows]
end Go.Proofs
namespace Go.Proofs
open Go Go.TL
def zo7 (c:UInt8):Bool:=(decide ((c.toNat:Int) < 97) || decide ((c.toNat:Int) > 122)) && (decide ((c.toNat:Int) < 48) || decide ((c.toNat:Int) > 57)) && !((c.toNat:Int) == 95)
def je8 (s:ByteArray):Bool:=decide ((s.size:Int) < 1) || decide ((s.size:Int) > 16) || decide (((s.data.toList.getD 0 0).toNat:Int) < 97) || decide (((s.data.toList.getD 0 0).toNat:Int) > 122)
def resW:List (List UInt8):=[[97,108,108],[97,110,100],[101,118,101,110,116],[102,114,111,109],[109,105,115,115,105,110,103],[110,111,116],[111,110],[111,114],[116,111],[117,110,100,101,114],[119,104,101,114,101]]
def jV (s:ByteArray):Bool:=!je8 s && !(s.data.toList.any zo7) && !(resW.contains s.toList)
theorem we (s:ByteArray):Spc Tryz.prog jl [vS s] [] (vB (jV s)) []:=by
 have hsl:s.size = s.data.toList.length:=by rw [Array.length_toList];rfl
 refine qe qR8 mixm (by simp) fun e _ hst=>qh ?_
 unfold Kt
 refine sW ?_
 refine ⟨fun h=>?_,fun h=>?_,fun h=>?_,fun h=>?_⟩
 ·simp at h
  omega
 ·simp at h
  omega
 ·have:jV s = false:=by unfold jV je8;rw [h];rfl
  rw [this]
  exact .oA [] []
 have hd:je8 s = false:=h
 have hs16:s.data.toList.length≤16:=by
  unfold je8 at hd
  simp only [Bool.or_eq_false_iff,decide_eq_false_iff_not] at hd
  omega
 refine qr mixm (α:=Nat) [3] (fun i=>i≤s.data.toList.length∧((s.data.toList.take i).any zo7 = false)) (fun i=>[(3,vI i)]) (fun i=>[]) (fun i=>s.data.toList.length - i) 0 ⟨by omega,?_⟩ ?_ fun i hi=>?_
 ·rfl
 ·exact .oA [] []
 refine sD ?_
 refine ⟨fun h5=>?_,fun h5=>?_⟩
 ·have hi2:i < s.data.toList.length:=by omega
  have hwi:=qg (i:=i) (by omega)
  simp only [tZ,↓un_u,simprocAttr,Int.toNat_natCast,hwi,yC]
  have hg:s.data.toList.getD i 0 = s.data.toList[i]:=qj hi2
  simp only [hg]
  refine ⟨by omega,?_⟩
  repeat (refine ⟨fun _=>by omega,?_⟩)
  refine ⟨fun h6=>?_,fun h6=>?_⟩
  ·have hb:zo7 s.data.toList[i] = true:=by
    simp only [beq_eq_false_iff_ne] at h6
    generalize s.data.toList[i] = c at h6 ⊢
    unfold zo7
    simp
    omega
   have:jV s = false:=by
    unfold jV
    rw [show s.data.toList.any zo7 = true from List.any_eq_true.2 ⟨_,List.getElem_mem hi2,hb⟩]
    simp
   rw [this]
   exact .oA [] []
  ·have hb:zo7 s.data.toList[i] = false:=by
    rw [← h6,Bool.eq_iff_iff]
    generalize s.data.toList[i] = c
    unfold zo7
    simp
    try omega
   refine ⟨i + 1,⟨by omega,zP hi2 hi.2 hb⟩,by omega,?_⟩
   exact .oA [] []
 ·have h3:=hi.2
  have:i = s.data.toList.length:=by omega
  rw [this,List.take_length] at h3
  have hn:jV s = !(resW.contains s.toList):=by unfold jV;rw [hd,h3];rfl
  rw [hn]
  simp only [resW,List.contains_cons,List.contains_nil]
  repeat' (first | with_reducible apply And.intro | with_reducible intro _)
  all_goals first
   | (exfalso;simp_all;done)
   | (simp only [*,Bool.true_or,Bool.or_true,Bool.false_or,Bool.or_false,Bool.not_true,Bool.not_false];exact .imR rfl rfl)
end Go.Proofs
namespace Go.Proofs
open Go Go.TL
abbrev cdAt (cs:List Cod) (i:Nat):Cod:=cs.getD i default
def parC (cs:List Cod) (i:Nat):Int:=(cdAt cs i).par
def depF (cs:List Cod):Nat→Nat→Nat
 | 0,_=>0
 | f + 1,c=>if parC cs c < 0 then 0 else depF cs f (parC cs c).toNat + 1
def dep (cs:List Cod) (c:Nat):Nat:=depF cs (c + 1) c
def qU3 (cs:List Cod):Prop:=∀ i,i < cs.length→-1≤parC cs i∧parC cs i < i
theorem zU9 {cs:List Cod} (h:qU3 cs):∀ (c f g:Nat),c < cs.length→c < f→c < g→depF cs f c = depF cs g c:=by
 intro c
 induction c using Nat.strongRecOn with
 | _ c ih=>
   intro f g hc hf hg
   obtain ⟨f,rfl⟩:∃ k,f = k + 1:=⟨f - 1,by omega⟩
   obtain ⟨g,rfl⟩:∃ k,g = k + 1:=⟨g - 1,by omega⟩
   simp only [depF]
   have hp:=h c hc
   split
   ·rfl
   ·rw [ih (parC cs c).toNat (by omega) f g (by omega) (by omega) (by omega)]
theorem qs0 {cs:List Cod} {c:Nat} (h:parC cs c < 0):dep cs c = 0:=by simp [dep,depF,h]
theorem zo8 {cs:List Cod} (h:qU3 cs) {c:Nat} (hc:c < cs.length) (h0:0≤parC cs c):dep cs c = dep cs (parC cs c).toNat + 1:=by
 have hp:=h c hc
 unfold dep
 rw [depF,if_neg (by omega),zU9 h _ c ((parC cs c).toNat + 1) (by omega) (by omega) (by omega)]
theorem jo0 {cs:List Cod} (h:qU3 cs):∀ c,c < cs.length→dep cs c≤c:=by
 intro c
 induction c using Nat.strongRecOn with
 | _ c ih=>
   intro hc
   by_cases h0:parC cs c < 0
   ·rw [qs0 h0];omega
   ·have hp:=h c hc
    have:=ih (parC cs c).toNat (by omega) (by omega)
    rw [zo8 h hc (by omega)]
    omega
def jx1 (cs:List Cod) (c:Nat):Bool:=!(cs.any fun x=>x.par == (c:Int))
def eqB (a b:ByteArray):Bool:=a.toList == b.toList
def cdE (cs:List Cod) (i:Nat):Int:=
 if jV (cdAt cs i).name = false then 3
 else if ((cs.take i).any fun x=>eqB x.name (cdAt cs i).name) = true then 10
 else if (i = 0∧parC cs i≠-1)∨(0 < i∧(parC cs i < 0∨parC cs i≥i)) then 6 else 0
def cdEs (cs:List Cod):Nat→Int
 | 0=>0
 | n + 1=>if cdEs cs n≠0 then cdEs cs n else cdE cs n
def lvS (cs:List Cod) (o:Option Int) (i:Nat):Option Int:=match o with
 | none=>none
 | some v=>if jx1 cs i = true then (if v≥0∧(dep cs i:Int)≠v then none else some (dep cs i)) else some v
def lvs (cs:List Cod) (n:Nat):Option Int:=(List.range n).foldl (lvS cs) (some (-1))
def lstE (l:CodL):Int:=
 if jV l.name = false then 3 else if l.codes.length = 0 then 5 else if l.codes.length > 60 then 1
 else if cdEs l.codes l.codes.length≠0 then cdEs l.codes l.codes.length else match lvs l.codes l.codes.length with | none=>5 | some _=>0
theorem zE8 {cs:List Cod} {i:Nat} (h:cdEs cs i≠0):∀ n,i≤n→cdEs cs n = cdEs cs i:=by
 intro n hn
 induction n with
 | zero=>have:i = 0:=by omega
         rw [this]
 | succ n ih=>
   by_cases e:i = n + 1
   ·rw [e]
   ·have:=ih (by omega)
    rw [cdEs,this,if_pos h]
theorem qU4 {cs:List Cod}:∀ {n:Nat},cdEs cs n = 0→∀ i,i < n→cdE cs i = 0
 | 0,_,i,h=>by omega
 | n + 1,h,i,hi=>by
   rw [cdEs] at h
   split at h
   ·rename_i h2;exact absurd h h2
   ·rename_i h2
    by_cases e:i = n
    ·rw [e];exact h
    ·exact qU4 (Classical.byContradiction h2) i (by omega)
theorem zV0 {cs:List Cod} {i:Nat} (h:cdE cs i = 0) : -1≤parC cs i∧parC cs i < i∧(i = 0→parC cs i = -1)∧(0 < i→0≤parC cs i):=by
 unfold cdE at h
 split at h
 ·cases h
 ·split at h
  ·cases h
  ·split at h
   ·cases h
   ·rename_i h1
    omega
theorem jd {l:CodL} (h:lstE l = 0):qU3 l.codes∧0 < l.codes.length∧l.codes.length≤60:=by
 unfold lstE at h
 split at h
 ·cases h
 ·split at h
  ·cases h
  ·split at h
   ·cases h
   ·split at h
    ·rename_i h2;exact absurd h h2
    ·rename_i h1 h2 h3 h4
     refine ⟨fun i hi=>?_,by omega,by omega⟩
     have:=zV0 (qU4 (Classical.byContradiction h4) i hi)
     exact ⟨this.1,this.2.1⟩
def yY (l:CodL):Int:=if lstE l≠0 then -1 else (dep l.codes (l.codes.length - 1):Int) + 1
def lvlC (l:CodL) (c:Int):Int:=if lstE l≠0∨c < 0∨c≥l.codes.length then -1 else dep l.codes c.toNat
def upF (cs:List Cod) (lev:Nat):Nat→Nat→Nat
 | 0,c=>c
 | f + 1,c=>if lev < dep cs c then upF cs lev f (parC cs c).toNat else c
def upC (l:CodL) (c lev:Int):Int:=if lstE l≠0∨c < 0∨c≥l.codes.length∨lev < 0∨lev > dep l.codes c.toNat then -1 else upF l.codes lev.toNat (c.toNat + 1) c.toNat
def atL (l:CodL) (lev:Int):List Int:=if lstE l≠0 then [] else List.map (fun i:Nat=>(i:Int)) ((List.range l.codes.length).filter fun i=>(dep l.codes i:Int) == lev)
def zz5 (l:CodL) (c above:Int):Bool:=decide (0≤lvlC l above) && decide (lvlC l above≤lvlC l c) && (upC l c (lvlC l above) == above)
end Go.Proofs
namespace Go.Proofs
open Go Go.TL
theorem ki (l:CodL) (c:Nat) (hp:qU3 l.codes) (hc:c < l.codes.length) (hl:l.codes.length≤1000):Spc Tryz.prog ze [cdlT l,vI c] [] (vI (dep l.codes c)) []:=by
 refine qe qH3 mixm (by simp) fun e _ hst=>qh ?_
 unfold Jq
 refine sW ?_
 refine qr mixm (α:=Nat×Nat) [1,5] (fun x=>x.1 < l.codes.length∧dep l.codes c = x.2 + dep l.codes x.1∧x.2 + x.1≤1000) (fun x=>[(1,vI x.1),(5,vI x.2)]) (fun x=>[(4096,.arr 2 [cdlT l] false)]) (fun x=>x.1) (c,0) ⟨hc,by simp,by simp;omega⟩ ?_ fun x hx=>?_
 ·exact .oA [(4096,some 4096)] []
 obtain ⟨k,n⟩:=x
 obtain ⟨h1,h2,h3⟩:=hx
 dsimp only at h1 h2 h3
 have hpk:=hp k h1
 have hcd:l.codes[k].par = parC l.codes k:=by rw [parC,cdAt,qj h1]
 have hwn:=qg (i:=n) (by omega)
 simp only [tZ,↓un_u,simprocAttr,Int.toNat_natCast,qd h1,hcd,tD,hwn]
 refine ⟨by omega,fun h4=>?_,fun h4=>?_⟩
 ·obtain ⟨p,hpe⟩:=Int.eq_ofNat_of_zero_le h4
  rw [zo8 hp h1 (by omega),hpe,Int.toNat_natCast] at h2
  rw [hpe] at hpk ⊢
  refine ⟨by omega,(p,n + 1),⟨by dsimp only;omega,by dsimp only;omega,by dsimp only;omega⟩,by dsimp only;omega,?_⟩
  exact .oA [(4096,some 4096)] []
 ·rw [qs0 (c:=k) (by omega),Nat.add_zero] at h2
  rw [h2]
  exact .oA [] []
def zE9 (l:CodL) (c:Int):Bool:=!(l.codes.any fun x=>x.par == c)
theorem zg6 (l:CodL) (c:Int) (hl:l.codes.length≤1000):Spc Tryz.prog Wv [cdlT l,vI c] [] (vB (zE9 l c)) []:=by
 refine qe qT5 mixm (by simp) fun e _ hst=>qh ?_
 unfold KD
 refine sW ?_
 refine qr mixm (α:=Nat) [5] (fun i=>i≤l.codes.length∧(l.codes.take i).any (fun x=>x.par == c) = false) (fun i=>[(5,vI i)]) (fun i=>[(4096,.arr 2 [cdlT l] false)]) (fun i=>l.codes.length - i) 0 ⟨by omega,rfl⟩ ?_ fun i hi=>?_
 ·exact .oA [(4096,some 4096)] []
 obtain ⟨h1,h2⟩:=hi
 refine sD ?_
 refine ⟨fun h3=>?_,fun h3=>?_⟩
 ·have hi2:i < l.codes.length:=by omega
  have hwi:=qg (i:=i) (by omega)
  simp only [tZ,↓un_u,simprocAttr,Int.toNat_natCast,qd hi2,hwi]
  refine ⟨by omega,fun h4=>?_,fun h4=>?_⟩
  ·have:zE9 l c = false:=by
    unfold zE9
    rw [List.any_eq_true.2 ⟨_,List.getElem_mem hi2,h4⟩];rfl
   rw [this]
   exact .oA [] []
  ·refine ⟨i + 1,⟨by omega,zP hi2 h2 h4⟩,by omega,?_⟩
   exact .oA [(4096,some 4096)] []
 ·have hil:i = l.codes.length:=by omega
  subst hil
  rw [List.take_length] at h2
  have:zE9 l c = true:=by unfold zE9;rw [h2];rfl
  rw [this]
  exact .oA [] []
end Go.Proofs
namespace Go.Proofs
open Go Go.TL
theorem zz6 (cs:List Cod) (n:Nat):lvs cs (n + 1) = lvS cs (lvs cs n) n:=by
 unfold lvs
 rw [List.range_succ,List.foldl_append]
 rfl
theorem je9 {cs:List Cod} {n:Nat} (h:lvs cs n = none):∀ m,n≤m→lvs cs m = none:=by
 intro m hm
 induction m with
 | zero=>have:n = 0:=by omega
         rw [← this];exact h
 | succ m ih=>
   by_cases e:n = m + 1
   ·rw [← e];exact h
   ·rw [zz6,ih (by omega)];rfl
theorem jx2 {cs:List Cod} (h:cdEs cs cs.length = 0):qU3 cs:=fun i hi=>by
 have:=zV0 (qU4 h i hi)
 exact ⟨this.1,this.2.1⟩
theorem wQ (l:CodL) (hl:l.codes.length < 4611686018427387904):Spc Tryz.prog jr [cdlT l] [] (vI (lstE l)) []:=by
 refine qe qF9 mixm (by simp) fun e _ hst=>qh ?_
 unfold Jj
 refine sW ?_
 refine C1.im (we l.name) (by rfl) (by rfl) ?_
 simp only [tZ,↓un_u,simprocAttr,Bool.not_eq_true',Bool.not_eq_false']
 refine ⟨fun h=>?_,fun h1=>?_⟩
 ·rw [lstE,if_pos h]
  exact .oA [] []
 simp only [tZ,↓un_u,simprocAttr,beq_iff_eq,beq_eq_false_iff_ne]
 refine ⟨fun h=>?_,fun h2=>?_⟩
 ·rw [lstE,if_neg (by rw [h1];simp),if_pos (by omega)]
  exact .oA [] []
 refine sD ?_
 refine ⟨fun h=>?_,fun h3=>?_⟩
 ·rw [lstE,if_neg (by rw [h1];simp),if_neg (by omega),if_pos (by omega)]
  exact .oA [] []
 have hE1:cdEs l.codes l.codes.length≠0→lstE l = cdEs l.codes l.codes.length:=fun h=>by
  rw [lstE,if_neg (by rw [h1];simp),if_neg (by omega),if_neg (by omega),if_pos h]
 have hE2:cdEs l.codes l.codes.length = 0→lvs l.codes l.codes.length = none→lstE l = 5:=fun h k=>by
  rw [lstE,if_neg (by rw [h1];simp),if_neg (by omega),if_neg (by omega),if_neg (by rw [h];simp),k]
 have hE3:∀ v,cdEs l.codes l.codes.length = 0→lvs l.codes l.codes.length = some v→lstE l = 0:=fun v h k=>by
  rw [lstE,if_neg (by rw [h1];simp),if_neg (by omega),if_neg (by omega),if_neg (by rw [h];simp),k]
 refine qr mixm (α:=Nat) [3] (fun i=>i≤l.codes.length∧cdEs l.codes i = 0) (fun i=>[(3,vI i)]) (fun i=>[(4096,.arr 2 [cdlT l] false)]) (fun i=>l.codes.length - i) 0 ⟨by omega,rfl⟩ ?_ fun i hi=>?_
 ·exact .oA [(4096,some 4096)] []
 obtain ⟨i1,i2⟩:=hi
 refine sD ?_
 refine ⟨fun h4=>?_,fun h4=>?_⟩
 ·have hi2:i < l.codes.length:=by omega
  have hwi:=qg (i:=i) (by omega)
  have hat:cdAt l.codes i = l.codes[i]:=by rw [cdAt,qj hi2]
  have hs:cdEs l.codes (i + 1) = cdE l.codes i:=by rw [cdEs,if_neg (by rw [i2];simp)]
  have hbad:cdE l.codes i≠0→lstE l = cdE l.codes i:=fun hb=>by
   have:=zE8 (by rw [hs];exact hb) l.codes.length (show i + 1≤l.codes.length by omega)
   rw [hE1 (by rw [this,hs];exact hb),this,hs]
  simp only [tZ,↓un_u,simprocAttr,Int.toNat_natCast,qd hi2]
  refine ⟨by omega,?_⟩
  refine C1.im (we l.codes[i].name) (by rfl) (by rfl) ?_
  simp only [tZ,↓un_u,simprocAttr,Bool.not_eq_true',Bool.not_eq_false']
  refine ⟨fun h5=>?_,fun h5=>?_⟩
  ·have hc:cdE l.codes i = 3:=by rw [cdE,hat,if_pos h5]
   rw [hbad (by rw [hc];decide),hc]
   exact .oA [] []
  refine qr mixm (α:=Nat) [4] (fun k=>k≤i∧(l.codes.take k).any (fun x=>eqB x.name l.codes[i].name) = false) (fun k=>[(4,vI k)]) (fun k=>[(4096,.arr 2 [cdlT l] false)]) (fun k=>i - k) 0 ⟨by omega,rfl⟩ ?_ fun k hk=>?_
  ·exact .oA [(4096,some 4096)] []
  obtain ⟨k1,k2⟩:=hk
  refine sD ?_
  refine ⟨fun h6=>?_,fun h6=>?_⟩
  ·have hk2:k < l.codes.length:=by omega
   have hwk:=qg (i:=k) (by omega)
   simp only [tZ,↓un_u,simprocAttr,Int.toNat_natCast,qd hi2,qd hk2,hwk]
   refine ⟨by omega,by omega,by kernel_rfl,fun h7=>?_,fun h7=>?_⟩
   ·have hc:cdE l.codes i = 10:=by
     rw [cdE,hat,if_neg (by rw [h5];simp),if_pos (List.any_eq_true.2 ⟨l.codes[k],List.mem_take_iff_getElem.2 ⟨k,by omega,rfl⟩,h7⟩)]
    rw [hbad (by rw [hc];decide),hc]
    exact .oA [] []
   ·refine ⟨k + 1,⟨by omega,zP hk2 k2 h7⟩,by omega,?_⟩
    exact .oA [(4096,some 4096)] []
  ·have hki:k = i:=by omega
   subst hki
   have hpar:l.codes[k].par = parC l.codes k:=by rw [parC,hat]
   have hcE:cdE l.codes k = if (k = 0∧parC l.codes k≠-1)∨(0 < k∧(parC l.codes k < 0∨parC l.codes k≥k)) then 6 else 0:=by
    rw [cdE,hat,if_neg (by rw [h5];simp),if_neg (by rw [k2];simp)]
   simp only [tZ,↓un_u,simprocAttr,Int.toNat_natCast,qd hi2,hpar,hwi,tD,beq_iff_eq,beq_eq_false_iff_ne,bne_iff_ne,bne_eq_false_iff_eq]
   refine ⟨by omega,fun h7=>?_,fun h7=>?_⟩
   ·have hc:cdE l.codes k = 6:=by rw [hcE,if_pos (by omega)]
    rw [hbad (by rw [hc];decide),hc]
    exact .oA [] []
   ·refine ⟨k + 1,⟨by omega,by rw [hs,hcE,if_neg (by omega)]⟩,by omega,?_⟩
    exact .oA [(4096,some 4096)] []
 ·have hil:i = l.codes.length:=by omega
  subst hil
  have hp:=jx2 i2
  refine qr mixm (α:=Nat×Int) [6,7] (fun x=>x.1≤l.codes.length∧lvs l.codes x.1 = some x.2) (fun x=>[(6,vI x.2),(7,vI x.1)]) (fun x=>[(4096,.arr 2 [cdlT l] false)]) (fun x=>l.codes.length - x.1) (0,-1) ⟨by simp,rfl⟩ ?_ fun x hx=>?_
  ·exact .oA [(4096,some 4096)] []
  obtain ⟨j,v⟩:=x
  obtain ⟨j1,j2⟩:=hx
  dsimp only at j1 j2
  refine sD ?_
  refine ⟨fun h5=>?_,fun h5=>?_⟩
  ·have hj2:j < l.codes.length:=by omega
   have hwj:=qg (i:=j) (by omega)
   have hs:=zz6 l.codes j
   rw [j2,lvS] at hs
   have hlf:=zg6 l (j:Int) (by omega)
   have hdp:=ki l j hp hj2 (by omega)
   rw [show zE9 l (j:Int) = jx1 l.codes j from rfl] at hlf
   refine C1.im hlf (by rfl) (by rfl) ?_
   simp only [tZ,↓un_u,simprocAttr,hwj]
   refine ⟨fun h6=>?_,fun h6=>?_⟩
   ·rw [if_pos h6] at hs
    refine C2.im (fun _=>hdp) (fun _=>rfl) (by rfl) ?_
    simp only [tZ,↓un_u,simprocAttr,tD,bne_iff_ne,bne_eq_false_iff_eq]
    refine ⟨fun h7=>?_,fun h7=>?_⟩
    ·rw [if_pos (by omega)] at hs
     rw [hE2 i2 (je9 hs _ (by omega))]
     exact .oA [] []
    ·rw [if_neg (by omega)] at hs
     refine C1.im hdp (by rfl) (by rfl) ?_
     simp only [tZ,↓un_u,simprocAttr,hwj]
     refine ⟨(j + 1,(dep l.codes j:Int)),⟨by dsimp only;omega,hs⟩,by dsimp only;omega,?_⟩
     exact .oA [(4096,some 4096)] []
   ·rw [if_neg (by rw [h6];simp)] at hs
    refine ⟨(j + 1,v),⟨by dsimp only;omega,hs⟩,by dsimp only;omega,?_⟩
    exact .oA [(4096,some 4096)] []
  ·have hjl:j = l.codes.length:=by omega
   subst hjl
   rw [hE3 v i2 j2]
   exact .oA [] []
end Go.Proofs
namespace Go.Proofs
open Go Go.TL
theorem Jv (l:CodL) (hl:l.codes.length < 4611686018427387904):Spc Tryz.prog kG [cdlT l] [] (vI (yY l)) []:=by
 refine qe qx8 mixm (by simp) fun e _ hst=>qh ?_
 unfold Zg
 refine sW ?_
 refine C1.im (wQ l hl) (by rfl) (by rfl) ?_
 simp only [tZ,↓un_u,simprocAttr,bne_iff_ne,bne_eq_false_iff_eq]
 refine ⟨fun h=>?_,fun h=>?_⟩
 ·rw [yY,if_pos h]
  exact .oA [] []
 obtain ⟨hp,h1,h2⟩:=jd h
 have hw:=zk (i:=l.codes.length) h1 (by omega)
 have hd:=jo0 hp (l.codes.length - 1) (by omega)
 have hw2:=qg (i:=dep l.codes (l.codes.length - 1)) (by omega)
 simp only [tZ,↓un_u,simprocAttr,hw]
 refine C1.im (ki l (l.codes.length - 1) hp (by omega) (by omega)) (by rfl) (by rfl) ?_
 rw [yY,if_neg (by rw [h];simp)]
 simp only [tZ,↓un_u,simprocAttr,hw2]
 exact .oA [] []
theorem KI (l:CodL) (c:Int) (hl:l.codes.length < 4611686018427387904):Spc Tryz.prog wD [cdlT l,vI c] [] (vI (lvlC l c)) []:=by
 refine qe qH1 mixm (by simp) fun e _ hst=>qh ?_
 unfold Jp
 refine sW ?_
 refine C1.im (wQ l hl) (by rfl) (by rfl) ?_
 simp only [tZ,↓un_u,simprocAttr,tD,bne_iff_ne,bne_eq_false_iff_eq]
 refine ⟨fun h=>?_,fun h=>?_⟩
 ·rw [lvlC,if_pos (by omega)]
  exact .oA [] []
 obtain ⟨hp,h1,h2⟩:=jd h.1.1
 obtain ⟨k,rfl⟩:=Int.eq_ofNat_of_zero_le (show 0≤c by omega)
 refine C1.im (ki l k hp (by omega) (by omega)) (by rfl) (by rfl) ?_
 rw [lvlC,if_neg (by omega),Int.toNat_natCast]
 refine sW ?_
 exact .oA [] []
end Go.Proofs
namespace Go.Proofs
open Go Go.TL
def atN (cs:List Cod) (lev:Int) (n:Nat):List Int:=List.map (fun i:Nat=>(i:Int)) ((List.range n).filter fun i=>(dep cs i:Int) == lev)
theorem jf0 (cs:List Cod) (lev:Int) (n:Nat):atN cs lev (n + 1) = atN cs lev n ++ (if (dep cs n:Int) = lev then [(n:Int)] else []):=by
 unfold atN
 rw [List.range_succ,List.filter_append,List.map_append]
 congr 1
 by_cases h:(dep cs n:Int) = lev <;> simp [h]
theorem jr7 (cs:List Cod) (lev:Int) (n:Nat):(atN cs lev n).length≤n:=by
 unfold atN
 rw [List.length_map]
 exact Nat.le_trans (List.length_filter_le _ _) (by simp)
theorem zF0 (l:CodL) (lev:Int) (hl:l.codes.length < 4611686018427387904):Spc Tryz.prog ql0 [cdlT l,vI lev] [] (vIs (atL l lev)) []:=by
 refine qe zo4 mixm (by simp) fun e _ hst=>qh ?_
 unfold qb4
 refine sW ?_
 refine C1.im (wQ l hl) (by rfl) (by rfl) ?_
 simp only [tZ,↓un_u,simprocAttr,bne_iff_ne,bne_eq_false_iff_eq]
 refine ⟨fun h=>?_,fun h=>?_⟩
 ·rw [atL,if_pos h]
  exact .oA [] []
 obtain ⟨hp,h1,h2⟩:=jd h
 have e:atL l lev = atN l.codes lev l.codes.length:=by rw [atL,if_neg (by rw [h];simp)];rfl
 rw [e]
 refine qr mixm (α:=Nat) [5,6] (fun i=>i≤l.codes.length) (fun i=>[(5,.asl 1 (atN l.codes lev i).length),(6,vI i)]) (fun i=>[(4096,.arr 2 [cdlT l] false),(1,.arr 1 ((atN l.codes lev i).map vI) false)]) (fun i=>l.codes.length - i) 0 (by omega) ?_ fun i hi=>?_
 ·simp only [atN,List.range_zero,List.filter_nil,List.map_nil,List.length_nil]
  exact .oA [(4096,some 4096),(1,none)] []
 have hli:=jr7 l.codes lev i
 refine sD ?_
 refine ⟨fun h3=>?_,fun h3=>?_⟩
 ·have hi2:i < l.codes.length:=by omega
  have hwi:=qg (i:=i) (by omega)
  have hs:=jf0 l.codes lev i
  refine C1.im (ki l i hp hi2 (by omega)) (by rfl) (by rfl) ?_
  simp only [tZ,↓un_u,simprocAttr,beq_iff_eq,beq_eq_false_iff_ne,hwi]
  refine ⟨fun h4=>?_,fun h4=>?_⟩
  ·rw [if_pos h4] at hs
   refine ⟨by omega,i + 1,by omega,by omega,?_⟩
   rw [hs]
   exact .oA [(4096,some 4096),(1,some 1)] []
  ·rw [if_neg h4,List.append_nil] at hs
   refine ⟨i + 1,by omega,by omega,?_⟩
   rw [hs]
   exact .oA [(4096,some 4096),(1,some 1)] []
 ·have hil:i = l.codes.length:=by omega
  subst hil
  exact .oA [] [1]
end Go.Proofs
namespace Go.Proofs
open Go Go.TL
open So
theorem jf1 {cs:List Cod} (h:qU3 cs) (lev:Nat):∀ (c f g:Nat),c < cs.length→c < f→c < g→upF cs lev f c = upF cs lev g c:=by
 intro c
 induction c using Nat.strongRecOn with
 | _ c ih=>
   intro f g hc hf hg
   obtain ⟨f,rfl⟩:∃ k,f = k + 1:=⟨f - 1,by omega⟩
   obtain ⟨g,rfl⟩:∃ k,g = k + 1:=⟨g - 1,by omega⟩
   simp only [upF]
   have hp:=h c hc
   split
   ·rename_i h1
    have h0:¬ parC cs c < 0:=fun e=>by rw [qs0 e] at h1;omega
    rw [ih (parC cs c).toNat (by omega) f g (by omega) (by omega) (by omega)]
   ·rfl
theorem up_step {cs:List Cod} (h:qU3 cs) {lev c:Nat} (hc:c < cs.length) (hl:lev < dep cs c):0≤parC cs c∧parC cs c < c∧dep cs c = dep cs (parC cs c).toNat + 1∧upF cs lev (c + 1) c = upF cs lev ((parC cs c).toNat + 1) (parC cs c).toNat:=by
 have hp:=h c hc
 have h0:¬ parC cs c < 0:=fun e=>by rw [qs0 e] at hl;omega
 refine ⟨by omega,by omega,zo8 h hc (by omega),?_⟩
 rw [upF,if_pos hl]
 exact jf1 h lev _ _ _ (by omega) (by omega) (by omega)
theorem jo1 {cs:List Cod} {lev c:Nat} (hl:dep cs c≤lev) (f:Nat):upF cs lev f c = c:=by
 cases f with
 | zero=>rfl
 | succ f=>rw [upF,if_neg (by omega)]
theorem qH8 (l:CodL) (c:Int) (hp:qU3 l.codes) (hc:0≤c∧c < l.codes.length) (hl:l.codes.length≤1000):Spc Tryz.prog ze [cdlT l,vI c] [] (vI (dep l.codes c.toNat)) []:=by
 obtain ⟨k,rfl⟩:=Int.eq_ofNat_of_zero_le hc.1
 rw [Int.toNat_natCast]
 exact ki l k hp (by omega) hl
theorem qM2 (l:CodL) (c lev:Int) (hl:l.codes.length < 4611686018427387904):Spc Tryz.prog Yg [cdlT l,vI c,vI lev] [] (vI (upC l c lev)) []:=by
 have hdp:(lstE l != 0 || decide (c < 0) || decide ((l.codes.length:Int)≤c) || decide (lev < 0)) = false→Spc Tryz.prog ze [cdlT l,vI c] [] (vI (dep l.codes c.toNat)) []:=fun hg=>by
  simp only [tD,bne_eq_false_iff_eq] at hg
  obtain ⟨hp,_,h2⟩:=jd hg.1.1.1
  exact qH8 l c hp (by omega) (by omega)
 refine qe zo2 mixm (by simp) fun e _ hst=>qh ?_
 unfold qb3
 refine sW ?_
 refine C1.im (wQ l hl) (by rfl) (by rfl) ?_
 refine sW ?_
 refine C2.im hdp (fun _=>rfl) (by rfl) ?_
 simp only [tZ,↓un_u,simprocAttr,tD,bne_iff_ne,bne_eq_false_iff_eq]
 refine ⟨fun h=>?_,fun h=>?_⟩
 ·rw [upC,if_pos (by omega)]
  exact .oA [] []
 obtain ⟨hp,h1,h2⟩:=jd h.1.1.1.1
 obtain ⟨k,rfl⟩:=Int.eq_ofNat_of_zero_le (show 0≤c by omega)
 obtain ⟨v,rfl⟩:=Int.eq_ofNat_of_zero_le (show 0≤lev by omega)
 rw [upC,if_neg (by omega),Int.toNat_natCast,Int.toNat_natCast]
 rw [Int.toNat_natCast] at h
 refine qr mixm (α:=Nat) [1,31] (fun x=>x < l.codes.length∧upF l.codes v (k + 1) k = upF l.codes v (x + 1) x) (fun x=>[(1,vI x)]) (fun x=>[(4096,.arr 2 [cdlT l] false)]) (fun x=>x) k ⟨by omega,rfl⟩ ?_ fun x hx=>?_
 ·exact .oA [(4096,some 4096)] []
 obtain ⟨x1,x2⟩:=hx
 have hcd:l.codes[x].par = parC l.codes x:=by rw [parC,cdAt,qj x1]
 refine sW ?_
 refine C1.im (ki l x hp x1 (by omega)) (by rfl) (by rfl) ?_
 refine sD ?_
 refine ⟨fun h3=>?_,fun h3=>?_⟩
 ·obtain ⟨u1,u2,u3,u4⟩:=up_step hp (lev:=v) x1 (by omega)
  obtain ⟨p,hpe⟩:=Int.eq_ofNat_of_zero_le u1
  simp only [tZ,↓un_u,simprocAttr,Int.toNat_natCast,qd x1,hcd,hpe]
  rw [hpe,Int.toNat_natCast] at u4
  refine ⟨by omega,p,⟨by omega,x2.trans u4⟩,by omega,?_⟩
  exact .oA [(4096,some 4096)] []
 ·rw [x2,jo1 (by omega)]
  exact .oA [] []
theorem qU5 (l:CodL) (c a:Int) (hl:l.codes.length < 4611686018427387904):Spc Tryz.prog Kk [cdlT l,vI c,vI a] [] (vB (zz5 l c a)) []:=by
 refine qe qH7 mixm (by simp) fun e _ hst=>qh ?_
 unfold Ju
 refine sW ?_
 refine C1.im (KI l a hl) (by rfl) (by rfl) ?_
 refine sW ?_
 refine C2.im (fun _=>KI l c hl) (fun _=>rfl) (by rfl) ?_
 refine sW ?_
 refine C2.im (fun _=>qM2 l c (lvlC l a) hl) (fun _=>rfl) (by rfl) ?_
 refine sW ?_
 rw [show (decide (0≤lvlC l a) && decide (lvlC l a≤lvlC l c) && (upC l c (lvlC l a) == a)) = zz5 l c a from rfl]
 exact .oA [] []
def WM:List Int→List Int→Bool:=Zo fun x y:Int=>x == y
theorem JL {a b:List Int}:WM a b = true↔a = b:=qe3 fun x y=>beq_iff_eq
theorem yG (a b:List Int) (ha:a.length < 4611686018427387904):Spc Tryz.prog jO [vIs a,vIs b] [] (vB (WM a b)) []:=by
 refine qe qR0 mixm (by simp) fun e _ hst=>qh ?_
 unfold Kp
 simp only [tZ,↓un_u,simprocAttr,bne_iff_ne,bne_eq_false_iff_eq]
 refine ⟨fun h=>?_,fun h=>?_⟩
 ·rw [WM,Ye (by omega)]
  exact .oA [] []
 have hl:a.length = b.length:=by omega
 refine qr mixm (α:=Nat) [5] (fun i=>i≤a.length∧(WM (a.take i) (b.take i) = true)) (fun i=>[(5,vI i)]) (fun i=>[]) (fun i=>a.length - i) 0 ⟨by omega,?_⟩ ?_ fun i hi=>?_
 ·rfl
 ·exact .oA [] []
 simp only [tZ,↓un_u,simprocAttr,decide_eq_true_eq,decide_eq_false_iff_not]
 refine ⟨fun h=>?_,fun h=>?_⟩
 ·have hib:i < b.length:=by omega
  have hi2:i < a.length:=by omega
  have hwi:=qg (i:=i) (by omega)
  simp only [tZ,↓un_u,simprocAttr,Int.toNat_natCast,qd hi2,hwi,qd hib]
  refine ⟨by omega,by omega,by kernel_rfl,fun h3=>?_,fun h3=>⟨i + 1,⟨by omega,?_⟩,by omega,?_⟩⟩
  ·rw [WM,QM (i:=i) hl (by omega) (by simpa using h3)]
   exact .oA [] []
  ·rw [WM,QE hi2 hib,← WM,hi.2]
   simpa using h3
  ·exact .oA [] []
 ·have hi2:i = a.length:=by omega
  subst hi2
  have h3:=hi.2
  rw [List.take_length,List.take_of_length_le (by omega)] at h3
  rw [h3]
  exact .oA [] []
def WN:List (List Int)→List (List Int)→Bool:=Zo WM
theorem qM3 {a b:List (List Int)}:WN a b = true↔a = b:=qe3 fun x y=>JL
theorem qo6 (a b:List (List Int)) (ha:a.length < 4611686018427387904) (hr:∀ r∈a,r.length < 4611686018427387904):Spc Tryz.prog Zv [vRw a,vRw b] [] (vB (WN a b)) []:=by
 refine qe qR4 mixm (by simp) fun e _ hst=>qh ?_
 unfold Kr
 simp only [tZ,↓un_u,simprocAttr,bne_iff_ne,bne_eq_false_iff_eq]
 refine ⟨fun h=>?_,fun h=>?_⟩
 ·rw [WN,Ye (by omega)]
  exact .oA [] []
 have hl:a.length = b.length:=by omega
 refine qr mixm (α:=Nat) [5] (fun i=>i≤a.length∧(WN (a.take i) (b.take i) = true)) (fun i=>[(5,vI i)]) (fun i=>[]) (fun i=>a.length - i) 0 ⟨by omega,?_⟩ ?_ fun i hi=>?_
 ·rfl
 ·exact .oA [] []
 simp only [tZ,↓un_u,simprocAttr,decide_eq_true_eq,decide_eq_false_iff_not]
 refine ⟨fun h=>?_,fun h=>?_⟩
 ·have hib:i < b.length:=by omega
  have hi2:i < a.length:=by omega
  have hwi:=qg (i:=i) (by omega)
  simp only [tZ,↓un_u,simprocAttr,Int.toNat_natCast,qd hi2,hwi,qd hib]
  refine ⟨by omega,by omega,?_⟩
  refine C1.im (yG a[i] b[i] (hr _ (List.getElem_mem hi2))) (by rfl) (by rfl) ?_
  simp only [tZ,↓un_u,simprocAttr,Bool.not_eq_true',Bool.not_eq_false']
  refine ⟨by kernel_rfl,fun h3=>?_,fun h3=>⟨i + 1,⟨by omega,?_⟩,by omega,?_⟩⟩
  ·rw [WN,QM (i:=i) hl (by omega) h3]
   exact .oA [] []
  ·rw [WN,QE hi2 hib,← WN,hi.2,h3]
   rfl
  ·exact .oA [] []
 ·have hi2:i = a.length:=by omega
  subst hi2
  have h3:=hi.2
  rw [List.take_length,List.take_of_length_le (by omega)] at h3
  rw [h3]
  exact .oA [] []
theorem yn (l:List Int) (n:Int) (hl:l.length < 4611686018427387904):Spc Tryz.prog jP [vIs l,vI n] [] (vB (l.contains n)) []:=by
 refine qe zf6 mixm (by simp) fun e _ hst=>qh ?_
 unfold WB
 refine sW ?_
 refine qr mixm (α:=Nat) [5] (fun i=>i≤l.length∧((l.take i).any (fun x=>x == n) = false)) (fun i=>[(5,vI i)]) (fun i=>[]) (fun i=>l.length - i) 0 ⟨by omega,?_⟩ ?_ fun i hi=>?_
 ·rfl
 ·exact .oA [] []
 simp only [tZ,↓un_u,simprocAttr,decide_eq_true_eq,decide_eq_false_iff_not]
 refine ⟨fun h=>?_,fun h=>?_⟩
 ·have hi2:i < l.length:=by omega
  have hwi:=qg (i:=i) (by omega)
  simp only [tZ,↓un_u,simprocAttr,Int.toNat_natCast,qd hi2,hwi]
  refine ⟨by omega,fun h3=>?_,fun h3=>⟨i + 1,⟨by omega,zP hi2 hi.2 h3⟩,by omega,?_⟩⟩
  ·rw [show l.contains n = true from List.contains_iff_mem.2 ((beq_iff_eq.1 h3) ▸ List.getElem_mem hi2)]
   exact .oA [] []
  ·exact .oA [] []
 ·have hi2:i = l.length:=by omega
  subst hi2
  have h3:=hi.2
  rw [List.take_length] at h3
  have:l.contains n = false:=by
   rw [← h3,Bool.eq_iff_iff,List.contains_iff_mem,List.any_eq_true]
   exact ⟨fun h=>⟨n,h,by simp⟩,fun ⟨x,h,e⟩=>beq_iff_eq.1 e ▸ h⟩
  rw [this]
  exact .oA [] []
def putN (l:List Int) (n:Int) (i:Nat):List Int:=if l.findIdx (fun y=>!ltI y n) < i then l.take (l.findIdx fun y=>!ltI y n) ++ n :: (l.take i).drop (l.findIdx fun y=>!ltI y n) else l.take i
theorem jf2 (l:List Int) (n:Int) (i:Nat):(putN l n i).length≤i + 1:=by
 unfold putN
 split <;> simp <;> omega
theorem zV1 {l:List Int} {n:Int} {i:Nat} (hn:n∉l) (h:i < l.length):putN l n (i + 1) = if (decide (l[i] > n) && !decide (l.findIdx (fun y=>!ltI y n) < i)) = true then putN l n i ++ [n] ++ [l[i]] else putN l n i ++ [l[i]]:=by
 have hne:l[i]≠n:=fun e=>hn (e ▸ List.getElem_mem h)
 have h1:∀ j (hl:j < l.length),j < l.findIdx (fun y=>!ltI y n)→l[j] < n:=fun j hl hj=>by
  have:=List.not_of_lt_findIdx hj
  simpa [ltI] using this
 have h2:∀ j (hl:j < l.length),j = l.findIdx (fun y=>!ltI y n)→¬ l[j] < n:=fun j hl e=>by
  have:=List.findIdx_getElem (p:=fun y=>!ltI y n) (xs:=l) (w:=e ▸ hl)
  have e2:l[l.findIdx fun y=>!ltI y n]'(e ▸ hl) = l[j]:=by congr 1;exact e.symm
  rw [e2] at this
  simpa [ltI] using this
 unfold putN
 generalize l.findIdx (fun y=>!ltI y n) = F at h1 h2
 by_cases c:(decide (l[i] > n) && !decide (F < i)) = true
 ·rw [if_pos c]
  simp only [Bool.and_eq_true,decide_eq_true_eq,Bool.not_eq_true',decide_eq_false_iff_not] at c
  have:F = i:=by
   refine Classical.byContradiction fun k=>?_
   have:=h1 i h (by omega)
   omega
  subst this
  rw [if_pos (by omega),if_neg (by omega),qD h,List.drop_append_of_le_length (by simp;omega),List.drop_of_length_le (by simp;omega)]
  simp
 ·rw [if_neg c]
  simp only [Bool.and_eq_true,decide_eq_true_eq,Bool.not_eq_true',decide_eq_false_iff_not] at c
  by_cases k:F < i
  ·rw [if_pos (by omega),if_pos k,qD h,List.drop_append_of_le_length (by simp;omega)]
   simp
  ·have:¬ F < i + 1:=fun k2=>by
    have:F = i:=by omega
    subst this
    have:=h2 F h rfl
    omega
   rw [if_neg this,if_neg k,qD h]
theorem zo9 (l:List Int) (n:Int) (hl:l.length < 1000000000):Spc Tryz.prog YT [vIs l,vI n] [] (vIs (insU ltI eqI2 l n)) []:=by
 refine qe zg2 mixm (by simp) fun e _ hst=>qh ?_
 unfold WG
 refine sW ?_
 refine C1.im (yn l n (by omega)) (by rfl) (by rfl) ?_
 refine sW ?_
 refine ⟨fun h=>?_,fun h=>?_⟩
 ·rw [insU,if_pos (by rw [qP9 eqI2_iff];exact List.contains_iff_mem.1 h)]
  exact .oA [] []
 have hn:n∉l:=fun e=>by rw [List.contains_iff_mem.2 e] at h;cases h
 rw [insU,if_neg (by rw [qP9 eqI2_iff];exact hn)]
 have hst2:=fun i (h:i < l.length)=>zV1 hn h
 have hP:∀ i,putN l n i = if l.findIdx (fun y=>!ltI y n) < i then l.take (l.findIdx fun y=>!ltI y n) ++ n :: (l.take i).drop (l.findIdx fun y=>!ltI y n) else l.take i:=fun i=>rfl
 have hI:insB ltI l n = l.take (l.findIdx fun y=>!ltI y n) ++ n :: l.drop (l.findIdx fun y=>!ltI y n):=rfl
 have hFl:l.findIdx (fun y=>!ltI y n)≤l.length:=List.findIdx_le_length
 rw [hI]
 generalize l.findIdx (fun y=>!ltI y n) = F at hst2 hP hFl ⊢
 refine qr mixm (α:=Nat) [5,6,7] (fun i=>i≤l.length) (fun i=>[(5,.asl 1 (putN l n i).length),(6,vB (decide (F < i))),(7,vI i)]) (fun i=>[(1,.arr 1 ((putN l n i).map vI) false)]) (fun i=>l.length - i) 0 (by omega) ?_ fun i hi=>?_
 ·rw [hP,if_neg (by omega)]
  exact .oA [(1,none)] []
 have hpl:=jf2 l n i
 simp only [tZ,↓un_u,simprocAttr,decide_eq_true_eq,decide_eq_false_iff_not]
 refine ⟨fun h=>?_,fun h=>?_⟩
 ·have hs:=hst2 i (by omega)
  have hi2:i < l.length:=by omega
  have hwi:=qg (i:=i) (by omega)
  simp only [tZ,↓un_u,simprocAttr,Int.toNat_natCast,qd hi2,hwi]
  refine ⟨by omega,fun h3=>?_,fun h3=>?_⟩
  ·rw [if_pos h3] at hs
   simp only [tD,Bool.not_eq_true'] at h3
   have e:decide (F < i + 1) = true:=by
    refine decide_eq_true (Classical.byContradiction fun k=>?_)
    have h4:putN l n (i + 1) = l.take (i + 1):=by rw [hP,if_neg k]
    have:=congrArg List.length (hs.symm.trans h4)
    have h5:putN l n i = l.take i:=by rw [hP,if_neg (by omega)]
    rw [h5] at this
    simp at this
    omega
   refine ⟨by omega,by omega,by omega,i + 1,by omega,by omega,?_⟩
   rw [hs,e]
   exact .oA [(1,some 1)] []
  ·rw [if_neg (by rw [h3];simp)] at hs
   have e:decide (F < i + 1) = decide (F < i):=by
    refine Bool.eq_iff_iff.2 ?_
    rw [decide_eq_true_eq,decide_eq_true_eq]
    refine ⟨fun k=>Classical.byContradiction fun k2=>?_,fun k=>by omega⟩
    have h5:putN l n i = l.take i:=by rw [hP,if_neg k2]
    have h4:putN l n (i + 1) = l.take F ++ n :: (l.take (i + 1)).drop F:=by rw [hP,if_pos k]
    have:=congrArg List.length (hs.symm.trans h4)
    rw [h5] at this
    simp at this
    omega
   refine ⟨by omega,by omega,i + 1,by omega,by omega,?_⟩
   rw [hs,e]
   exact .oA [(1,some 1)] []
 ·have hi2:i = l.length:=by omega
  subst hi2
  refine ⟨fun h3=>?_,fun h3=>?_⟩
  ·have e:putN l n l.length = l:=by rw [hP,if_neg h3,List.take_length]
   have e2:F = l.length:=by omega
   rw [e,e2,List.take_length,List.drop_length]
   refine ⟨by omega,?_⟩
   exact .oA [] [1]
  ·have e:putN l n l.length = l.take F ++ n :: l.drop F:=by rw [hP,if_pos (by simpa using h3),List.take_length]
   rw [e]
   exact .oA [] [1]
end Go.Proofs
namespace Go.Proofs
open Go Go.TL
def inB (n lo hi:Int):Bool:=decide (lo≤n) && decide (n≤hi)
def wdOk (ws:List Int) (i:Nat):Bool:=if i = 0 then ws.getD 0 0 == 1 else decide (ws.getD (i - 1) 0 < ws.getD i 0) && decide (ws.getD i 0≤1000000) && ((ws.getD i 0).tmod (ws.getD (i - 1) 0) == 0)
def jr8 (ws:List Int):Bool:=(List.range ws.length).all (wdOk ws)
def measE (c:Col):Int:=
 if inB c.low (-1000000) 1000000 = false∨inB c.high (-1000000) 1000000 = false∨c.low > c.high then 2
 else if c.widths.length < 1∨c.widths.length > 4 then 1 else if jr8 c.widths = false then 2 else 0
abbrev qu (s:Sch) (i:Nat):Col:=s.cols.getD i default
def colE (s:Sch) (i:Nat):Int:=
 if jV (qu s i).name = false then 3
 else if ((s.cols.take i).any fun x=>eqB x.name (qu s i).name) = true then 10
 else if inB (qu s i).kind 1 3 = false∨(0 < i∧(qu s i).kind = 1) then 4
 else if (qu s i).kind = 2∧inB (qu s i).list 0 (s.lists.length - 1) = false then 5
 else if (qu s i).kind = 3∧measE (qu s i)≠0 then measE (qu s i)
 else if ((qu s i).kind≠2∧(qu s i).list≠0)∨((qu s i).kind≠3∧((qu s i).low≠0∨(qu s i).high≠0∨0 < (qu s i).widths.length∨(qu s i).opt = true)) then 11 else 0
def Zl (s:Sch):Nat→Int
 | 0=>0
 | n + 1=>if Zl s n≠0 then Zl s n else if lstE (s.lists.getD n default)≠0 then lstE (s.lists.getD n default)
   else if ((s.lists.take n).any fun x=>eqB x.name (s.lists.getD n default).name) = true then 10 else 0
def Yw (s:Sch):Nat→Int
 | 0=>0
 | n + 1=>if Yw s n≠0 then Yw s n else colE s n
def schE (s:Sch):Int:=
 if s.lists.length > 6∨s.cols.length > 8 then 1 else if Zl s s.lists.length≠0 then Zl s s.lists.length
 else if s.cols.length = 0∨(qu s 0).kind≠1 then 7 else Yw s s.cols.length
abbrev zG (s:Sch) (i:Nat):CodL:=s.lists.getD (qu s i).list.toNat default
def Yx:Int:=-1099511627776
def wX (s:Sch) (i:Nat) (v:Int):Bool:=
 if (qu s i).kind = 1 then inB v 1 1048575
 else if (qu s i).kind = 2 then inB v 0 ((zG s i).codes.length - 1) && (lvlC (zG s i) v == yY (zG s i) - 1)
 else ((qu s i).opt && (v == Yx)) || inB v (qu s i).low (qu s i).high
def rowE (s:Sch) (row:List Int):Int:=
 if schE s≠0 then schE s else if row.length≠s.cols.length then 9
 else if ((List.range row.length).all fun i=>wX s i (row.getD i 0)) = false then 9 else 0
def finI (s:Sch) (c:Int):Int:=
 if schE s≠0∨c < 1∨c≥s.cols.length then -1
 else if (qu s c.toNat).kind = 2 then yY (zG s c.toNat) - 1 else (qu s c.toNat).widths.length
def jW (a b:Int):Int:=a.fdiv b
def ja (s:Sch) (c:Nat):List Int:=atL (zG s c) (yY (zG s c) - 1)
def zH (c:Col) (lev:Int):Int:=c.widths.getD (c.widths.length - lev).toNat 0
def jb (s:Sch) (c lev v:Int):Int:=
 if inB lev 0 (finI s c) = false then -1
 else if (qu s c.toNat).kind = 2 then (if wX s c.toNat v = false then -1 else upC (zG s c.toNat) v lev)
 else if v≠Yx∧inB v (-1000000) 1000000 = false then -1
 else if lev = 0 then 0 else if v = Yx then v else jW v (zH (qu s c.toNat) lev) * zH (qu s c.toNat) lev
def eqPk (x y:Pk):Bool:=(x.col == y.col) && (x.lev == y.lev)
def yH (a b:List Pk):Bool:=Zo eqPk a b
end Go.Proofs
namespace Go.Proofs
open Go Go.TL
theorem jk (n lo hi:Int):Spc Tryz.prog zA [vI n,vI lo,vI hi] [] (vB (inB n lo hi)) []:=by
 refine qe zo0 mixm (by simp) fun e _ hst=>qh ?_
 unfold qb2
 refine sW ?_
 rw [show (decide (lo≤n) && decide (n≤hi)) = inB n lo hi from rfl]
 exact .oA [] []
theorem zV2 {ws:List Int}:∀ {i:Nat},(∀ j,j < i→wdOk ws j = true)→∀ j,j < i→1≤ws.getD j 0
 | 0,_,j,h=>by omega
 | i + 1,hw,j,h=>by
   have ih:=zV2 (ws:=ws) (i:=i) fun j hj=>hw j (by omega)
   have:=hw j h
   unfold wdOk at this
   split at this
   ·rename_i e;subst e
    have:ws.getD 0 0 = 1:=by simpa using this
    omega
   ·simp only [Bool.and_eq_true,decide_eq_true_eq] at this
    have:=ih (j - 1) (by omega)
    omega
theorem qy3 (c:Col):Spc Tryz.prog QS [colT c] [] (vI (measE c)) []:=by
 refine qe qq9 mixm (by simp) fun e _ hst=>qh ?_
 unfold yW
 refine sW ?_
 refine C1.im (jk c.low (-1000000) 1000000) (by rfl) (by rfl) ?_
 refine sW ?_
 refine C2.im (fun _=>jk c.high (-1000000) 1000000) (fun _=>rfl) (by rfl) ?_
 simp only [tZ,↓un_u,simprocAttr,tD,Bool.not_eq_true',Bool.not_eq_false']
 refine ⟨fun h=>?_,fun h=>?_⟩
 ·rw [measE,if_pos (by grind)]
  exact .oA [] []
 ·refine ⟨fun h2=>?_,fun h2=>?_⟩
  ·rw [measE,if_neg (by grind),if_pos (by grind)]
   exact .oA [] []
  ·have hm:measE c = if jr8 c.widths = false then 2 else 0:=by rw [measE,if_neg (by grind),if_neg (by grind)]
   refine qr mixm (α:=Nat) [3] (fun i=>i≤c.widths.length∧(∀ j,j < i→wdOk c.widths j = true)) (fun i=>[(3,vI i)]) (fun i=>[(4096,.arr 7 [colT c] false)]) (fun i=>c.widths.length - i) 0 ⟨by omega,?_⟩ ?_ fun i hi=>?_
   ·intro j hj;omega
   ·exact .oA [(4096,some 4096)] []
   have hbad:i < c.widths.length→wdOk c.widths i = false→measE c = 2:=fun h1 h2=>by
    rw [hm,if_pos]
    exact List.all_eq_false.2 ⟨i,List.mem_range.2 h1,by rw [h2];simp⟩
   have hok:wdOk c.widths i = true→∀ j,j < i + 1→wdOk c.widths j = true:=fun h1 j hj=>by
    by_cases e:j = i
    ·rw [e];exact h1
    ·exact hi.2 j (by omega)
   simp only [tZ,↓un_u,simprocAttr,decide_eq_true_eq,decide_eq_false_iff_not]
   refine ⟨fun h=>?_,fun h=>?_⟩
   ·rcases Nat.eq_zero_or_pos i with h0 | h0
    ·subst h0
     have hw0:wdOk c.widths 0 = (c.widths.getD 0 0 == 1):=by rw [wdOk,if_pos rfl]
     have hlen:0 < c.widths.length:=by omega
     rw [qj hlen] at hw0
     have hz:((0:Nat):Int) = 0:=rfl
     have hz2:(IntKind.i64.wrap (-1)).toNat = 0:=by decide
     have hz3:=qg (i:=0) (by omega)
     rw [hz] at hz3
     simp only [tZ,↓un_u,simprocAttr,Int.toNat_natCast,hz,beq_self_eq_true,gt_iff_lt,Int.lt_irrefl,Bool.true_and,hz2,qd hlen,hz3]
     refine ⟨by omega,fun h3=>?_,fun h3=>?_⟩
     ·rw [hbad hlen (by rw [hw0];simpa using h3)]
      exact .oA [] []
     ·refine ⟨1,⟨by omega,hok (by rw [hw0];simpa using h3)⟩,by omega,?_⟩
      exact .oA [(4096,some 4096)] []
    ·obtain ⟨k,rfl⟩:∃ k,i = k + 1:=⟨i - 1,by omega⟩
     have hk2:k + 1 < c.widths.length:=by omega
     have hk3:k < c.widths.length:=by omega
     have e1:(((k + 1:Nat):Int) == 0) = false:=beq_eq_false_iff_ne.2 (by omega)
     have e2:decide (((k + 1:Nat):Int) > 0) = true:=decide_eq_true (by omega)
     have hw1:wdOk c.widths (k + 1) = (decide (c.widths[k] < c.widths[k + 1]) && decide (c.widths[k + 1]≤1000000) && (c.widths[k + 1].tmod c.widths[k] == 0)):=by
          rw [wdOk,if_neg (by omega),Nat.add_sub_cancel,qj hk2,qj hk3]
     have hp1:=zV2 (ws:=c.widths) hi.2 k (by omega)
     rw [qj hk3] at hp1
     have hws:=qg (i:=k + 1) (by omega)
     have e3:=zk (i:=k + 1) (by omega) (by omega)
     rw [Nat.add_sub_cancel] at e3
     simp only [tZ,↓un_u,simprocAttr,Int.toNat_natCast,qd hk2,qd hk3,e1,e2,e3,hws]
     refine ⟨by omega,by omega,fun _=>by omega,fun _=>by omega,fun h3=>?_,fun h3=>?_⟩
     ·rw [hbad hk2 (by rw [hw1];grind)]
      exact .oA [] []
     ·refine ⟨k + 2,⟨by omega,hok (by rw [hw1];grind)⟩,by omega,?_⟩
      exact .oA [(4096,some 4096)] []
   ·have hi2:i = c.widths.length:=by omega
    subst hi2
    rw [hm,if_neg]
    ·exact .oA [] []
    ·rw [Bool.not_eq_false]
     exact List.all_eq_true.2 fun j hj=>hi.2 j (List.mem_range.1 hj)
theorem qH9 (s:Sch) (i:Nat) (hi:i < s.cols.length) (hn:s.cols.length < 4611686018427387904) (hl:s.lists.length < 4611686018427387904):Spc Tryz.prog ZL [schT s,vI i] [] (vI (colE s i)) []:=by
 have hat:qu s i = s.cols[i]:=by rw [qu,qj hi]
 have hE:colE s i = if jV s.cols[i].name = false then 3
  else if ((s.cols.take i).any fun x=>eqB x.name s.cols[i].name) = true then 10
  else if inB s.cols[i].kind 1 3 = false∨(0 < i∧s.cols[i].kind = 1) then 4
  else if s.cols[i].kind = 2∧inB s.cols[i].list 0 (s.lists.length - 1) = false then 5
  else if s.cols[i].kind = 3∧measE s.cols[i]≠0 then measE s.cols[i]
  else if (s.cols[i].kind≠2∧s.cols[i].list≠0)∨(s.cols[i].kind≠3∧(s.cols[i].low≠0∨s.cols[i].high≠0∨0 < s.cols[i].widths.length∨s.cols[i].opt = true)) then 11 else 0:=by rw [colE,hat]
 rw [hE]
 refine qe qx6 mixm (by simp) fun e _ hst=>qh ?_
 unfold Zf
 simp only [tZ,↓un_u,simprocAttr,Int.toNat_natCast,qd hi]
 generalize s.cols[i] = c
 refine ⟨by omega,?_⟩
 refine C1.im (we c.name) (by rfl) (by rfl) ?_
 simp only [tZ,↓un_u,simprocAttr,Bool.not_eq_true',Bool.not_eq_false']
 refine ⟨fun h=>?_,fun h=>?_⟩
 ·rw [if_pos h]
  exact .oA [] []
 rw [if_neg (by rw [h];simp)]
 refine qr mixm (α:=Nat) [6] (fun k=>k≤i∧(s.cols.take k).any (fun x=>eqB x.name c.name) = false) (fun k=>[(6,vI k)]) (fun k=>[(4096,.arr 2 [schT s] false),(8212,.arr 7 [colT c] false)]) (fun k=>i - k) 0 ⟨by omega,rfl⟩ ?_ fun k hk=>?_
 ·exact .oA [(4096,some 4096),(8212,some 8212)] []
 simp only [tZ,↓un_u,simprocAttr,decide_eq_true_eq,decide_eq_false_iff_not]
 refine ⟨fun h=>?_,fun h=>?_⟩
 ·have hk2:k < s.cols.length:=by omega
  have hwk:=qg (i:=k) (by omega)
  simp only [tZ,↓un_u,simprocAttr,Int.toNat_natCast,qd hk2,hwk]
  refine ⟨by omega,by kernel_rfl,fun h7=>?_,fun h7=>?_⟩
  ·rw [if_pos (List.any_eq_true.2 ⟨s.cols[k],List.mem_take_iff_getElem.2 ⟨k,by omega,rfl⟩,h7⟩)]
   exact .oA [] []
  ·refine ⟨k + 1,⟨by omega,zP hk2 hk.2 h7⟩,by omega,?_⟩
   exact .oA [(4096,some 4096),(8212,some 8212)] []
 ·have hki:k = i:=by omega
  subst hki
  rw [if_neg (by rw [hk.2];simp)]
  refine C1.im (jk c.kind 1 3) (by rfl) (by rfl) ?_
  simp only [tZ,↓un_u,simprocAttr,tD,Bool.not_eq_true',Bool.not_eq_false',beq_iff_eq,beq_eq_false_iff_ne]
  refine ⟨fun h7=>?_,fun h7=>?_⟩
  ·rw [if_pos (by grind)]
   exact .oA [] []
  rw [if_neg (by grind)]
  have hw:IntKind.i64.wrap ((s.lists.length:Int) - 1) = (s.lists.length:Int) - 1:=IntWalk.i64_in _ (by omega)
  simp only [tZ,↓un_u,simprocAttr,hw]
  refine C2.im (fun _=>jk c.list 0 ((s.lists.length:Int) - 1)) (fun _=>rfl) (by rfl) ?_
  simp only [tZ,↓un_u,simprocAttr,tD,Bool.not_eq_true',Bool.not_eq_false',beq_iff_eq,beq_eq_false_iff_ne]
  refine ⟨fun h8=>?_,fun h8=>?_⟩
  ·rw [if_pos (by grind)]
   exact .oA [] []
  rw [if_neg (by grind)]
  have hend:∀ v:Int,(if c.kind = 3∧¬measE c = 0 then measE c else if ¬c.kind = 2∧¬c.list = 0∨¬c.kind = 3∧(¬c.low = 0∨¬c.high = 0∨0 < c.widths.length∨c.opt = true) then 11 else 0) = v→yb [] (T.v (Value.int IntKind.i64 v)) [(4096,Ob.arr 2 [schT s] false),(8212,Ob.arr 7 [colT c] false)] (vI (if c.kind = 3∧¬measE c = 0 then measE c else if ¬c.kind = 2∧¬c.list = 0∨¬c.kind = 3∧(¬c.low = 0∨¬c.high = 0∨0 < c.widths.length∨c.opt = true) then 11 else 0)) []:=fun v hv=>by
   rw [hv]
   exact .oA [] []
  refine ⟨fun h9=>?_,fun h9=>?_⟩
  ·refine C1.im (qy3 c) (by rfl) (by rfl) ?_
   simp only [tZ,↓un_u,simprocAttr,bne_iff_ne,bne_eq_false_iff_eq]
   refine ⟨fun h10=>hend _ (by rw [if_pos ⟨h9,h10⟩]),fun h10=>?_⟩
   simp only [tZ,↓un_u,simprocAttr,tD,bne_iff_ne,bne_eq_false_iff_eq]
   exact ⟨fun h11=>hend _ (by rw [if_neg (by grind),if_pos (by grind)]),fun h11=>hend _ (by rw [if_neg (by grind),if_neg (by grind)])⟩
  ·simp only [tZ,↓un_u,simprocAttr,tD,bne_iff_ne,bne_eq_false_iff_eq]
   exact ⟨fun h11=>hend _ (by rw [if_neg (by grind),if_pos (by grind)]),fun h11=>hend _ (by rw [if_neg (by grind),if_neg (by grind)])⟩
theorem zp0 {s:Sch} {i:Nat} (h:Zl s i≠0):∀ n,i≤n→Zl s n = Zl s i:=by
 intro n hn
 induction n with
 | zero=>have:i = 0:=by omega
         rw [this]
 | succ n ih=>
   by_cases e:i = n + 1
   ·rw [e]
   ·have:=ih (by omega)
    rw [Zl,this,if_pos h]
theorem zp1 {s:Sch} {i:Nat} (h:Yw s i≠0):∀ n,i≤n→Yw s n = Yw s i:=by
 intro n hn
 induction n with
 | zero=>have:i = 0:=by omega
         rw [this]
 | succ n ih=>
   by_cases e:i = n + 1
   ·rw [e]
   ·have:=ih (by omega)
    rw [Yw,this,if_pos h]
def KJ (s:Sch):Prop:=s.lists.length < 4611686018427387904∧s.cols.length < 4611686018427387904∧∀ l∈s.lists,l.codes.length < 4611686018427387904
theorem zS (s:Sch) (hs:KJ s):Spc Tryz.prog zm [schT s] [] (vI (schE s)) []:=by
 obtain ⟨hs1,hs2,hs3⟩:=hs
 refine qe qE3 mixm (by simp) fun e _ hst=>qh ?_
 unfold Jb
 refine sD ?_
 refine ⟨fun h=>?_,fun h=>?_⟩
 ·rw [schE,if_pos (by omega)]
  exact .oA [] []
 have hE1:Zl s s.lists.length≠0→schE s = Zl s s.lists.length:=fun k=>by rw [schE,if_neg (by omega),if_pos k]
 refine qr mixm (α:=Nat) [3,17] (fun i=>i≤s.lists.length∧Zl s i = 0) (fun i=>[(3,vI i)]) (fun i=>[(4096,.arr 2 [schT s] false)]) (fun i=>s.lists.length - i) 0 ⟨by omega,rfl⟩ ?_ fun i hi=>?_
 ·exact .oA [(4096,some 4096)] []
 obtain ⟨i1,i2⟩:=hi
 refine sD ?_
 refine ⟨fun h2=>?_,fun h2=>?_⟩
 ·have hi2:i < s.lists.length:=by omega
  have hwi:=qg (i:=i) (by omega)
  have hat:s.lists.getD i default = s.lists[i]:=qj hi2
  have hstep:Zl s (i + 1) = if lstE s.lists[i]≠0 then lstE s.lists[i] else if ((s.lists.take i).any fun x=>eqB x.name s.lists[i].name) = true then 10 else 0:=by
   rw [Zl,if_neg (by rw [i2];simp),hat]
  have hbad:Zl s (i + 1)≠0→schE s = Zl s (i + 1):=fun k=>by
   have:=zp0 k s.lists.length (by omega)
   rw [hE1 (by rw [this];exact k),this]
  simp only [tZ,↓un_u,simprocAttr,Int.toNat_natCast,qd hi2,hwi]
  refine ⟨by omega,?_⟩
  refine C1.im (wQ s.lists[i] (hs3 _ (List.getElem_mem hi2))) (by rfl) (by rfl) ?_
  simp only [tZ,↓un_u,simprocAttr,bne_iff_ne,bne_eq_false_iff_eq]
  refine ⟨fun h3=>?_,fun h3=>?_⟩
  ·rw [if_pos h3] at hstep
   rw [hbad (by rw [hstep];exact h3),hstep]
   exact .oA [] []
  rw [if_neg (by rw [h3];simp)] at hstep
  refine qr mixm (α:=Nat) [5] (fun k=>k≤i∧(s.lists.take k).any (fun x=>eqB x.name s.lists[i].name) = false) (fun k=>[(5,vI k)]) (fun k=>[(4096,.arr 2 [schT s] false)]) (fun k=>i - k) 0 ⟨by omega,rfl⟩ ?_ fun k hk=>?_
  ·exact .oA [(4096,some 4096)] []
  simp only [tZ,↓un_u,simprocAttr,decide_eq_true_eq,decide_eq_false_iff_not]
  refine ⟨fun h=>?_,fun h=>?_⟩
  ·have hk2:k < s.lists.length:=by omega
   have hwk:=qg (i:=k) (by omega)
   simp only [tZ,↓un_u,simprocAttr,Int.toNat_natCast,qd hk2,qd hi2,hwk]
   refine ⟨by omega,by omega,by kernel_rfl,fun h7=>?_,fun h7=>?_⟩
   ·rw [if_pos (List.any_eq_true.2 ⟨s.lists[k],List.mem_take_iff_getElem.2 ⟨k,by omega,rfl⟩,h7⟩)] at hstep
    rw [hbad (by rw [hstep];simp),hstep]
    exact .oA [] []
   ·refine ⟨k + 1,⟨by omega,zP hk2 hk.2 h7⟩,by omega,?_⟩
    exact .oA [(4096,some 4096)] []
  ·have hki:k = i:=by omega
   subst hki
   rw [if_neg (by rw [hk.2];simp)] at hstep
   simp only [tZ,↓un_u,simprocAttr,hwi]
   refine ⟨k + 1,⟨by omega,hstep⟩,by omega,?_⟩
   exact .oA [(4096,some 4096)] []
 ·have hil:i = s.lists.length:=by omega
  subst hil
  have hE2:s.cols.length = 0∨(qu s 0).kind≠1→schE s = 7:=fun k=>by rw [schE,if_neg (by omega),if_neg (by rw [i2];simp),if_pos k]
  have hE3:¬ (s.cols.length = 0∨(qu s 0).kind≠1)→schE s = Yw s s.cols.length:=fun k=>by rw [schE,if_neg (by omega),if_neg (by rw [i2];simp),if_neg k]
  have hz:((0:Nat):Int) = 0:=rfl
  by_cases h0:s.cols.length = 0
  ·have hn:s.cols = []:=List.length_eq_zero_iff.1 h0
   rw [hE2 (.inl h0)]
   simp only [tZ,↓un_u,simprocAttr,hn,List.length_nil,hz,beq_self_eq_true]
   exact .oA [] []
  ·have h0p:0 < s.cols.length:=by omega
   have e0:((s.cols.length:Int) == 0) = false:=beq_eq_false_iff_ne.2 (by omega)
   have hc0:qu s 0 = s.cols[0]:=by rw [qu,qj h0p]
   simp only [tZ,↓un_u,simprocAttr,e0,qd h0p,bne_iff_ne,bne_eq_false_iff_eq,Bool.false_or]
   refine ⟨by omega,fun h3=>?_,fun h3=>?_⟩
   ·rw [hE2 (.inr (by rw [hc0];exact h3))]
    exact .oA [] []
   have hE4:=hE3 (by rw [hc0];grind)
   refine qr mixm (α:=Nat) [6,63] (fun i=>i≤s.cols.length∧Yw s i = 0) (fun i=>[(6,vI i)]) (fun i=>[(4096,.arr 2 [schT s] false)]) (fun i=>s.cols.length - i) 0 ⟨by omega,rfl⟩ ?_ fun i hi=>?_
   ·exact .oA [(4096,some 4096)] []
   simp only [tZ,↓un_u,simprocAttr,decide_eq_true_eq,decide_eq_false_iff_not]
   refine ⟨fun h=>?_,fun h=>?_⟩
   ·have hi2:i < s.cols.length:=by omega
    have hwi:=qg (i:=i) (by omega)
    have hstep:Yw s (i + 1) = colE s i:=by rw [Yw,if_neg (by rw [hi.2];simp)]
    refine C1.im (qH9 s i hi2 hs2 hs1) (by rfl) (by rfl) ?_
    simp only [tZ,↓un_u,simprocAttr,bne_iff_ne,bne_eq_false_iff_eq,hwi]
    refine ⟨fun h4=>?_,fun h4=>?_⟩
    ·have:=zp1 (s:=s) (i:=i + 1) (by rw [hstep];exact h4) s.cols.length (by omega)
     rw [hE4,this,hstep]
     exact .oA [] []
    ·refine ⟨i + 1,⟨by omega,by rw [hstep];exact h4⟩,by omega,?_⟩
     exact .oA [(4096,some 4096)] []
   ·have hi2:i = s.cols.length:=by omega
    subst hi2
    rw [hE4,hi.2]
    exact .oA [] []
end Go.Proofs
namespace Go.Proofs
open Go Go.TL
def dgt (n:Nat):UInt8:=UInt8.ofNat (48 + n)
def topC:Cod:=⟨⟨#[116,111,112]⟩,-1⟩
def kidC (i:Nat):Cod:=⟨⟨#[107,dgt i]⟩,0⟩
def lefC (n i:Nat):Cod:=⟨⟨#[108,dgt n]⟩,1 + i⟩
def Wa (k:Nat):List Cod:=topC :: (List.range k).map kidC
def addL (cs:List Cod) (i:Nat):List Cod:=cs ++ [lefC cs.length i]
def lefL:List Cod→Nat→List Nat→List Cod
 | cs,_,[]=>cs
 | cs,i,n :: r=>lefL ((List.range n).foldl (fun cs _=>addL cs i) cs) (i + 1) r
def allN:Nat→List (List Nat)
 | 0=>[[]]
 | n + 1=>(allN n).flatMap fun l=>[1 :: l,2 :: l]
theorem zz7:∀ {n:Nat} {l:List Nat},l.length = n→(∀ x∈l,x = 1∨x = 2)→l∈allN n
 | 0,[],_,_=>by simp [allN]
 | n + 1,x :: l,h,hx=>by
   have h1:=zz7 (n:=n) (l:=l) (by simpa using h) fun y hy=>hx y (List.mem_cons_of_mem _ hy)
   rw [allN,List.mem_flatMap]
   refine ⟨l,h1,?_⟩
   rcases hx x (by simp) with h | h <;> subst h <;> simp
 | 0,_ :: _,h,_=>by simp at h
 | n + 1,[],h,_=>by simp at h
def zg7:ByteArray:=⟨#[111,110,101]⟩
def zg8:ByteArray:=⟨#[116,119,111]⟩
theorem jf3:([zg7,zg8].all fun nm=>[1,2,3].all fun k=>lstE ⟨nm,Wa k⟩ == 0 && (allN k).all fun l=>lstE ⟨nm,lefL (Wa k) 0 l⟩ == 0) = true:=by decide +kernel
structure DrL (nm:ByteArray) (l:CodL):Prop where
 nm:l.name = nm
 ok:lstE l = 0
 len:2≤l.codes.length∧l.codes.length≤10
theorem zV3 {nm:ByteArray} (hn:nm = zg7∨nm = zg8) {k:Nat} (hk:1≤k∧k≤3):lstE ⟨nm,Wa k⟩ = 0∧∀ l,l.length = k→(∀ x∈l,x = 1∨x = 2)→lstE ⟨nm,lefL (Wa k) 0 l⟩ = 0:=by
 have h1:=List.all_eq_true.1 jf3 nm (by rcases hn with h | h <;> subst h <;> simp)
 have hk3:k∈[1,2,3]:=by
  have:k = 1∨k = 2∨k = 3:=by omega
  rcases this with h | h | h <;> subst h <;> simp
 have h2:=List.all_eq_true.1 h1 k hk3
 rw [Bool.and_eq_true,List.all_eq_true] at h2
 exact ⟨by simpa using h2.1,fun l hl hx=>by simpa using h2.2 l (zz7 hl hx)⟩
end Go.Proofs
