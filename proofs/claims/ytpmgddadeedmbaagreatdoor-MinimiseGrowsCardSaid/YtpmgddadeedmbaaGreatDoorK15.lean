/- A part of the proof: trees of Go values, short forms, contracts. -/
import Derived.WalkKit
import Derived.Still
import Derived.MapKept
import GoSem.Builtin.Cap
import Derived.Laws.Externs
import GoSem.Extern.SlicesOverlaps
import Derived.Carry
import Derived.ProofKit
import Derived.OpenShut
import Derived.HandedShaped
import Derived.Lay
import Derived.LaidLaws
import Derived.MakeChecks
import Derived.SevenTiedAt
import Derived.Test.YtpmgddadeedmbaaGreatDoorChecked
import Derived.Test.YtpmgddadeedmbaaGreatDoorK14
set_option linter.unusedSimpArgs false
set_option linter.unusedVariables false
namespace Go.Proofs
open Go Go.TL
theorem mixm:Tryz.prog.follows .mixedOrders = true:=by kernel_rfl
theorem zB1 (l:List UInt8):Spc Tryz.prog qp1 [vL l] [] (.ptr 0 1 0 0) [(0,oC (l.take 400) 0)]:=by
 refine qd zl4 mixm (by simp) fun e _ hst=>qg ?_
 unfold qd4
 obtain ⟨m,hm,hm2⟩:∃ m:Nat,minI (l.length:Int) 400 = m∧m≤l.length∧l.take m = l.take 400:=by
  unfold minI
  split
  ·exact ⟨400,rfl,by omega,rfl⟩
  ·exact ⟨l.length,rfl,by omega,by rw [List.take_length,List.take_of_length_le (by omega)]⟩
 simp only [tZ,↓un_u,simprocAttr,hm,WX,qC2,hm2]
 refine ⟨by omega,.of [(0,some 8216)] [] rfl rfl ?_ ?_⟩
 ·simp only [tL,simprocAttr]
  exact qJ ⟨rfl,rfl,rfl,rfl,trivial⟩ qR
 ·simp only [tL,simprocAttr]
theorem jE (l:List UInt8) (at_:Nat) (n:Int) (hl:l.length≤400) (ha:at_≤l.length) (hn:n≤1000000):Spc Tryz.prog qw [.ptr 0 1 0 0,vI n] [(0,oC l at_)] (vI (nx l at_ n).1) [(0,oC l (nx l at_ n).2)]:=by
 refine qd qj0 mixm (by simp) fun e _ hst=>qg ?_
 unfold yq
 simp only [tZ,↓un_u,simprocAttr,Bool.or_eq_true,Bool.or_eq_false_iff,decide_eq_true_eq,decide_eq_false_iff_not]
 refine ⟨by kernel_rfl,fun h1=>?_,fun h1=>?_⟩
 ·have e:nx l at_ n = (0,at_):=by unfold nx;rw [if_pos (by omega)]
  rw [e]
  refine .of [(0,some 0)] [] rfl rfl ?_ ?_
  ·simp only [tL,simprocAttr]
   exact qJ ⟨rfl,rfl,rfl,rfl,trivial⟩ qR
  ·simp only [tL,simprocAttr]
 ·have h2:at_ < l.length:=by omega
  have hw1:IntKind.i64.wrap ((at_:Int) + 1) = ((at_ + 1:Nat):Int):=by rw [IntWalk.i64_in _ (by omega)];omega
  have hw2:IntKind.i64.wrap (((at_ + 1:Nat):Int) - 1) = (at_:Int):=by rw [IntWalk.i64_in _ (by omega)];omega
  simp only [tZ,↓un_u,simprocAttr,hw1,hw2,Int.toNat_natCast,qO3 h2]
  refine ⟨by omega,by kernel_rfl,by kernel_rfl,fun h3=>?_,fun h3=>?_⟩
  ·simp only [Bool.and_eq_true,decide_eq_true_eq] at h3
   have h4:at_ + 1 < l.length:=by omega
   have hb:=zk7 (l.getD at_ 0)
   have hb2:=zk7 (l.getD (at_ + 1) 0)
   have e:nx l at_ n = (((l.getD at_ 0).toNat * 256 + (l.getD (at_ + 1) 0).toNat) % n,at_ + 2):=by
    unfold nx
    rw [if_neg (by omega),if_pos (by omega)]
   have hw3:IntKind.i64.wrap (((at_ + 1:Nat):Int) + 1) = ((at_ + 2:Nat):Int):=by rw [IntWalk.i64_in _ (by omega)];omega
   have hv1:IntKind.i64.wrap ((l.getD at_ 0).toNat:Int) = (l.getD at_ 0).toNat:=IntWalk.i64_in _ (by omega)
   have hv2:IntKind.i64.wrap ((l.getD (at_ + 1) 0).toNat:Int) = (l.getD (at_ + 1) 0).toNat:=IntWalk.i64_in _ (by omega)
   have hv3:IntKind.i64.wrap (((l.getD at_ 0).toNat:Int) * 256) = (l.getD at_ 0).toNat * 256:=IntWalk.i64_in _ (by omega)
   have hv4:IntKind.i64.wrap (((l.getD at_ 0).toNat:Int) * 256 + (l.getD (at_ + 1) 0).toNat) = (l.getD at_ 0).toNat * 256 + (l.getD (at_ + 1) 0).toNat:=IntWalk.i64_in _ (by omega)
   simp only [tZ,↓un_u,simprocAttr,hw3,Int.toNat_natCast,qO3 h4,hv1,hv2,hv3,hv4]
   rw [e,Int.tmod_eq_emod_of_nonneg (by omega)]
   refine ⟨by omega,by kernel_rfl,by omega,.of [(0,some 0)] [] rfl rfl ?_ ?_⟩
   ·simp only [tL,simprocAttr]
    exact qJ ⟨rfl,rfl,rfl,rfl,trivial⟩ qR
   ·simp only [tL,simprocAttr]
  ·have e:nx l at_ n = ((l.getD at_ 0).toNat % n,at_ + 1):=by
    unfold nx
    rw [if_neg (by omega),if_neg]
    simp only [Bool.and_eq_false_iff,decide_eq_false_iff_not] at h3
    omega
   have hb:=zk7 (l.getD at_ 0)
   rw [e,IntWalk.i64_in _ (by omega),Int.tmod_eq_emod_of_nonneg (by omega)]
   refine ⟨by omega,.of [(0,some 0)] [] rfl rfl ?_ ?_⟩
   ·simp only [tL,simprocAttr]
    exact qJ ⟨rfl,rfl,rfl,rfl,trivial⟩ qR
   ·simp only [tL,simprocAttr]
end Go.Proofs
namespace Go.Proofs
open Go Go.TL
theorem jg (l:List UInt8) (at_:Nat) (lo hi:Int) (hl:l.length≤400) (ha:at_≤l.length) (hlo : -1000000≤lo∧lo≤1000000) (hhi:lo≤hi∧hi≤lo + 100000) :
 Spc Tryz.prog qQ [.ptr 0 1 0 0,vI lo,vI hi] [(0,oC l at_)] (vI (lo + (nx l at_ (hi - lo + 1)).1)) [(0,oC l (nx l at_ (hi - lo + 1)).2)]:=by
 refine qd qd8 mixm (by simp) fun e _ hst=>qg ?_
 unfold wJ
 have hw1:IntKind.i64.wrap (hi - lo) = hi - lo:=IntWalk.i64_in _ (by omega)
 have hw2:IntKind.i64.wrap (hi - lo + 1) = hi - lo + 1:=IntWalk.i64_in _ (by omega)
 simp only [tZ,↓un_u,simprocAttr,hw1,hw2]
 refine C1.draw 0 l at_ _ (jE l at_ (hi - lo + 1) hl ha (by omega)) rfl rfl rfl ?_
 have hr:=Qt l at_ (hi - lo + 1) (by omega)
 have hw3:IntKind.i64.wrap (lo + (nx l at_ (hi - lo + 1)).1) = lo + (nx l at_ (hi - lo + 1)).1:=IntWalk.i64_in _ (by omega)
 simp only [tZ,↓un_u,simprocAttr,hw3]
 refine .of [(0,some 0)] [] rfl rfl ?_ ?_
 ·simp only [tL,simprocAttr]
  exact qJ ⟨rfl,rfl,rfl,rfl,trivial⟩ qR
 ·simp only [tL,simprocAttr]
end Go.Proofs
namespace Go.Proofs
open Go Go.TL
structure Cod where
 name:ByteArray
 par:Int
structure CodL where
 name:ByteArray
 codes:List Cod
structure Col where
 name:ByteArray
 kind:Int
 list:Int
 low:Int
 high:Int
 widths:List Int
 opt:Bool
structure Sch where
 lists:List CodL
 cols:List Col
structure Pk where
 col:Int
 lev:Int
inductive Cnd where
 | mk (op col code lo hi:Int) (kids:List Cnd)
structure Qst where
 name:ByteArray
 kind:Int
 filt:Cnd
 dims:List Pk
 meas:Int
 terms:List Int
 event:Cnd
structure Smp where
 part:Int
 of:Int
 seed:Int
structure Dcl where
 proj:ByteArray
 src:ByteArray
 coh:Cnd
 smp:Smp
 qs:List Qst
structure Src where
 sch:Sch
 rows:List (List Int)
 gone:List Int
 ver:Int
structure Edt where
 kind:Int
 row:List Int
 id:Int
structure Ext where
 proj:ByteArray
 ver:Int
 picks:List Pk
 rows:List (List Int)
structure Chg where
 ver:Int
 gone:List Int
 rows:List (List Int)
namespace Cnd
def op:Cnd→Int | .mk a _ _ _ _ _=>a
def col:Cnd→Int | .mk _ a _ _ _ _=>a
def code:Cnd→Int | .mk _ _ a _ _ _=>a
def lo:Cnd→Int | .mk _ _ _ a _ _=>a
def hi:Cnd→Int | .mk _ _ _ _ a _=>a
def kids:Cnd→List Cnd | .mk _ _ _ _ _ a=>a
end Cnd
abbrev cnd0:Cnd:=.mk 0 0 0 0 0 []
instance:Inhabited Cod:=⟨⟨⟨#[]⟩,0⟩⟩
instance:Inhabited CodL:=⟨⟨⟨#[]⟩,[]⟩⟩
instance:Inhabited Col:=⟨⟨⟨#[]⟩,0,0,0,0,[],false⟩⟩
instance:Inhabited Sch:=⟨⟨[],[]⟩⟩
instance:Inhabited Pk:=⟨⟨0,0⟩⟩
instance:Inhabited Cnd:=⟨cnd0⟩
instance:Inhabited Qst:=⟨⟨⟨#[]⟩,0,cnd0,[],0,[],cnd0⟩⟩
instance:Inhabited Edt:=⟨⟨0,[],0⟩⟩
abbrev codT (c:Cod):T:=.agg [vS c.name,vI c.par]
abbrev cdlT (l:CodL):T:=.agg [vS l.name,.sl 2 (l.codes.map codT)]
abbrev colT (c:Col):T:=.agg [vS c.name,vI c.kind,vI c.list,vI c.low,vI c.high,vIs c.widths,vB c.opt]
abbrev schT (s:Sch):T:=.agg [.sl 2 (s.lists.map cdlT),.sl 7 (s.cols.map colT)]
abbrev pkT (p:Pk):T:=.agg [vI p.col,vI p.lev]
abbrev vPs (l:List Pk):T:=.sl 2 (l.map pkT)
mutual
def cndT:Cnd→T
 | .mk op col code lo hi kids=>.agg [vI op,vI col,vI code,vI lo,vI hi,.sl 6 (zQ7 kids)]
def zQ7:List Cnd→List T
 | []=>[]
 | c :: r=>cndT c :: zQ7 r
end
theorem ze9:∀ l:List Cnd,zQ7 l = l.map cndT
 | []=>by simp [zQ7]
 | c :: r=>by simp [zQ7,ze9 r]
theorem zX (c:Cnd):cndT c = .agg [vI c.op,vI c.col,vI c.code,vI c.lo,vI c.hi,.sl 6 (c.kids.map cndT)]:=by
 cases c
 simp only [cndT,ze9,Cnd.op,Cnd.col,Cnd.code,Cnd.lo,Cnd.hi,Cnd.kids]
abbrev vCs (l:List Cnd):T:=.sl 6 (l.map cndT)
abbrev qstT (q:Qst):T:=.agg [vS q.name,vI q.kind,vI q.filt.op,vI q.filt.col,vI q.filt.code,vI q.filt.lo,vI q.filt.hi,vCs q.filt.kids,vPs q.dims,vI q.meas,vIs q.terms,vI q.event.op,vI q.event.col,vI q.event.code,vI q.event.lo,vI q.event.hi,vCs q.event.kids]
abbrev dclT (d:Dcl):T:=.agg [vS d.proj,vS d.src,vI d.coh.op,vI d.coh.col,vI d.coh.code,vI d.coh.lo,vI d.coh.hi,vCs d.coh.kids,vI d.smp.part,vI d.smp.of,vI d.smp.seed,.sl 17 (d.qs.map qstT)]
end Go.Proofs
namespace Go.Proofs
open Go Go.TL
def qE6 (c:UInt8):Bool:=(decide ((c.toNat:Int) < 97) || decide ((c.toNat:Int) > 122)) && (decide ((c.toNat:Int) < 48) || decide ((c.toNat:Int) > 57)) && !((c.toNat:Int) == 95)
def zm3 (s:ByteArray):Bool:=decide ((s.size:Int) < 1) || decide ((s.size:Int) > 16) || decide (((s.data.toList.getD 0 0).toNat:Int) < 97) || decide (((s.data.toList.getD 0 0).toNat:Int) > 122)
def resW:List (List UInt8):=[[97,108,108],[97,110,100],[101,118,101,110,116],[102,114,111,109],[109,105,115,115,105,110,103],[110,111,116],[111,110],[111,114],[116,111],[117,110,100,101,114],[119,104,101,114,101]]
def jh (s:ByteArray):Bool:=!zm3 s && !(s.data.toList.any qE6) && !(resW.contains s.toList)
theorem wS (s:ByteArray):Spc Tryz.prog jG [vS s] [] (vB (jh s)) []:=by
 have hsl:s.size = s.data.toList.length:=by rw [Array.length_toList];rfl
 refine qd qS1 mixm (by simp) fun e _ hst=>qg ?_
 unfold KN
 refine sW ?_
 refine ⟨fun h=>?_,fun h=>?_,fun h=>?_,fun h=>?_⟩
 ·simp at h
  omega
 ·simp at h
  omega
 ·have:jh s = false:=by unfold jh zm3;rw [h];rfl
  rw [this]
  exact .oA [] []
 have hd:zm3 s = false:=h
 have hs16:s.data.toList.length≤16:=by
  unfold zm3 at hd
  simp only [Bool.or_eq_false_iff,decide_eq_false_iff_not] at hd
  omega
 refine qu mixm (α:=Nat) [3] (fun i=>i≤s.data.toList.length∧((s.data.toList.take i).any qE6 = false)) (fun i=>[(3,vI i)]) (fun i=>[]) (fun i=>s.data.toList.length - i) 0 ⟨by omega,?_⟩ ?_ fun i hi=>?_
 ·rfl
 ·exact .oA [] []
 refine sD ?_
 refine ⟨fun h5=>?_,fun h5=>?_⟩
 ·have hi2:i < s.data.toList.length:=by omega
  have hwi:=qh (i:=i) (by omega)
  simp only [tZ,↓un_u,simprocAttr,Int.toNat_natCast,hwi,yO]
  have hg:s.data.toList.getD i 0 = s.data.toList[i]:=qk hi2
  simp only [hg]
  refine ⟨by omega,?_⟩
  repeat (refine ⟨fun _=>by omega,?_⟩)
  refine ⟨fun h6=>?_,fun h6=>?_⟩
  ·have hb:qE6 s.data.toList[i] = true:=by
    simp only [beq_eq_false_iff_ne] at h6
    generalize s.data.toList[i] = c at h6 ⊢
    unfold qE6
    simp
    omega
   have:jh s = false:=by
    unfold jh
    rw [show s.data.toList.any qE6 = true from List.any_eq_true.2 ⟨_,List.getElem_mem hi2,hb⟩]
    simp
   rw [this]
   exact .oA [] []
  ·have hb:qE6 s.data.toList[i] = false:=by
    rw [← h6,Bool.eq_iff_iff]
    generalize s.data.toList[i] = c
    unfold qE6
    simp
    try omega
   refine ⟨i + 1,⟨by omega,zQ hi2 hi.2 hb⟩,by omega,?_⟩
   exact .oA [] []
 ·have h3:=hi.2
  have:i = s.data.toList.length:=by omega
  rw [this,List.take_length] at h3
  have hn:jh s = !(resW.contains s.toList):=by unfold jh;rw [hd,h3];rfl
  rw [hn]
  simp only [resW,List.contains_cons,List.contains_nil]
  repeat' (first | with_reducible apply And.intro | with_reducible intro _)
  all_goals first
   | (exfalso;simp_all;done)
   | (simp only [*,Bool.true_or,Bool.or_true,Bool.false_or,Bool.or_false,Bool.not_true,Bool.not_false];exact .imR rfl rfl)
end Go.Proofs
namespace Go.Proofs
open Go Go.TL
abbrev cdAt (cs:List Cod) (i:Nat):Cod:=cs.getD i default
def parC (cs:List Cod) (i:Nat):Int:=(cdAt cs i).par
def depF (cs:List Cod):Nat→Nat→Nat
 | 0,_=>0
 | f + 1,c=>if parC cs c < 0 then 0 else depF cs f (parC cs c).toNat + 1
def dep (cs:List Cod) (c:Nat):Nat:=depF cs (c + 1) c
def qE7 (cs:List Cod):Prop:=∀ i,i < cs.length→-1≤parC cs i∧parC cs i < i
theorem zQ8 {cs:List Cod} (h:qE7 cs):∀ (c f g:Nat),c < cs.length→c < f→c < g→depF cs f c = depF cs g c:=by
 intro c
 induction c using Nat.strongRecOn with
 | _ c ih=>
   intro f g hc hf hg
   obtain ⟨f,rfl⟩:∃ k,f = k + 1:=⟨f - 1,by omega⟩
   obtain ⟨g,rfl⟩:∃ k,g = k + 1:=⟨g - 1,by omega⟩
   simp only [depF]
   have hp:=h c hc
   split
   ·rfl
   ·rw [ih (parC cs c).toNat (by omega) f g (by omega) (by omega) (by omega)]
theorem ql6 {cs:List Cod} {c:Nat} (h:parC cs c < 0):dep cs c = 0:=by simp [dep,depF,h]
theorem qr3 {cs:List Cod} (h:qE7 cs) {c:Nat} (hc:c < cs.length) (h0:0≤parC cs c):dep cs c = dep cs (parC cs c).toNat + 1:=by
 have hp:=h c hc
 unfold dep
 rw [depF,if_neg (by omega),zQ8 h _ c ((parC cs c).toNat + 1) (by omega) (by omega) (by omega)]
theorem qt9 {cs:List Cod} (h:qE7 cs):∀ c,c < cs.length→dep cs c≤c:=by
 intro c
 induction c using Nat.strongRecOn with
 | _ c ih=>
   intro hc
   by_cases h0:parC cs c < 0
   ·rw [ql6 h0];omega
   ·have hp:=h c hc
    have:=ih (parC cs c).toNat (by omega) (by omega)
    rw [qr3 h hc (by omega)]
    omega
def qf4 (cs:List Cod) (c:Nat):Bool:=!(cs.any fun x=>x.par == (c:Int))
def eqB (a b:ByteArray):Bool:=a.toList == b.toList
def cdE (cs:List Cod) (i:Nat):Int:=
 if jh (cdAt cs i).name = false then 3
 else if ((cs.take i).any fun x=>eqB x.name (cdAt cs i).name) = true then 10
 else if (i = 0∧parC cs i≠-1)∨(0 < i∧(parC cs i < 0∨parC cs i≥i)) then 6 else 0
def cdEs (cs:List Cod):Nat→Int
 | 0=>0
 | n + 1=>if cdEs cs n≠0 then cdEs cs n else cdE cs n
def lvS (cs:List Cod) (o:Option Int) (i:Nat):Option Int:=match o with
 | none=>none
 | some v=>if qf4 cs i = true then (if v≥0∧(dep cs i:Int)≠v then none else some (dep cs i)) else some v
def lvs (cs:List Cod) (n:Nat):Option Int:=(List.range n).foldl (lvS cs) (some (-1))
def lstE (l:CodL):Int:=
 if jh l.name = false then 3 else if l.codes.length = 0 then 5 else if l.codes.length > 60 then 1
 else if cdEs l.codes l.codes.length≠0 then cdEs l.codes l.codes.length else match lvs l.codes l.codes.length with | none=>5 | some _=>0
theorem qP0 {cs:List Cod} {i:Nat} (h:cdEs cs i≠0):∀ n,i≤n→cdEs cs n = cdEs cs i:=by
 intro n hn
 induction n with
 | zero=>have:i = 0:=by omega
         rw [this]
 | succ n ih=>
   by_cases e:i = n + 1
   ·rw [e]
   ·have:=ih (by omega)
    rw [cdEs,this,if_pos h]
theorem ql7 {cs:List Cod}:∀ {n:Nat},cdEs cs n = 0→∀ i,i < n→cdE cs i = 0
 | 0,_,i,h=>by omega
 | n + 1,h,i,hi=>by
   rw [cdEs] at h
   split at h
   ·rename_i h2;exact absurd h h2
   ·rename_i h2
    by_cases e:i = n
    ·rw [e];exact h
    ·exact ql7 (Classical.byContradiction h2) i (by omega)
theorem qT5 {cs:List Cod} {i:Nat} (h:cdE cs i = 0) : -1≤parC cs i∧parC cs i < i∧(i = 0→parC cs i = -1)∧(0 < i→0≤parC cs i):=by
 unfold cdE at h
 split at h
 ·cases h
 ·split at h
  ·cases h
  ·split at h
   ·cases h
   ·rename_i h1
    omega
theorem zw {l:CodL} (h:lstE l = 0):qE7 l.codes∧0 < l.codes.length∧l.codes.length≤60:=by
 unfold lstE at h
 split at h
 ·cases h
 ·split at h
  ·cases h
  ·split at h
   ·cases h
   ·split at h
    ·rename_i h2;exact absurd h h2
    ·rename_i h1 h2 h3 h4
     refine ⟨fun i hi=>?_,by omega,by omega⟩
     have:=qT5 (ql7 (Classical.byContradiction h4) i hi)
     exact ⟨this.1,this.2.1⟩
def zi (l:CodL):Int:=if lstE l≠0 then -1 else (dep l.codes (l.codes.length - 1):Int) + 1
def lvlC (l:CodL) (c:Int):Int:=if lstE l≠0∨c < 0∨c≥l.codes.length then -1 else dep l.codes c.toNat
def upF (cs:List Cod) (lev:Nat):Nat→Nat→Nat
 | 0,c=>c
 | f + 1,c=>if lev < dep cs c then upF cs lev f (parC cs c).toNat else c
def upC (l:CodL) (c lev:Int):Int:=if lstE l≠0∨c < 0∨c≥l.codes.length∨lev < 0∨lev > dep l.codes c.toNat then -1 else upF l.codes lev.toNat (c.toNat + 1) c.toNat
def atL (l:CodL) (lev:Int):List Int:=if lstE l≠0 then [] else List.map (fun i:Nat=>(i:Int)) ((List.range l.codes.length).filter fun i=>(dep l.codes i:Int) == lev)
def qu0 (l:CodL) (c above:Int):Bool:=decide (0≤lvlC l above) && decide (lvlC l above≤lvlC l c) && (upC l c (lvlC l above) == above)
end Go.Proofs
namespace Go.Proofs
open Go Go.TL
def inB (n lo hi:Int):Bool:=decide (lo≤n) && decide (n≤hi)
def wdOk (ws:List Int) (i:Nat):Bool:=if i = 0 then ws.getD 0 0 == 1 else decide (ws.getD (i - 1) 0 < ws.getD i 0) && decide (ws.getD i 0≤1000000) && ((ws.getD i 0).tmod (ws.getD (i - 1) 0) == 0)
def ja4 (ws:List Int):Bool:=(List.range ws.length).all (wdOk ws)
def measE (c:Col):Int:=
 if inB c.low (-1000000) 1000000 = false∨inB c.high (-1000000) 1000000 = false∨c.low > c.high then 2
 else if c.widths.length < 1∨c.widths.length > 4 then 1 else if ja4 c.widths = false then 2 else 0
abbrev qj (s:Sch) (i:Nat):Col:=s.cols.getD i default
def colE (s:Sch) (i:Nat):Int:=
 if jh (qj s i).name = false then 3
 else if ((s.cols.take i).any fun x=>eqB x.name (qj s i).name) = true then 10
 else if inB (qj s i).kind 1 3 = false∨(0 < i∧(qj s i).kind = 1) then 4
 else if (qj s i).kind = 2∧inB (qj s i).list 0 (s.lists.length - 1) = false then 5
 else if (qj s i).kind = 3∧measE (qj s i)≠0 then measE (qj s i)
 else if ((qj s i).kind≠2∧(qj s i).list≠0)∨((qj s i).kind≠3∧((qj s i).low≠0∨(qj s i).high≠0∨0 < (qj s i).widths.length∨(qj s i).opt = true)) then 11 else 0
def wV (s:Sch):Nat→Int
 | 0=>0
 | n + 1=>if wV s n≠0 then wV s n else if lstE (s.lists.getD n default)≠0 then lstE (s.lists.getD n default)
   else if ((s.lists.take n).any fun x=>eqB x.name (s.lists.getD n default).name) = true then 10 else 0
def Kh (s:Sch):Nat→Int
 | 0=>0
 | n + 1=>if Kh s n≠0 then Kh s n else colE s n
def schE (s:Sch):Int:=
 if s.lists.length > 6∨s.cols.length > 8 then 1 else if wV s s.lists.length≠0 then wV s s.lists.length
 else if s.cols.length = 0∨(qj s 0).kind≠1 then 7 else Kh s s.cols.length
abbrev qM (s:Sch) (i:Nat):CodL:=s.lists.getD (qj s i).list.toNat default
def qf5:Int:=-1099511627776
def kI (s:Sch) (i:Nat) (v:Int):Bool:=
 if (qj s i).kind = 1 then inB v 1 1048575
 else if (qj s i).kind = 2 then inB v 0 ((qM s i).codes.length - 1) && (lvlC (qM s i) v == zi (qM s i) - 1)
 else ((qj s i).opt && (v == qf5)) || inB v (qj s i).low (qj s i).high
def rowE (s:Sch) (row:List Int):Int:=
 if schE s≠0 then schE s else if row.length≠s.cols.length then 9
 else if ((List.range row.length).all fun i=>kI s i (row.getD i 0)) = false then 9 else 0
def finI (s:Sch) (c:Int):Int:=
 if schE s≠0∨c < 1∨c≥s.cols.length then -1
 else if (qj s c.toNat).kind = 2 then zi (qM s c.toNat) - 1 else (qj s c.toNat).widths.length
def qK (a b:Int):Int:=a.fdiv b
def qS (s:Sch) (c:Nat):List Int:=atL (qM s c) (zi (qM s c) - 1)
def zm (c:Col) (lev:Int):Int:=c.widths.getD (c.widths.length - lev).toNat 0
def qT (s:Sch) (c lev v:Int):Int:=
 if inB lev 0 (finI s c) = false then -1
 else if (qj s c.toNat).kind = 2 then (if kI s c.toNat v = false then -1 else upC (qM s c.toNat) v lev)
 else if v≠qf5∧inB v (-1000000) 1000000 = false then -1
 else if lev = 0 then 0 else if v = qf5 then v else qK v (zm (qj s c.toNat) lev) * zm (qj s c.toNat) lev
def eqPk (x y:Pk):Bool:=(x.col == y.col) && (x.lev == y.lev)
def qu1 (a b:List Pk):Bool:=JX eqPk a b
end Go.Proofs
namespace Go.Proofs
open Go Go.TL
def dgt (n:Nat):UInt8:=UInt8.ofNat (48 + n)
def topC:Cod:=⟨⟨#[116,111,112]⟩,-1⟩
def kidC (i:Nat):Cod:=⟨⟨#[107,dgt i]⟩,0⟩
def lefC (n i:Nat):Cod:=⟨⟨#[108,dgt n]⟩,1 + i⟩
def WG (k:Nat):List Cod:=topC :: (List.range k).map kidC
def addL (cs:List Cod) (i:Nat):List Cod:=cs ++ [lefC cs.length i]
def lefL:List Cod→Nat→List Nat→List Cod
 | cs,_,[]=>cs
 | cs,i,n :: r=>lefL ((List.range n).foldl (fun cs _=>addL cs i) cs) (i + 1) r
def allN:Nat→List (List Nat)
 | 0=>[[]]
 | n + 1=>(allN n).flatMap fun l=>[1 :: l,2 :: l]
theorem zv9:∀ {n:Nat} {l:List Nat},l.length = n→(∀ x∈l,x = 1∨x = 2)→l∈allN n
 | 0,[],_,_=>by simp [allN]
 | n + 1,x :: l,h,hx=>by
   have h1:=zv9 (n:=n) (l:=l) (by simpa using h) fun y hy=>hx y (List.mem_cons_of_mem _ hy)
   rw [allN,List.mem_flatMap]
   refine ⟨l,h1,?_⟩
   rcases hx x (by simp) with h | h <;> subst h <;> simp
 | 0,_ :: _,h,_=>by simp at h
 | n + 1,[],h,_=>by simp at h
def zf0:ByteArray:=⟨#[111,110,101]⟩
def zf1:ByteArray:=⟨#[116,119,111]⟩
theorem ja5:([zf0,zf1].all fun nm=>[1,2,3].all fun k=>lstE ⟨nm,WG k⟩ == 0 && (allN k).all fun l=>lstE ⟨nm,lefL (WG k) 0 l⟩ == 0) = true:=by decide +kernel
structure DrL (nm:ByteArray) (l:CodL):Prop where
 nm:l.name = nm
 ok:lstE l = 0
 len:2≤l.codes.length∧l.codes.length≤10
theorem zQ9 {nm:ByteArray} (hn:nm = zf0∨nm = zf1) {k:Nat} (hk:1≤k∧k≤3):lstE ⟨nm,WG k⟩ = 0∧∀ l,l.length = k→(∀ x∈l,x = 1∨x = 2)→lstE ⟨nm,lefL (WG k) 0 l⟩ = 0:=by
 have h1:=List.all_eq_true.1 ja5 nm (by rcases hn with h | h <;> subst h <;> simp)
 have hk3:k∈[1,2,3]:=by
  have:k = 1∨k = 2∨k = 3:=by omega
  rcases this with h | h | h <;> subst h <;> simp
 have h2:=List.all_eq_true.1 h1 k hk3
 rw [Bool.and_eq_true,List.all_eq_true] at h2
 exact ⟨by simpa using h2.1,fun l hl hx=>by simpa using h2.2 l (zv9 hl hx)⟩
end Go.Proofs
namespace Go.Proofs
open Go Go.TL
theorem zw0 {s:Sch}:∀ {n:Nat},(∀ i,i < n→colE s i = 0)→Kh s n = 0
 | 0,_=>rfl
 | n + 1,h=>by
   rw [Kh,zw0 fun i hi=>h i (by omega),if_neg (by simp)]
   exact h n (by omega)
theorem zR0 {s:Sch} {i:Nat} (h1:jh (qj s i).name = true) (h2:((s.cols.take i).any fun x=>eqB x.name (qj s i).name) = false) (h3:(qj s i).kind = 3) (h4:(qj s i).list = 0) (h5:measE (qj s i) = 0):colE s i = 0:=by
 rw [colE,if_neg (by rw [h1];simp),if_neg (by rw [h2];simp),if_neg (by rw [h3];simp [inB]),if_neg (by rw [h3];simp),if_neg (by rw [h5];simp),if_neg (by rw [h3,h4];simp)]
theorem qE8 {s:Sch} {i:Nat} (h1:jh (qj s i).name = true) (h2:((s.cols.take i).any fun x=>eqB x.name (qj s i).name) = false) (h3:(qj s i).kind = 2) (h4:inB (qj s i).list 0 (s.lists.length - 1) = true)
 (h5:(qj s i).low = 0∧(qj s i).high = 0∧(qj s i).widths = []∧(qj s i).opt = false):colE s i = 0:=by
 rw [colE,if_neg (by rw [h1];simp),if_neg (by rw [h2];simp),if_neg (by rw [h3];simp [inB]),if_neg (by rw [h4];simp),if_neg (by rw [h3];simp),if_neg (by rw [h3,h5.1,h5.2.1,h5.2.2.1,h5.2.2.2];simp)]
theorem zR1 {s:Sch} (h1:jh (qj s 0).name = true) (h3:(qj s 0).kind = 1) (h5:(qj s 0).list = 0∧(qj s 0).low = 0∧(qj s 0).high = 0∧(qj s 0).widths = []∧(qj s 0).opt = false):colE s 0 = 0:=by
 rw [colE,if_neg (by rw [h1];simp),if_neg (by simp),if_neg (by rw [h3];simp [inB]),if_neg (by rw [h3];simp),if_neg (by rw [h3];simp),if_neg (by rw [h3,h5.1,h5.2.1,h5.2.2.1,h5.2.2.2.1,h5.2.2.2.2];simp)]
def whoC:Col:=⟨⟨#[119,104,111]⟩,1,0,0,0,[],false⟩
def sexC:Col:=⟨⟨#[115,101,120]⟩,2,0,0,0,[],false⟩
def jobC:Col:=⟨⟨#[106,111,98]⟩,2,1,0,0,[],false⟩
def wTab:List (List Int):=[[1],[1,5],[1,5,20],[1,2,4,12]]
structure DrM (n:Nat) (c:Col):Prop where
 nm:c.name = ⟨#[109,dgt n]⟩
 kind:c.kind = 3
 list:c.list = 0
 low : -4≤c.low∧c.low≤2
 high:c.low≤c.high∧c.high≤c.low + 44
 wid:c.widths∈wTab
theorem DrM.measE {n:Nat} {c:Col} (h:DrM n c):measE c = 0:=by
 have hl:=h.low
 have hh:=h.high
 have hw:=h.wid
 have h1:inB c.low (-1000000) 1000000 = true:=by simp only [inB,Bool.and_eq_true,decide_eq_true_eq];omega
 have h2:inB c.high (-1000000) 1000000 = true:=by simp only [inB,Bool.and_eq_true,decide_eq_true_eq];omega
 have h3:1≤c.widths.length∧c.widths.length≤4∧ja4 c.widths = true:=by
  simp only [wTab,List.mem_cons,List.not_mem_nil,or_false] at hw
  rcases hw with hw | hw | hw | hw <;> rw [hw] <;> decide
 rw [_root_.Go.Proofs.measE,if_neg (by rw [h1,h2];simp;omega),if_neg (by omega),if_neg (by rw [h3.2.2];simp)]
structure DrS (s:Sch):Prop where
 ls:∃ a b,s.lists = [a,b]∧DrL zf0 a∧DrL zf1 b
 cs:∃ ms,(s.cols = whoC :: sexC :: ms∧(∀ i (h:i < ms.length),DrM (2 + i) ms[i])∨s.cols = whoC :: sexC :: jobC :: ms∧∀ i (h:i < ms.length),DrM (3 + i) ms[i])∧1≤ms.length∧ms.length≤3
theorem jv3:∀ n:Nat,n < 10→jh ⟨#[109,dgt n]⟩ = true:=by
 have:∀ n:Fin 10,jh ⟨#[109,dgt n.1]⟩ = true:=by decide +kernel
 exact fun n h=>this ⟨n,h⟩
theorem jv4:∀ i j:Nat,i < 10→j < 10→i≠j→eqB ⟨#[109,dgt i]⟩ ⟨#[109,dgt j]⟩ = false:=by
 have:∀ i j:Fin 10,i.1≠j.1→eqB ⟨#[109,dgt i.1]⟩ ⟨#[109,dgt j.1]⟩ = false:=by decide +kernel
 exact fun i j hi hj h=>this ⟨i,hi⟩ ⟨j,hj⟩ h
theorem js9:∀ j:Nat,j < 10→eqB whoC.name ⟨#[109,dgt j]⟩ = false∧eqB sexC.name ⟨#[109,dgt j]⟩ = false∧eqB jobC.name ⟨#[109,dgt j]⟩ = false:=by
 have:∀ j:Fin 10,eqB whoC.name ⟨#[109,dgt j.1]⟩ = false∧eqB sexC.name ⟨#[109,dgt j.1]⟩ = false∧eqB jobC.name ⟨#[109,dgt j.1]⟩ = false:=by decide +kernel
 exact fun j hj=>this ⟨j,hj⟩
theorem jn0 {s:Sch} {a b:CodL} (h:s.lists = [a,b]) (ha:DrL zf0 a) (hb:DrL zf1 b):wV s s.lists.length = 0:=by
 have e1:wV s 1 = 0:=by
  rw [wV,wV,if_neg (by simp),h]
  show (if lstE a≠0 then lstE a else _) = 0
  rw [if_neg (by rw [ha.ok];simp)]
  rfl
 rw [h]
 show wV s 2 = 0
 rw [wV,e1,if_neg (by simp),h]
 show (if lstE b≠0 then lstE b else if ([a].any fun x=>eqB x.name b.name) = true then (10:Int) else 0) = 0
 rw [if_neg (by rw [hb.ok];simp),if_neg]
 simp only [List.any_cons,List.any_nil,Bool.or_false,ha.nm,hb.nm]
 rw [show eqB zf0 zf1 = false by decide +kernel]
 simp
theorem ql8:jh whoC.name = true∧jh sexC.name = true∧jh jobC.name = true∧eqB whoC.name sexC.name = false∧eqB whoC.name jobC.name = false∧eqB sexC.name jobC.name = false∧eqB zf0 zf1 = false:=by decide +kernel
theorem jn1 {s:Sch} {pre ms:List Col} (hl:s.lists.length = 2) (hc:s.cols = pre ++ ms) (hp:pre = [whoC,sexC]∨pre = [whoC,sexC,jobC]) (hm:∀ i (h:i < ms.length),DrM (pre.length + i) ms[i]) (hn:ms.length≤3):Kh s s.cols.length = 0:=by
 refine zw0 fun i hi=>?_
 by_cases h:i < pre.length
 ·have ha:qj s i = pre[i]:=by
   rw [qj,hc,List.getD_eq_getElem?_getD,List.getElem?_append_left h,List.getElem?_eq_getElem h];rfl
  have ht:s.cols.take i = pre.take i:=by rw [hc,List.take_append_of_le_length (by omega)]
  rcases hp with hp | hp
  ·subst hp
   have h2:i = 0∨i = 1:=by simp at h;omega
   rcases h2 with h2 | h2 <;> subst h2
   ·exact zR1 (by rw [ha];exact ql8.1) (by rw [ha];rfl) (by rw [ha];exact ⟨rfl,rfl,rfl,rfl,rfl⟩)
   ·exact qE8 (by rw [ha];exact ql8.2.1) (by rw [ha,ht];show (eqB whoC.name sexC.name || false) = false;rw [ql8.2.2.2.1];rfl) (by rw [ha];rfl) (by rw [ha,hl];rfl) (by rw [ha];exact ⟨rfl,rfl,rfl,rfl⟩)
  ·subst hp
   have h2:i = 0∨i = 1∨i = 2:=by simp at h;omega
   rcases h2 with h2 | h2 | h2 <;> subst h2
   ·exact zR1 (by rw [ha];exact ql8.1) (by rw [ha];rfl) (by rw [ha];exact ⟨rfl,rfl,rfl,rfl,rfl⟩)
   ·exact qE8 (by rw [ha];exact ql8.2.1) (by rw [ha,ht];show (eqB whoC.name sexC.name || false) = false;rw [ql8.2.2.2.1];rfl) (by rw [ha];rfl) (by rw [ha,hl];rfl) (by rw [ha];exact ⟨rfl,rfl,rfl,rfl⟩)
   ·exact qE8 (by rw [ha];exact ql8.2.2.1) (by rw [ha,ht];show (eqB whoC.name jobC.name || (eqB sexC.name jobC.name || false)) = false;rw [ql8.2.2.2.2.1,ql8.2.2.2.2.2.1];rfl) (by rw [ha];rfl) (by rw [ha,hl];rfl) (by rw [ha];exact ⟨rfl,rfl,rfl,rfl⟩)
 ·have hi2:i - pre.length < ms.length:=by rw [hc,List.length_append] at hi;omega
  have hpl:pre.length≤3:=by rcases hp with hp | hp <;> subst hp <;> simp
  have ha:qj s i = ms[i - pre.length]:=by
   rw [qj,hc,List.getD_eq_getElem?_getD,List.getElem?_append_right (by omega),List.getElem?_eq_getElem hi2];rfl
  have d:=hm _ hi2
  rw [show pre.length + (i - pre.length) = i by omega] at d
  refine zR0 (by rw [ha,d.nm];exact jv3 i (by omega)) ?_ (by rw [ha];exact d.kind) (by rw [ha];exact d.list) (by rw [ha];exact d.measE)
  rw [ha,d.nm,hc,List.any_eq_false]
  intro x hx
  rw [List.take_append] at hx
  rcases List.mem_append.1 hx with hx | hx
  ·have hx:=List.mem_of_mem_take hx
   have hf:=js9 i (by omega)
   have:x = whoC∨x = sexC∨x = jobC:=by
    rcases hp with hp | hp <;> subst hp <;> simp at hx <;> rcases hx with h | h | h <;> simp [h]
   rcases this with h | h | h <;> subst h <;> simp [hf.1,hf.2.1,hf.2.2]
  ·obtain ⟨j,hj,rfl⟩:=List.mem_take_iff_getElem.1 hx
   have dj:=hm j (by omega)
   rw [dj.nm,jv4 (pre.length + j) i (by omega) (by omega) (by omega)]
   simp
theorem DrS.ok {s:Sch} (h:DrS s):schE s = 0:=by
 obtain ⟨a,b,hl,ha,hb⟩:=h.ls
 obtain ⟨ms,hc,hm1,hm3⟩:=h.cs
 have h2:s.lists.length = 2:=by rw [hl];rfl
 have key:∀ pre:List Col,(pre = [whoC,sexC]∨pre = [whoC,sexC,jobC])→s.cols = pre ++ ms→(∀ i (h:i < ms.length),DrM (pre.length + i) ms[i])→schE s = 0:=by
  intro pre hp hc hd
  have hpl:2≤pre.length∧pre.length≤3:=by rcases hp with hp | hp <;> subst hp <;> simp
  have h0:(qj s 0).kind = 1:=by
   rw [qj,hc]
   rcases hp with hp | hp <;> subst hp <;> rfl
  rw [schE,if_neg (by rw [h2,hc,List.length_append];omega),if_neg (by rw [jn0 hl ha hb];simp),if_neg (by rw [hc,List.length_append];omega)]
  exact jn1 h2 hc hp hd hm3
 rcases hc with ⟨hc,hd⟩ | ⟨hc,hd⟩
 ·exact key [whoC,sexC] (.inl rfl) hc hd
 ·exact key [whoC,sexC,jobC] (.inr rfl) hc hd
end Go.Proofs
namespace Go.Proofs
open Go Go.TL
theorem zR2 {l:CodL} (h:lstE l = 0) {lev v:Int}:v∈atL l lev↔∃ i:Nat,i < l.codes.length∧(dep l.codes i:Int) = lev∧v = (i:Int):=by
 rw [atL,if_neg (by rw [h];simp)]
 simp only [List.mem_map,List.mem_filter,List.mem_range,beq_iff_eq]
 constructor
 ·rintro ⟨i,⟨h1,h2⟩,rfl⟩;exact ⟨i,h1,h2,rfl⟩
 ·rintro ⟨i,h1,h2,rfl⟩;exact ⟨i,⟨h1,h2⟩,rfl⟩
theorem zw1 {l:CodL} (h:lstE l = 0):zi l - 1 = (dep l.codes (l.codes.length - 1):Int):=by
 rw [zi,if_neg (by rw [h];simp)]
 omega
theorem Ki {s:Sch} {i:Nat} (hk:(qj s i).kind = 2) (hl:lstE (qM s i) = 0) {v:Int} (hv:v∈qS s i):kI s i v = true:=by
 obtain ⟨j,h1,h2,rfl⟩:=(zR2 hl).1 hv
 rw [kI,if_neg (by rw [hk];decide),if_pos hk,Bool.and_eq_true]
 refine ⟨by simp only [inB,Bool.and_eq_true,decide_eq_true_eq];omega,?_⟩
 rw [beq_iff_eq,lvlC,if_neg (by rw [hl];omega),Int.toNat_natCast,h2]
theorem zf2 {s:Sch}:∀ {n:Nat},Kh s n = 0→∀ i,i < n→colE s i = 0
 | 0,_,i,h=>by omega
 | n + 1,h,i,hi=>by
   rw [Kh] at h
   split at h
   ·rename_i h2;exact absurd h h2
   ·rename_i h2
    by_cases e:i = n
    ·rw [e];exact h
    ·exact zf2 (Classical.byContradiction h2) i (by omega)
theorem zf3 {s:Sch}:∀ {n:Nat},wV s n = 0→∀ i,i < n→lstE (s.lists.getD i default) = 0
 | 0,_,i,h=>by omega
 | n + 1,h,i,hi=>by
   rw [wV] at h
   split at h
   ·rename_i h2;exact absurd h h2
   ·rename_i h2
    split at h
    ·rename_i h3;exact absurd h h3
    ·rename_i h3
     by_cases e:i = n
     ·rw [e];exact Classical.byContradiction h3
     ·exact zf3 (Classical.byContradiction h2) i (by omega)
structure SchOk (s:Sch):Prop where
 nl:s.lists.length≤6
 nc:1≤s.cols.length∧s.cols.length≤8
 ls:∀ i,i < s.lists.length→lstE (s.lists.getD i default) = 0
 c0:(qj s 0).kind = 1
 cs:∀ i,i < s.cols.length→colE s i = 0
theorem qZ {s:Sch} (h:schE s = 0):SchOk s:=by
 unfold schE at h
 split at h
 ·cases h
 ·split at h
  ·rename_i h2;exact absurd h h2
  ·split at h
   ·cases h
   ·rename_i h1 h2 h3
    refine ⟨by omega,by omega,zf3 (Classical.byContradiction h2),?_,zf2 h⟩
    exact Classical.byContradiction fun e=>h3 (.inr e)
theorem zf {s:Sch} {i:Nat} (h:colE s i = 0):1≤(qj s i).kind∧(qj s i).kind≤3∧(0 < i→(qj s i).kind≠1)∧((qj s i).kind = 2→0≤(qj s i).list∧(qj s i).list < s.lists.length)∧((qj s i).kind = 3→measE (qj s i) = 0):=by
 unfold colE at h
 split at h
 ·cases h
 ·split at h
  ·cases h
  ·split at h
   ·cases h
   ·split at h
    ·cases h
    ·rename_i h1 h2 h3 h4
     have hk:inB (qj s i).kind 1 3 = true:=by
      cases e:inB (qj s i).kind 1 3 with
      | true=>rfl
      | false=>exact absurd (.inl e) h3
     simp only [inB,Bool.and_eq_true,decide_eq_true_eq] at hk
     refine ⟨hk.1,hk.2,fun h0 e=>h3 (.inr ⟨h0,e⟩),fun e=>?_,fun e=>?_⟩
     ·have:inB (qj s i).list 0 (s.lists.length - 1) = true:=by
       cases e2:inB (qj s i).list 0 (s.lists.length - 1) with
       | true=>rfl
       | false=>exact absurd ⟨e,e2⟩ h4
      simp only [inB,Bool.and_eq_true,decide_eq_true_eq] at this
      omega
     ·split at h
      ·rename_i h5;exact absurd h h5.2
      ·rename_i h5
       exact Classical.byContradiction fun e2=>h5 ⟨e,e2⟩
theorem SchOk.cdl {s:Sch} (h:SchOk s) {i:Nat} (hi:i < s.cols.length) (hk:(qj s i).kind = 2):(qj s i).list.toNat < s.lists.length∧lstE (qM s i) = 0:=by
 have h1:=(zf (h.cs i hi)).2.2.2.1 hk
 exact ⟨by omega,h.ls _ (by omega)⟩
end Go.Proofs
namespace Go.Proofs
open Go Go.TL
theorem ql9 (l:CodL) (c:Nat) (hp:qE7 l.codes) (hc:c < l.codes.length) (hl:l.codes.length≤1000):Spc Tryz.prog yi [cdlT l,vI c] [] (vI (dep l.codes c)) []:=by
 refine qd qJ2 mixm (by simp) fun e _ hst=>qg ?_
 unfold JD
 refine sW ?_
 refine qu mixm (α:=Nat×Nat) [1,5] (fun x=>x.1 < l.codes.length∧dep l.codes c = x.2 + dep l.codes x.1∧x.2 + x.1≤1000) (fun x=>[(1,vI x.1),(5,vI x.2)]) (fun x=>[(4096,.arr 2 [cdlT l] false)]) (fun x=>x.1) (c,0) ⟨hc,by simp,by simp;omega⟩ ?_ fun x hx=>?_
 ·exact .oA [(4096,some 4096)] []
 obtain ⟨k,n⟩:=x
 obtain ⟨h1,h2,h3⟩:=hx
 dsimp only at h1 h2 h3
 have hpk:=hp k h1
 have hcd:l.codes[k].par = parC l.codes k:=by rw [parC,cdAt,qk h1]
 have hwn:=qh (i:=n) (by omega)
 simp only [tZ,↓un_u,simprocAttr,Int.toNat_natCast,qe h1,hcd,tD,hwn]
 refine ⟨by omega,fun h4=>?_,fun h4=>?_⟩
 ·obtain ⟨p,hpe⟩:=Int.eq_ofNat_of_zero_le h4
  rw [qr3 hp h1 (by omega),hpe,Int.toNat_natCast] at h2
  rw [hpe] at hpk ⊢
  refine ⟨by omega,(p,n + 1),⟨by dsimp only;omega,by dsimp only;omega,by dsimp only;omega⟩,by dsimp only;omega,?_⟩
  exact .oA [(4096,some 4096)] []
 ·rw [ql6 (c:=k) (by omega),Nat.add_zero] at h2
  rw [h2]
  exact .oA [] []
def zB2 (l:CodL) (c:Int):Bool:=!(l.codes.any fun x=>x.par == c)
theorem zf4 (l:CodL) (c:Int) (hl:l.codes.length≤1000):Spc Tryz.prog Yd [cdlT l,vI c] [] (vB (zB2 l c)) []:=by
 refine qd qT0 mixm (by simp) fun e _ hst=>qg ?_
 unfold KV
 refine sW ?_
 refine qu mixm (α:=Nat) [5] (fun i=>i≤l.codes.length∧(l.codes.take i).any (fun x=>x.par == c) = false) (fun i=>[(5,vI i)]) (fun i=>[(4096,.arr 2 [cdlT l] false)]) (fun i=>l.codes.length - i) 0 ⟨by omega,rfl⟩ ?_ fun i hi=>?_
 ·exact .oA [(4096,some 4096)] []
 obtain ⟨h1,h2⟩:=hi
 refine sD ?_
 refine ⟨fun h3=>?_,fun h3=>?_⟩
 ·have hi2:i < l.codes.length:=by omega
  have hwi:=qh (i:=i) (by omega)
  simp only [tZ,↓un_u,simprocAttr,Int.toNat_natCast,qe hi2,hwi]
  refine ⟨by omega,fun h4=>?_,fun h4=>?_⟩
  ·have:zB2 l c = false:=by
    unfold zB2
    rw [List.any_eq_true.2 ⟨_,List.getElem_mem hi2,h4⟩];rfl
   rw [this]
   exact .oA [] []
  ·refine ⟨i + 1,⟨by omega,zQ hi2 h2 h4⟩,by omega,?_⟩
   exact .oA [(4096,some 4096)] []
 ·have hil:i = l.codes.length:=by omega
  subst hil
  rw [List.take_length] at h2
  have:zB2 l c = true:=by unfold zB2;rw [h2];rfl
  rw [this]
  exact .oA [] []
end Go.Proofs
namespace Go.Proofs
open Go Go.TL
theorem qy3 (cs:List Cod) (n:Nat):lvs cs (n + 1) = lvS cs (lvs cs n) n:=by
 unfold lvs
 rw [List.range_succ,List.foldl_append]
 rfl
theorem zw2 {cs:List Cod} {n:Nat} (h:lvs cs n = none):∀ m,n≤m→lvs cs m = none:=by
 intro m hm
 induction m with
 | zero=>have:n = 0:=by omega
         rw [← this];exact h
 | succ m ih=>
   by_cases e:n = m + 1
   ·rw [← e];exact h
   ·rw [qy3,ih (by omega)];rfl
theorem ji6 {cs:List Cod} (h:cdEs cs cs.length = 0):qE7 cs:=fun i hi=>by
 have:=qT5 (ql7 h i hi)
 exact ⟨this.1,this.2.1⟩
theorem qm0 (l:CodL) (hl:l.codes.length < 4611686018427387904):Spc Tryz.prog Zk [cdlT l] [] (vI (lstE l)) []:=by
 refine qd qJ0 mixm (by simp) fun e _ hst=>qg ?_
 unfold JC
 refine sW ?_
 refine C1.im (wS l.name) (by rfl) (by rfl) ?_
 simp only [tZ,↓un_u,simprocAttr,Bool.not_eq_true',Bool.not_eq_false']
 refine ⟨fun h=>?_,fun h1=>?_⟩
 ·rw [lstE,if_pos h]
  exact .oA [] []
 simp only [tZ,↓un_u,simprocAttr,beq_iff_eq,beq_eq_false_iff_ne]
 refine ⟨fun h=>?_,fun h2=>?_⟩
 ·rw [lstE,if_neg (by rw [h1];simp),if_pos (by omega)]
  exact .oA [] []
 refine sD ?_
 refine ⟨fun h=>?_,fun h3=>?_⟩
 ·rw [lstE,if_neg (by rw [h1];simp),if_neg (by omega),if_pos (by omega)]
  exact .oA [] []
 have hE1:cdEs l.codes l.codes.length≠0→lstE l = cdEs l.codes l.codes.length:=fun h=>by
  rw [lstE,if_neg (by rw [h1];simp),if_neg (by omega),if_neg (by omega),if_pos h]
 have hE2:cdEs l.codes l.codes.length = 0→lvs l.codes l.codes.length = none→lstE l = 5:=fun h k=>by
  rw [lstE,if_neg (by rw [h1];simp),if_neg (by omega),if_neg (by omega),if_neg (by rw [h];simp),k]
 have hE3:∀ v,cdEs l.codes l.codes.length = 0→lvs l.codes l.codes.length = some v→lstE l = 0:=fun v h k=>by
  rw [lstE,if_neg (by rw [h1];simp),if_neg (by omega),if_neg (by omega),if_neg (by rw [h];simp),k]
 refine qu mixm (α:=Nat) [3] (fun i=>i≤l.codes.length∧cdEs l.codes i = 0) (fun i=>[(3,vI i)]) (fun i=>[(4096,.arr 2 [cdlT l] false)]) (fun i=>l.codes.length - i) 0 ⟨by omega,rfl⟩ ?_ fun i hi=>?_
 ·exact .oA [(4096,some 4096)] []
 obtain ⟨i1,i2⟩:=hi
 refine sD ?_
 refine ⟨fun h4=>?_,fun h4=>?_⟩
 ·have hi2:i < l.codes.length:=by omega
  have hwi:=qh (i:=i) (by omega)
  have hat:cdAt l.codes i = l.codes[i]:=by rw [cdAt,qk hi2]
  have hs:cdEs l.codes (i + 1) = cdE l.codes i:=by rw [cdEs,if_neg (by rw [i2];simp)]
  have hbad:cdE l.codes i≠0→lstE l = cdE l.codes i:=fun hb=>by
   have:=qP0 (by rw [hs];exact hb) l.codes.length (show i + 1≤l.codes.length by omega)
   rw [hE1 (by rw [this,hs];exact hb),this,hs]
  simp only [tZ,↓un_u,simprocAttr,Int.toNat_natCast,qe hi2]
  refine ⟨by omega,?_⟩
  refine C1.im (wS l.codes[i].name) (by rfl) (by rfl) ?_
  simp only [tZ,↓un_u,simprocAttr,Bool.not_eq_true',Bool.not_eq_false']
  refine ⟨fun h5=>?_,fun h5=>?_⟩
  ·have hc:cdE l.codes i = 3:=by rw [cdE,hat,if_pos h5]
   rw [hbad (by rw [hc];decide),hc]
   exact .oA [] []
  refine qu mixm (α:=Nat) [4] (fun k=>k≤i∧(l.codes.take k).any (fun x=>eqB x.name l.codes[i].name) = false) (fun k=>[(4,vI k)]) (fun k=>[(4096,.arr 2 [cdlT l] false)]) (fun k=>i - k) 0 ⟨by omega,rfl⟩ ?_ fun k hk=>?_
  ·exact .oA [(4096,some 4096)] []
  obtain ⟨k1,k2⟩:=hk
  refine sD ?_
  refine ⟨fun h6=>?_,fun h6=>?_⟩
  ·have hk2:k < l.codes.length:=by omega
   have hwk:=qh (i:=k) (by omega)
   simp only [tZ,↓un_u,simprocAttr,Int.toNat_natCast,qe hi2,qe hk2,hwk]
   refine ⟨by omega,by omega,by kernel_rfl,fun h7=>?_,fun h7=>?_⟩
   ·have hc:cdE l.codes i = 10:=by
     rw [cdE,hat,if_neg (by rw [h5];simp),if_pos (List.any_eq_true.2 ⟨l.codes[k],List.mem_take_iff_getElem.2 ⟨k,by omega,rfl⟩,h7⟩)]
    rw [hbad (by rw [hc];decide),hc]
    exact .oA [] []
   ·refine ⟨k + 1,⟨by omega,zQ hk2 k2 h7⟩,by omega,?_⟩
    exact .oA [(4096,some 4096)] []
  ·have hki:k = i:=by omega
   subst hki
   have hpar:l.codes[k].par = parC l.codes k:=by rw [parC,hat]
   have hcE:cdE l.codes k = if (k = 0∧parC l.codes k≠-1)∨(0 < k∧(parC l.codes k < 0∨parC l.codes k≥k)) then 6 else 0:=by
    rw [cdE,hat,if_neg (by rw [h5];simp),if_neg (by rw [k2];simp)]
   simp only [tZ,↓un_u,simprocAttr,Int.toNat_natCast,qe hi2,hpar,hwi,tD,beq_iff_eq,beq_eq_false_iff_ne,bne_iff_ne,bne_eq_false_iff_eq]
   refine ⟨by omega,fun h7=>?_,fun h7=>?_⟩
   ·have hc:cdE l.codes k = 6:=by rw [hcE,if_pos (by omega)]
    rw [hbad (by rw [hc];decide),hc]
    exact .oA [] []
   ·refine ⟨k + 1,⟨by omega,by rw [hs,hcE,if_neg (by omega)]⟩,by omega,?_⟩
    exact .oA [(4096,some 4096)] []
 ·have hil:i = l.codes.length:=by omega
  subst hil
  have hp:=ji6 i2
  refine qu mixm (α:=Nat×Int) [6,7] (fun x=>x.1≤l.codes.length∧lvs l.codes x.1 = some x.2) (fun x=>[(6,vI x.2),(7,vI x.1)]) (fun x=>[(4096,.arr 2 [cdlT l] false)]) (fun x=>l.codes.length - x.1) (0,-1) ⟨by simp,rfl⟩ ?_ fun x hx=>?_
  ·exact .oA [(4096,some 4096)] []
  obtain ⟨j,v⟩:=x
  obtain ⟨j1,j2⟩:=hx
  dsimp only at j1 j2
  refine sD ?_
  refine ⟨fun h5=>?_,fun h5=>?_⟩
  ·have hj2:j < l.codes.length:=by omega
   have hwj:=qh (i:=j) (by omega)
   have hs:=qy3 l.codes j
   rw [j2,lvS] at hs
   have hlf:=zf4 l (j:Int) (by omega)
   have hdp:=ql9 l j hp hj2 (by omega)
   rw [show zB2 l (j:Int) = qf4 l.codes j from rfl] at hlf
   refine C1.im hlf (by rfl) (by rfl) ?_
   simp only [tZ,↓un_u,simprocAttr,hwj]
   refine ⟨fun h6=>?_,fun h6=>?_⟩
   ·rw [if_pos h6] at hs
    refine C2.im (fun _=>hdp) (fun _=>rfl) (by rfl) ?_
    simp only [tZ,↓un_u,simprocAttr,tD,bne_iff_ne,bne_eq_false_iff_eq]
    refine ⟨fun h7=>?_,fun h7=>?_⟩
    ·rw [if_pos (by omega)] at hs
     rw [hE2 i2 (zw2 hs _ (by omega))]
     exact .oA [] []
    ·rw [if_neg (by omega)] at hs
     refine C1.im hdp (by rfl) (by rfl) ?_
     simp only [tZ,↓un_u,simprocAttr,hwj]
     refine ⟨(j + 1,(dep l.codes j:Int)),⟨by dsimp only;omega,hs⟩,by dsimp only;omega,?_⟩
     exact .oA [(4096,some 4096)] []
   ·rw [if_neg (by rw [h6];simp)] at hs
    refine ⟨(j + 1,v),⟨by dsimp only;omega,hs⟩,by dsimp only;omega,?_⟩
    exact .oA [(4096,some 4096)] []
  ·have hjl:j = l.codes.length:=by omega
   subst hjl
   rw [hE3 v i2 j2]
   exact .oA [] []
end Go.Proofs
namespace Go.Proofs
open Go Go.TL
theorem qL1 (l:CodL) (hl:l.codes.length < 4611686018427387904):Spc Tryz.prog Jr [cdlT l] [] (vI (zi l)) []:=by
 refine qd qD3 mixm (by simp) fun e _ hst=>qg ?_
 unfold ZM
 refine sW ?_
 refine C1.im (qm0 l hl) (by rfl) (by rfl) ?_
 simp only [tZ,↓un_u,simprocAttr,bne_iff_ne,bne_eq_false_iff_eq]
 refine ⟨fun h=>?_,fun h=>?_⟩
 ·rw [zi,if_pos h]
  exact .oA [] []
 obtain ⟨hp,h1,h2⟩:=zw h
 have hw:=yb (i:=l.codes.length) h1 (by omega)
 have hd:=qt9 hp (l.codes.length - 1) (by omega)
 have hw2:=qh (i:=dep l.codes (l.codes.length - 1)) (by omega)
 simp only [tZ,↓un_u,simprocAttr,hw]
 refine C1.im (ql9 l (l.codes.length - 1) hp (by omega) (by omega)) (by rfl) (by rfl) ?_
 rw [zi,if_neg (by rw [h];simp)]
 simp only [tZ,↓un_u,simprocAttr,hw2]
 exact .oA [] []
end Go.Proofs
namespace Go.Proofs
open Go Go.TL
def atN (cs:List Cod) (lev:Int) (n:Nat):List Int:=List.map (fun i:Nat=>(i:Int)) ((List.range n).filter fun i=>(dep cs i:Int) == lev)
theorem ja6 (cs:List Cod) (lev:Int) (n:Nat):atN cs lev (n + 1) = atN cs lev n ++ (if (dep cs n:Int) = lev then [(n:Int)] else []):=by
 unfold atN
 rw [List.range_succ,List.filter_append,List.map_append]
 congr 1
 by_cases h:(dep cs n:Int) = lev <;> simp [h]
theorem jn2 (cs:List Cod) (lev:Int) (n:Nat):(atN cs lev n).length≤n:=by
 unfold atN
 rw [List.length_map]
 exact Nat.le_trans (List.length_filter_le _ _) (by simp)
end Go.Proofs
namespace Go.Proofs
open Go Go.TL
open So
theorem ja7 {cs:List Cod} (h:qE7 cs) (lev:Nat):∀ (c f g:Nat),c < cs.length→c < f→c < g→upF cs lev f c = upF cs lev g c:=by
 intro c
 induction c using Nat.strongRecOn with
 | _ c ih=>
   intro f g hc hf hg
   obtain ⟨f,rfl⟩:∃ k,f = k + 1:=⟨f - 1,by omega⟩
   obtain ⟨g,rfl⟩:∃ k,g = k + 1:=⟨g - 1,by omega⟩
   simp only [upF]
   have hp:=h c hc
   split
   ·rename_i h1
    have h0:¬ parC cs c < 0:=fun e=>by rw [ql6 e] at h1;omega
    rw [ih (parC cs c).toNat (by omega) f g (by omega) (by omega) (by omega)]
   ·rfl
theorem up_step {cs:List Cod} (h:qE7 cs) {lev c:Nat} (hc:c < cs.length) (hl:lev < dep cs c):0≤parC cs c∧parC cs c < c∧dep cs c = dep cs (parC cs c).toNat + 1∧upF cs lev (c + 1) c = upF cs lev ((parC cs c).toNat + 1) (parC cs c).toNat:=by
 have hp:=h c hc
 have h0:¬ parC cs c < 0:=fun e=>by rw [ql6 e] at hl;omega
 refine ⟨by omega,by omega,qr3 h hc (by omega),?_⟩
 rw [upF,if_pos hl]
 exact ja7 h lev _ _ _ (by omega) (by omega) (by omega)
theorem zR3 {cs:List Cod} {lev c:Nat} (hl:dep cs c≤lev) (f:Nat):upF cs lev f c = c:=by
 cases f with
 | zero=>rfl
 | succ f=>rw [upF,if_neg (by omega)]
theorem zm4 (l:List Int) (n:Int) (hl:l.length < 4611686018427387904):Spc Tryz.prog qd3 [vIs l,vI n] [] (vB (l.contains n)) []:=by
 refine qd ze6 mixm (by simp) fun e _ hst=>qg ?_
 unfold Yf
 refine sW ?_
 refine qu mixm (α:=Nat) [5] (fun i=>i≤l.length∧((l.take i).any (fun x=>x == n) = false)) (fun i=>[(5,vI i)]) (fun i=>[]) (fun i=>l.length - i) 0 ⟨by omega,?_⟩ ?_ fun i hi=>?_
 ·rfl
 ·exact .oA [] []
 simp only [tZ,↓un_u,simprocAttr,decide_eq_true_eq,decide_eq_false_iff_not]
 refine ⟨fun h=>?_,fun h=>?_⟩
 ·have hi2:i < l.length:=by omega
  have hwi:=qh (i:=i) (by omega)
  simp only [tZ,↓un_u,simprocAttr,Int.toNat_natCast,qe hi2,hwi]
  refine ⟨by omega,fun h3=>?_,fun h3=>⟨i + 1,⟨by omega,zQ hi2 hi.2 h3⟩,by omega,?_⟩⟩
  ·rw [show l.contains n = true from List.contains_iff_mem.2 ((beq_iff_eq.1 h3) ▸ List.getElem_mem hi2)]
   exact .oA [] []
  ·exact .oA [] []
 ·have hi2:i = l.length:=by omega
  subst hi2
  have h3:=hi.2
  rw [List.take_length] at h3
  have:l.contains n = false:=by
   rw [← h3,Bool.eq_iff_iff,List.contains_iff_mem,List.any_eq_true]
   exact ⟨fun h=>⟨n,h,by simp⟩,fun ⟨x,h,e⟩=>beq_iff_eq.1 e ▸ h⟩
  rw [this]
  exact .oA [] []
end Go.Proofs
namespace Go.Proofs
open Go Go.TL
theorem Kj (n lo hi:Int):Spc Tryz.prog yR [vI n,vI lo,vI hi] [] (vB (inB n lo hi)) []:=by
 refine qd zl6 mixm (by simp) fun e _ hst=>qg ?_
 unfold qe1
 refine sW ?_
 rw [show (decide (lo≤n) && decide (n≤hi)) = inB n lo hi from rfl]
 exact .oA [] []
theorem zf5 {ws:List Int}:∀ {i:Nat},(∀ j,j < i→wdOk ws j = true)→∀ j,j < i→1≤ws.getD j 0
 | 0,_,j,h=>by omega
 | i + 1,hw,j,h=>by
   have ih:=zf5 (ws:=ws) (i:=i) fun j hj=>hw j (by omega)
   have:=hw j h
   unfold wdOk at this
   split at this
   ·rename_i e;subst e
    have:ws.getD 0 0 = 1:=by simpa using this
    omega
   ·simp only [Bool.and_eq_true,decide_eq_true_eq] at this
    have:=ih (j - 1) (by omega)
    omega
theorem qE9 (c:Col):Spc Tryz.prog ZF [colT c] [] (vI (measE c)) []:=by
 refine qd qw4 mixm (by simp) fun e _ hst=>qg ?_
 unfold QZ
 refine sW ?_
 refine C1.im (Kj c.low (-1000000) 1000000) (by rfl) (by rfl) ?_
 refine sW ?_
 refine C2.im (fun _=>Kj c.high (-1000000) 1000000) (fun _=>rfl) (by rfl) ?_
 simp only [tZ,↓un_u,simprocAttr,tD,Bool.not_eq_true',Bool.not_eq_false']
 refine ⟨fun h=>?_,fun h=>?_⟩
 ·rw [measE,if_pos (by grind)]
  exact .oA [] []
 ·refine ⟨fun h2=>?_,fun h2=>?_⟩
  ·rw [measE,if_neg (by grind),if_pos (by grind)]
   exact .oA [] []
  ·have hm:measE c = if ja4 c.widths = false then 2 else 0:=by rw [measE,if_neg (by grind),if_neg (by grind)]
   refine qu mixm (α:=Nat) [3] (fun i=>i≤c.widths.length∧(∀ j,j < i→wdOk c.widths j = true)) (fun i=>[(3,vI i)]) (fun i=>[(4096,.arr 7 [colT c] false)]) (fun i=>c.widths.length - i) 0 ⟨by omega,?_⟩ ?_ fun i hi=>?_
   ·intro j hj;omega
   ·exact .oA [(4096,some 4096)] []
   have hbad:i < c.widths.length→wdOk c.widths i = false→measE c = 2:=fun h1 h2=>by
    rw [hm,if_pos]
    exact List.all_eq_false.2 ⟨i,List.mem_range.2 h1,by rw [h2];simp⟩
   have hok:wdOk c.widths i = true→∀ j,j < i + 1→wdOk c.widths j = true:=fun h1 j hj=>by
    by_cases e:j = i
    ·rw [e];exact h1
    ·exact hi.2 j (by omega)
   simp only [tZ,↓un_u,simprocAttr,decide_eq_true_eq,decide_eq_false_iff_not]
   refine ⟨fun h=>?_,fun h=>?_⟩
   ·rcases Nat.eq_zero_or_pos i with h0 | h0
    ·subst h0
     have hw0:wdOk c.widths 0 = (c.widths.getD 0 0 == 1):=by rw [wdOk,if_pos rfl]
     have hlen:0 < c.widths.length:=by omega
     rw [qk hlen] at hw0
     have hz:((0:Nat):Int) = 0:=rfl
     have hz2:(IntKind.i64.wrap (-1)).toNat = 0:=by decide
     have hz3:=qh (i:=0) (by omega)
     rw [hz] at hz3
     simp only [tZ,↓un_u,simprocAttr,Int.toNat_natCast,hz,beq_self_eq_true,gt_iff_lt,Int.lt_irrefl,Bool.true_and,hz2,qe hlen,hz3]
     refine ⟨by omega,fun h3=>?_,fun h3=>?_⟩
     ·rw [hbad hlen (by rw [hw0];simpa using h3)]
      exact .oA [] []
     ·refine ⟨1,⟨by omega,hok (by rw [hw0];simpa using h3)⟩,by omega,?_⟩
      exact .oA [(4096,some 4096)] []
    ·obtain ⟨k,rfl⟩:∃ k,i = k + 1:=⟨i - 1,by omega⟩
     have hk2:k + 1 < c.widths.length:=by omega
     have hk3:k < c.widths.length:=by omega
     have e1:(((k + 1:Nat):Int) == 0) = false:=beq_eq_false_iff_ne.2 (by omega)
     have e2:decide (((k + 1:Nat):Int) > 0) = true:=decide_eq_true (by omega)
     have hw1:wdOk c.widths (k + 1) = (decide (c.widths[k] < c.widths[k + 1]) && decide (c.widths[k + 1]≤1000000) && (c.widths[k + 1].tmod c.widths[k] == 0)):=by
          rw [wdOk,if_neg (by omega),Nat.add_sub_cancel,qk hk2,qk hk3]
     have hp1:=zf5 (ws:=c.widths) hi.2 k (by omega)
     rw [qk hk3] at hp1
     have hws:=qh (i:=k + 1) (by omega)
     have e3:=yb (i:=k + 1) (by omega) (by omega)
     rw [Nat.add_sub_cancel] at e3
     simp only [tZ,↓un_u,simprocAttr,Int.toNat_natCast,qe hk2,qe hk3,e1,e2,e3,hws]
     refine ⟨by omega,by omega,fun _=>by omega,fun _=>by omega,fun h3=>?_,fun h3=>?_⟩
     ·rw [hbad hk2 (by rw [hw1];grind)]
      exact .oA [] []
     ·refine ⟨k + 2,⟨by omega,hok (by rw [hw1];grind)⟩,by omega,?_⟩
      exact .oA [(4096,some 4096)] []
   ·have hi2:i = c.widths.length:=by omega
    subst hi2
    rw [hm,if_neg]
    ·exact .oA [] []
    ·rw [Bool.not_eq_false]
     exact List.all_eq_true.2 fun j hj=>hi.2 j (List.mem_range.1 hj)
theorem qL2 (s:Sch) (i:Nat) (hi:i < s.cols.length) (hn:s.cols.length < 4611686018427387904) (hl:s.lists.length < 4611686018427387904):Spc Tryz.prog Js [schT s,vI i] [] (vI (colE s i)) []:=by
 have hat:qj s i = s.cols[i]:=by rw [qj,qk hi]
 have hE:colE s i = if jh s.cols[i].name = false then 3
  else if ((s.cols.take i).any fun x=>eqB x.name s.cols[i].name) = true then 10
  else if inB s.cols[i].kind 1 3 = false∨(0 < i∧s.cols[i].kind = 1) then 4
  else if s.cols[i].kind = 2∧inB s.cols[i].list 0 (s.lists.length - 1) = false then 5
  else if s.cols[i].kind = 3∧measE s.cols[i]≠0 then measE s.cols[i]
  else if (s.cols[i].kind≠2∧s.cols[i].list≠0)∨(s.cols[i].kind≠3∧(s.cols[i].low≠0∨s.cols[i].high≠0∨0 < s.cols[i].widths.length∨s.cols[i].opt = true)) then 11 else 0:=by rw [colE,hat]
 rw [hE]
 refine qd qD9 mixm (by simp) fun e _ hst=>qg ?_
 unfold ZR
 simp only [tZ,↓un_u,simprocAttr,Int.toNat_natCast,qe hi]
 generalize s.cols[i] = c
 refine ⟨by omega,?_⟩
 refine C1.im (wS c.name) (by rfl) (by rfl) ?_
 simp only [tZ,↓un_u,simprocAttr,Bool.not_eq_true',Bool.not_eq_false']
 refine ⟨fun h=>?_,fun h=>?_⟩
 ·rw [if_pos h]
  exact .oA [] []
 rw [if_neg (by rw [h];simp)]
 refine qu mixm (α:=Nat) [6] (fun k=>k≤i∧(s.cols.take k).any (fun x=>eqB x.name c.name) = false) (fun k=>[(6,vI k)]) (fun k=>[(4096,.arr 2 [schT s] false),(8212,.arr 7 [colT c] false)]) (fun k=>i - k) 0 ⟨by omega,rfl⟩ ?_ fun k hk=>?_
 ·exact .oA [(4096,some 4096),(8212,some 8212)] []
 simp only [tZ,↓un_u,simprocAttr,decide_eq_true_eq,decide_eq_false_iff_not]
 refine ⟨fun h=>?_,fun h=>?_⟩
 ·have hk2:k < s.cols.length:=by omega
  have hwk:=qh (i:=k) (by omega)
  simp only [tZ,↓un_u,simprocAttr,Int.toNat_natCast,qe hk2,hwk]
  refine ⟨by omega,by kernel_rfl,fun h7=>?_,fun h7=>?_⟩
  ·rw [if_pos (List.any_eq_true.2 ⟨s.cols[k],List.mem_take_iff_getElem.2 ⟨k,by omega,rfl⟩,h7⟩)]
   exact .oA [] []
  ·refine ⟨k + 1,⟨by omega,zQ hk2 hk.2 h7⟩,by omega,?_⟩
   exact .oA [(4096,some 4096),(8212,some 8212)] []
 ·have hki:k = i:=by omega
  subst hki
  rw [if_neg (by rw [hk.2];simp)]
  refine C1.im (Kj c.kind 1 3) (by rfl) (by rfl) ?_
  simp only [tZ,↓un_u,simprocAttr,tD,Bool.not_eq_true',Bool.not_eq_false',beq_iff_eq,beq_eq_false_iff_ne]
  refine ⟨fun h7=>?_,fun h7=>?_⟩
  ·rw [if_pos (by grind)]
   exact .oA [] []
  rw [if_neg (by grind)]
  have hw:IntKind.i64.wrap ((s.lists.length:Int) - 1) = (s.lists.length:Int) - 1:=IntWalk.i64_in _ (by omega)
  simp only [tZ,↓un_u,simprocAttr,hw]
  refine C2.im (fun _=>Kj c.list 0 ((s.lists.length:Int) - 1)) (fun _=>rfl) (by rfl) ?_
  simp only [tZ,↓un_u,simprocAttr,tD,Bool.not_eq_true',Bool.not_eq_false',beq_iff_eq,beq_eq_false_iff_ne]
  refine ⟨fun h8=>?_,fun h8=>?_⟩
  ·rw [if_pos (by grind)]
   exact .oA [] []
  rw [if_neg (by grind)]
  have hend:∀ v:Int,(if c.kind = 3∧¬measE c = 0 then measE c else if ¬c.kind = 2∧¬c.list = 0∨¬c.kind = 3∧(¬c.low = 0∨¬c.high = 0∨0 < c.widths.length∨c.opt = true) then 11 else 0) = v→ZD [] (T.v (Value.int IntKind.i64 v)) [(4096,Ob.arr 2 [schT s] false),(8212,Ob.arr 7 [colT c] false)] (vI (if c.kind = 3∧¬measE c = 0 then measE c else if ¬c.kind = 2∧¬c.list = 0∨¬c.kind = 3∧(¬c.low = 0∨¬c.high = 0∨0 < c.widths.length∨c.opt = true) then 11 else 0)) []:=fun v hv=>by
   rw [hv]
   exact .oA [] []
  refine ⟨fun h9=>?_,fun h9=>?_⟩
  ·refine C1.im (qE9 c) (by rfl) (by rfl) ?_
   simp only [tZ,↓un_u,simprocAttr,bne_iff_ne,bne_eq_false_iff_eq]
   refine ⟨fun h10=>hend _ (by rw [if_pos ⟨h9,h10⟩]),fun h10=>?_⟩
   simp only [tZ,↓un_u,simprocAttr,tD,bne_iff_ne,bne_eq_false_iff_eq]
   exact ⟨fun h11=>hend _ (by rw [if_neg (by grind),if_pos (by grind)]),fun h11=>hend _ (by rw [if_neg (by grind),if_neg (by grind)])⟩
  ·simp only [tZ,↓un_u,simprocAttr,tD,bne_iff_ne,bne_eq_false_iff_eq]
   exact ⟨fun h11=>hend _ (by rw [if_neg (by grind),if_pos (by grind)]),fun h11=>hend _ (by rw [if_neg (by grind),if_neg (by grind)])⟩
theorem qF0 {s:Sch} {i:Nat} (h:wV s i≠0):∀ n,i≤n→wV s n = wV s i:=by
 intro n hn
 induction n with
 | zero=>have:i = 0:=by omega
         rw [this]
 | succ n ih=>
   by_cases e:i = n + 1
   ·rw [e]
   ·have:=ih (by omega)
    rw [wV,this,if_pos h]
theorem qF1 {s:Sch} {i:Nat} (h:Kh s i≠0):∀ n,i≤n→Kh s n = Kh s i:=by
 intro n hn
 induction n with
 | zero=>have:i = 0:=by omega
         rw [this]
 | succ n ih=>
   by_cases e:i = n + 1
   ·rw [e]
   ·have:=ih (by omega)
    rw [Kh,this,if_pos h]
def Ze (s:Sch):Prop:=s.lists.length < 4611686018427387904∧s.cols.length < 4611686018427387904∧∀ l∈s.lists,l.codes.length < 4611686018427387904
theorem yG (s:Sch) (hs:Ze s):Spc Tryz.prog jJ [schT s] [] (vI (schE s)) []:=by
 obtain ⟨hs1,hs2,hs3⟩:=hs
 refine qd qI4 mixm (by simp) fun e _ hst=>qg ?_
 unfold Jx
 refine sD ?_
 refine ⟨fun h=>?_,fun h=>?_⟩
 ·rw [schE,if_pos (by omega)]
  exact .oA [] []
 have hE1:wV s s.lists.length≠0→schE s = wV s s.lists.length:=fun k=>by rw [schE,if_neg (by omega),if_pos k]
 refine qu mixm (α:=Nat) [3,17] (fun i=>i≤s.lists.length∧wV s i = 0) (fun i=>[(3,vI i)]) (fun i=>[(4096,.arr 2 [schT s] false)]) (fun i=>s.lists.length - i) 0 ⟨by omega,rfl⟩ ?_ fun i hi=>?_
 ·exact .oA [(4096,some 4096)] []
 obtain ⟨i1,i2⟩:=hi
 refine sD ?_
 refine ⟨fun h2=>?_,fun h2=>?_⟩
 ·have hi2:i < s.lists.length:=by omega
  have hwi:=qh (i:=i) (by omega)
  have hat:s.lists.getD i default = s.lists[i]:=qk hi2
  have hstep:wV s (i + 1) = if lstE s.lists[i]≠0 then lstE s.lists[i] else if ((s.lists.take i).any fun x=>eqB x.name s.lists[i].name) = true then 10 else 0:=by
   rw [wV,if_neg (by rw [i2];simp),hat]
  have hbad:wV s (i + 1)≠0→schE s = wV s (i + 1):=fun k=>by
   have:=qF0 k s.lists.length (by omega)
   rw [hE1 (by rw [this];exact k),this]
  simp only [tZ,↓un_u,simprocAttr,Int.toNat_natCast,qe hi2,hwi]
  refine ⟨by omega,?_⟩
  refine C1.im (qm0 s.lists[i] (hs3 _ (List.getElem_mem hi2))) (by rfl) (by rfl) ?_
  simp only [tZ,↓un_u,simprocAttr,bne_iff_ne,bne_eq_false_iff_eq]
  refine ⟨fun h3=>?_,fun h3=>?_⟩
  ·rw [if_pos h3] at hstep
   rw [hbad (by rw [hstep];exact h3),hstep]
   exact .oA [] []
  rw [if_neg (by rw [h3];simp)] at hstep
  refine qu mixm (α:=Nat) [5] (fun k=>k≤i∧(s.lists.take k).any (fun x=>eqB x.name s.lists[i].name) = false) (fun k=>[(5,vI k)]) (fun k=>[(4096,.arr 2 [schT s] false)]) (fun k=>i - k) 0 ⟨by omega,rfl⟩ ?_ fun k hk=>?_
  ·exact .oA [(4096,some 4096)] []
  simp only [tZ,↓un_u,simprocAttr,decide_eq_true_eq,decide_eq_false_iff_not]
  refine ⟨fun h=>?_,fun h=>?_⟩
  ·have hk2:k < s.lists.length:=by omega
   have hwk:=qh (i:=k) (by omega)
   simp only [tZ,↓un_u,simprocAttr,Int.toNat_natCast,qe hk2,qe hi2,hwk]
   refine ⟨by omega,by omega,by kernel_rfl,fun h7=>?_,fun h7=>?_⟩
   ·rw [if_pos (List.any_eq_true.2 ⟨s.lists[k],List.mem_take_iff_getElem.2 ⟨k,by omega,rfl⟩,h7⟩)] at hstep
    rw [hbad (by rw [hstep];simp),hstep]
    exact .oA [] []
   ·refine ⟨k + 1,⟨by omega,zQ hk2 hk.2 h7⟩,by omega,?_⟩
    exact .oA [(4096,some 4096)] []
  ·have hki:k = i:=by omega
   subst hki
   rw [if_neg (by rw [hk.2];simp)] at hstep
   simp only [tZ,↓un_u,simprocAttr,hwi]
   refine ⟨k + 1,⟨by omega,hstep⟩,by omega,?_⟩
   exact .oA [(4096,some 4096)] []
 ·have hil:i = s.lists.length:=by omega
  subst hil
  have hE2:s.cols.length = 0∨(qj s 0).kind≠1→schE s = 7:=fun k=>by rw [schE,if_neg (by omega),if_neg (by rw [i2];simp),if_pos k]
  have hE3:¬ (s.cols.length = 0∨(qj s 0).kind≠1)→schE s = Kh s s.cols.length:=fun k=>by rw [schE,if_neg (by omega),if_neg (by rw [i2];simp),if_neg k]
  have hz:((0:Nat):Int) = 0:=rfl
  by_cases h0:s.cols.length = 0
  ·have hn:s.cols = []:=List.length_eq_zero_iff.1 h0
   rw [hE2 (.inl h0)]
   simp only [tZ,↓un_u,simprocAttr,hn,List.length_nil,hz,beq_self_eq_true]
   exact .oA [] []
  ·have h0p:0 < s.cols.length:=by omega
   have e0:((s.cols.length:Int) == 0) = false:=beq_eq_false_iff_ne.2 (by omega)
   have hc0:qj s 0 = s.cols[0]:=by rw [qj,qk h0p]
   simp only [tZ,↓un_u,simprocAttr,e0,qe h0p,bne_iff_ne,bne_eq_false_iff_eq,Bool.false_or]
   refine ⟨by omega,fun h3=>?_,fun h3=>?_⟩
   ·rw [hE2 (.inr (by rw [hc0];exact h3))]
    exact .oA [] []
   have hE4:=hE3 (by rw [hc0];grind)
   refine qu mixm (α:=Nat) [6,63] (fun i=>i≤s.cols.length∧Kh s i = 0) (fun i=>[(6,vI i)]) (fun i=>[(4096,.arr 2 [schT s] false)]) (fun i=>s.cols.length - i) 0 ⟨by omega,rfl⟩ ?_ fun i hi=>?_
   ·exact .oA [(4096,some 4096)] []
   simp only [tZ,↓un_u,simprocAttr,decide_eq_true_eq,decide_eq_false_iff_not]
   refine ⟨fun h=>?_,fun h=>?_⟩
   ·have hi2:i < s.cols.length:=by omega
    have hwi:=qh (i:=i) (by omega)
    have hstep:Kh s (i + 1) = colE s i:=by rw [Kh,if_neg (by rw [hi.2];simp)]
    refine C1.im (qL2 s i hi2 hs2 hs1) (by rfl) (by rfl) ?_
    simp only [tZ,↓un_u,simprocAttr,bne_iff_ne,bne_eq_false_iff_eq,hwi]
    refine ⟨fun h4=>?_,fun h4=>?_⟩
    ·have:=qF1 (s:=s) (i:=i + 1) (by rw [hstep];exact h4) s.cols.length (by omega)
     rw [hE4,this,hstep]
     exact .oA [] []
    ·refine ⟨i + 1,⟨by omega,by rw [hstep];exact h4⟩,by omega,?_⟩
     exact .oA [(4096,some 4096)] []
   ·have hi2:i = s.cols.length:=by omega
    subst hi2
    rw [hE4,hi.2]
    exact .oA [] []
end Go.Proofs
