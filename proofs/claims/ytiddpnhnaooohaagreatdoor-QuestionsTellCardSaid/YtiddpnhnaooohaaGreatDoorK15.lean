/- A part of the proof: trees of Go values, short forms, contracts. -/
import Derived.WalkKit
import Derived.Still
import Derived.MapKept
import GoSem.Builtin.Cap
import Derived.Laws.Externs
import GoSem.Extern.SlicesOverlaps
import Derived.Carry
import Derived.ProofKit
import Derived.OpenShut
import Derived.HandedShaped
import Derived.Lay
import Derived.LaidLaws
import Derived.MakeChecks
import Derived.SevenTiedAt
import Derived.Test.YtiddpnhnaooohaaGreatDoorChecked
import Derived.Test.YtiddpnhnaooohaaGreatDoorK14
set_option linter.unusedSimpArgs false
set_option linter.unusedVariables false
namespace Go.Proofs
open Go Go.TL
theorem mixm:Tryz.prog.follows .mixedOrders = true:=by kernel_rfl
theorem zA1 (l:List UInt8):Spc Tryz.prog qm1 [vL l] [] (.ptr 0 1 0 0) [(0,oC (l.take 400) 0)]:=by
 refine qd zj9 mixm (by simp) fun e _ hst=>qg ?_
 unfold qa6
 obtain ⟨m,hm,hm2⟩:∃ m:Nat,minI (l.length:Int) 400 = m∧m≤l.length∧l.take m = l.take 400:=by
  unfold minI
  split
  ·exact ⟨400,rfl,by omega,rfl⟩
  ·exact ⟨l.length,rfl,by omega,by rw [List.take_length,List.take_of_length_le (by omega)]⟩
 simp only [tZ,↓un_u,simprocAttr,hm,qa4,qM4,hm2]
 refine ⟨by omega,.of [(0,some 8216)] [] rfl rfl ?_ ?_⟩
 ·simp only [tL,simprocAttr]
  exact qK ⟨rfl,rfl,rfl,rfl,trivial⟩ qT
 ·simp only [tL,simprocAttr]
theorem zH (l:List UInt8) (at_:Nat) (n:Int) (hl:l.length≤400) (ha:at_≤l.length) (hn:n≤1000000):Spc Tryz.prog qy [.ptr 0 1 0 0,vI n] [(0,oC l at_)] (vI (nx l at_ n).1) [(0,oC l (nx l at_ n).2)]:=by
 refine qd qg7 mixm (by simp) fun e _ hst=>qg ?_
 unfold yd
 simp only [tZ,↓un_u,simprocAttr,Bool.or_eq_true,Bool.or_eq_false_iff,decide_eq_true_eq,decide_eq_false_iff_not]
 refine ⟨by kernel_rfl,fun h1=>?_,fun h1=>?_⟩
 ·have e:nx l at_ n = (0,at_):=by unfold nx;rw [if_pos (by omega)]
  rw [e]
  refine .of [(0,some 0)] [] rfl rfl ?_ ?_
  ·simp only [tL,simprocAttr]
   exact qK ⟨rfl,rfl,rfl,rfl,trivial⟩ qT
  ·simp only [tL,simprocAttr]
 ·have h2:at_ < l.length:=by omega
  have hw1:IntKind.i64.wrap ((at_:Int) + 1) = ((at_ + 1:Nat):Int):=by rw [IntWalk.i64_in _ (by omega)];omega
  have hw2:IntKind.i64.wrap (((at_ + 1:Nat):Int) - 1) = (at_:Int):=by rw [IntWalk.i64_in _ (by omega)];omega
  simp only [tZ,↓un_u,simprocAttr,hw1,hw2,Int.toNat_natCast,qM2 h2]
  refine ⟨by omega,by kernel_rfl,by kernel_rfl,fun h3=>?_,fun h3=>?_⟩
  ·simp only [Bool.and_eq_true,decide_eq_true_eq] at h3
   have h4:at_ + 1 < l.length:=by omega
   have hb:=zj2 (l.getD at_ 0)
   have hb2:=zj2 (l.getD (at_ + 1) 0)
   have e:nx l at_ n = (((l.getD at_ 0).toNat * 256 + (l.getD (at_ + 1) 0).toNat) % n,at_ + 2):=by
    unfold nx
    rw [if_neg (by omega),if_pos (by omega)]
   have hw3:IntKind.i64.wrap (((at_ + 1:Nat):Int) + 1) = ((at_ + 2:Nat):Int):=by rw [IntWalk.i64_in _ (by omega)];omega
   have hv1:IntKind.i64.wrap ((l.getD at_ 0).toNat:Int) = (l.getD at_ 0).toNat:=IntWalk.i64_in _ (by omega)
   have hv2:IntKind.i64.wrap ((l.getD (at_ + 1) 0).toNat:Int) = (l.getD (at_ + 1) 0).toNat:=IntWalk.i64_in _ (by omega)
   have hv3:IntKind.i64.wrap (((l.getD at_ 0).toNat:Int) * 256) = (l.getD at_ 0).toNat * 256:=IntWalk.i64_in _ (by omega)
   have hv4:IntKind.i64.wrap (((l.getD at_ 0).toNat:Int) * 256 + (l.getD (at_ + 1) 0).toNat) = (l.getD at_ 0).toNat * 256 + (l.getD (at_ + 1) 0).toNat:=IntWalk.i64_in _ (by omega)
   simp only [tZ,↓un_u,simprocAttr,hw3,Int.toNat_natCast,qM2 h4,hv1,hv2,hv3,hv4]
   rw [e,Int.tmod_eq_emod_of_nonneg (by omega)]
   refine ⟨by omega,by kernel_rfl,by omega,.of [(0,some 0)] [] rfl rfl ?_ ?_⟩
   ·simp only [tL,simprocAttr]
    exact qK ⟨rfl,rfl,rfl,rfl,trivial⟩ qT
   ·simp only [tL,simprocAttr]
  ·have e:nx l at_ n = ((l.getD at_ 0).toNat % n,at_ + 1):=by
    unfold nx
    rw [if_neg (by omega),if_neg]
    simp only [Bool.and_eq_false_iff,decide_eq_false_iff_not] at h3
    omega
   have hb:=zj2 (l.getD at_ 0)
   rw [e,IntWalk.i64_in _ (by omega),Int.tmod_eq_emod_of_nonneg (by omega)]
   refine ⟨by omega,.of [(0,some 0)] [] rfl rfl ?_ ?_⟩
   ·simp only [tL,simprocAttr]
    exact qK ⟨rfl,rfl,rfl,rfl,trivial⟩ qT
   ·simp only [tL,simprocAttr]
end Go.Proofs
namespace Go.Proofs
open Go Go.TL
structure Cod where
 name:ByteArray
 par:Int
structure CodL where
 name:ByteArray
 codes:List Cod
structure Col where
 name:ByteArray
 kind:Int
 list:Int
 low:Int
 high:Int
 widths:List Int
 opt:Bool
structure Sch where
 lists:List CodL
 cols:List Col
structure Pk where
 col:Int
 lev:Int
inductive Cnd where
 | mk (op col code lo hi:Int) (kids:List Cnd)
structure Qst where
 name:ByteArray
 kind:Int
 filt:Cnd
 dims:List Pk
 meas:Int
 terms:List Int
 event:Cnd
structure Smp where
 part:Int
 of:Int
 seed:Int
structure Dcl where
 proj:ByteArray
 src:ByteArray
 coh:Cnd
 smp:Smp
 qs:List Qst
structure Src where
 sch:Sch
 rows:List (List Int)
 gone:List Int
 ver:Int
structure Edt where
 kind:Int
 row:List Int
 id:Int
structure Ext where
 proj:ByteArray
 ver:Int
 picks:List Pk
 rows:List (List Int)
structure Chg where
 ver:Int
 gone:List Int
 rows:List (List Int)
namespace Cnd
def op:Cnd→Int | .mk a _ _ _ _ _=>a
def col:Cnd→Int | .mk _ a _ _ _ _=>a
def code:Cnd→Int | .mk _ _ a _ _ _=>a
def lo:Cnd→Int | .mk _ _ _ a _ _=>a
def hi:Cnd→Int | .mk _ _ _ _ a _=>a
def kids:Cnd→List Cnd | .mk _ _ _ _ _ a=>a
end Cnd
abbrev cnd0:Cnd:=.mk 0 0 0 0 0 []
instance:Inhabited Cod:=⟨⟨⟨#[]⟩,0⟩⟩
instance:Inhabited CodL:=⟨⟨⟨#[]⟩,[]⟩⟩
instance:Inhabited Col:=⟨⟨⟨#[]⟩,0,0,0,0,[],false⟩⟩
instance:Inhabited Sch:=⟨⟨[],[]⟩⟩
instance:Inhabited Pk:=⟨⟨0,0⟩⟩
instance:Inhabited Cnd:=⟨cnd0⟩
instance:Inhabited Qst:=⟨⟨⟨#[]⟩,0,cnd0,[],0,[],cnd0⟩⟩
instance:Inhabited Edt:=⟨⟨0,[],0⟩⟩
abbrev codT (c:Cod):T:=.agg [vS c.name,vI c.par]
abbrev cdlT (l:CodL):T:=.agg [vS l.name,.sl 2 (l.codes.map codT)]
abbrev colT (c:Col):T:=.agg [vS c.name,vI c.kind,vI c.list,vI c.low,vI c.high,vIs c.widths,vB c.opt]
abbrev schT (s:Sch):T:=.agg [.sl 2 (s.lists.map cdlT),.sl 7 (s.cols.map colT)]
abbrev pkT (p:Pk):T:=.agg [vI p.col,vI p.lev]
abbrev vPs (l:List Pk):T:=.sl 2 (l.map pkT)
mutual
def cndT:Cnd→T
 | .mk op col code lo hi kids=>.agg [vI op,vI col,vI code,vI lo,vI hi,.sl 6 (zP3 kids)]
def zP3:List Cnd→List T
 | []=>[]
 | c :: r=>cndT c :: zP3 r
end
theorem zd6:∀ l:List Cnd,zP3 l = l.map cndT
 | []=>by simp [zP3]
 | c :: r=>by simp [zP3,zd6 r]
theorem zg (c:Cnd):cndT c = .agg [vI c.op,vI c.col,vI c.code,vI c.lo,vI c.hi,.sl 6 (c.kids.map cndT)]:=by
 cases c
 simp only [cndT,zd6,Cnd.op,Cnd.col,Cnd.code,Cnd.lo,Cnd.hi,Cnd.kids]
abbrev vCs (l:List Cnd):T:=.sl 6 (l.map cndT)
abbrev qstT (q:Qst):T:=.agg [vS q.name,vI q.kind,vI q.filt.op,vI q.filt.col,vI q.filt.code,vI q.filt.lo,vI q.filt.hi,vCs q.filt.kids,vPs q.dims,vI q.meas,vIs q.terms,vI q.event.op,vI q.event.col,vI q.event.code,vI q.event.lo,vI q.event.hi,vCs q.event.kids]
end Go.Proofs
namespace Go.Proofs
open Go Go.TL
def qB0 (c:UInt8):Bool:=(decide ((c.toNat:Int) < 97) || decide ((c.toNat:Int) > 122)) && (decide ((c.toNat:Int) < 48) || decide ((c.toNat:Int) > 57)) && !((c.toNat:Int) == 95)
def zl2 (s:ByteArray):Bool:=decide ((s.size:Int) < 1) || decide ((s.size:Int) > 16) || decide (((s.data.toList.getD 0 0).toNat:Int) < 97) || decide (((s.data.toList.getD 0 0).toNat:Int) > 122)
def resW:List (List UInt8):=[[97,108,108],[97,110,100],[101,118,101,110,116],[102,114,111,109],[109,105,115,115,105,110,103],[110,111,116],[111,110],[111,114],[116,111],[117,110,100,101,114],[119,104,101,114,101]]
def ko (s:ByteArray):Bool:=!zl2 s && !(s.data.toList.any qB0) && !(resW.contains s.toList)
theorem ZP (s:ByteArray):Spc Tryz.prog wG [vS s] [] (vB (ko s)) []:=by
 have hsl:s.size = s.data.toList.length:=by rw [Array.length_toList];rfl
 refine qd qR1 mixm (by simp) fun e _ hst=>qg ?_
 unfold KA
 refine sW ?_
 refine ⟨fun h=>?_,fun h=>?_,fun h=>?_,fun h=>?_⟩
 ·simp at h
  omega
 ·simp at h
  omega
 ·have:ko s = false:=by unfold ko zl2;rw [h];rfl
  rw [this]
  exact .oA [] []
 have hd:zl2 s = false:=h
 have hs16:s.data.toList.length≤16:=by
  unfold zl2 at hd
  simp only [Bool.or_eq_false_iff,decide_eq_false_iff_not] at hd
  omega
 refine qw mixm (α:=Nat) [3] (fun i=>i≤s.data.toList.length∧((s.data.toList.take i).any qB0 = false)) (fun i=>[(3,vI i)]) (fun i=>[]) (fun i=>s.data.toList.length - i) 0 ⟨by omega,?_⟩ ?_ fun i hi=>?_
 ·rfl
 ·exact .oA [] []
 refine sD ?_
 refine ⟨fun h5=>?_,fun h5=>?_⟩
 ·have hi2:i < s.data.toList.length:=by omega
  have hwi:=qj (i:=i) (by omega)
  simp only [tZ,↓un_u,simprocAttr,Int.toNat_natCast,hwi,yr]
  have hg:s.data.toList.getD i 0 = s.data.toList[i]:=qk hi2
  simp only [hg]
  refine ⟨by omega,?_⟩
  repeat (refine ⟨fun _=>by omega,?_⟩)
  refine ⟨fun h6=>?_,fun h6=>?_⟩
  ·have hb:qB0 s.data.toList[i] = true:=by
    simp only [beq_eq_false_iff_ne] at h6
    generalize s.data.toList[i] = c at h6 ⊢
    unfold qB0
    simp
    omega
   have:ko s = false:=by
    unfold ko
    rw [show s.data.toList.any qB0 = true from List.any_eq_true.2 ⟨_,List.getElem_mem hi2,hb⟩]
    simp
   rw [this]
   exact .oA [] []
  ·have hb:qB0 s.data.toList[i] = false:=by
    rw [← h6,Bool.eq_iff_iff]
    generalize s.data.toList[i] = c
    unfold qB0
    simp
    try omega
   refine ⟨i + 1,⟨by omega,zY hi2 hi.2 hb⟩,by omega,?_⟩
   exact .oA [] []
 ·have h3:=hi.2
  have:i = s.data.toList.length:=by omega
  rw [this,List.take_length] at h3
  have hn:ko s = !(resW.contains s.toList):=by unfold ko;rw [hd,h3];rfl
  rw [hn]
  simp only [resW,List.contains_cons,List.contains_nil]
  repeat' (first | with_reducible apply And.intro | with_reducible intro _)
  all_goals first
   | (exfalso;simp_all;done)
   | (simp only [*,Bool.true_or,Bool.or_true,Bool.false_or,Bool.or_false,Bool.not_true,Bool.not_false];exact .imR rfl rfl)
end Go.Proofs
namespace Go.Proofs
open Go Go.TL
abbrev cdAt (cs:List Cod) (i:Nat):Cod:=cs.getD i default
def parC (cs:List Cod) (i:Nat):Int:=(cdAt cs i).par
def depF (cs:List Cod):Nat→Nat→Nat
 | 0,_=>0
 | f + 1,c=>if parC cs c < 0 then 0 else depF cs f (parC cs c).toNat + 1
def dep (cs:List Cod) (c:Nat):Nat:=depF cs (c + 1) c
def qt4 (cs:List Cod):Prop:=∀ i,i < cs.length→-1≤parC cs i∧parC cs i < i
theorem zP4 {cs:List Cod} (h:qt4 cs):∀ (c f g:Nat),c < cs.length→c < f→c < g→depF cs f c = depF cs g c:=by
 intro c
 induction c using Nat.strongRecOn with
 | _ c ih=>
   intro f g hc hf hg
   obtain ⟨f,rfl⟩:∃ k,f = k + 1:=⟨f - 1,by omega⟩
   obtain ⟨g,rfl⟩:∃ k,g = k + 1:=⟨g - 1,by omega⟩
   simp only [depF]
   have hp:=h c hc
   split
   ·rfl
   ·rw [ih (parC cs c).toNat (by omega) f g (by omega) (by omega) (by omega)]
theorem qi6 {cs:List Cod} {c:Nat} (h:parC cs c < 0):dep cs c = 0:=by simp [dep,depF,h]
theorem qo2 {cs:List Cod} (h:qt4 cs) {c:Nat} (hc:c < cs.length) (h0:0≤parC cs c):dep cs c = dep cs (parC cs c).toNat + 1:=by
 have hp:=h c hc
 unfold dep
 rw [depF,if_neg (by omega),zP4 h _ c ((parC cs c).toNat + 1) (by omega) (by omega) (by omega)]
theorem qr1 {cs:List Cod} (h:qt4 cs):∀ c,c < cs.length→dep cs c≤c:=by
 intro c
 induction c using Nat.strongRecOn with
 | _ c ih=>
   intro hc
   by_cases h0:parC cs c < 0
   ·rw [qi6 h0];omega
   ·have hp:=h c hc
    have:=ih (parC cs c).toNat (by omega) (by omega)
    rw [qo2 h hc (by omega)]
    omega
def qc7 (cs:List Cod) (c:Nat):Bool:=!(cs.any fun x=>x.par == (c:Int))
def eqB (a b:ByteArray):Bool:=a.toList == b.toList
def cdE (cs:List Cod) (i:Nat):Int:=
 if ko (cdAt cs i).name = false then 3
 else if ((cs.take i).any fun x=>eqB x.name (cdAt cs i).name) = true then 10
 else if (i = 0∧parC cs i≠-1)∨(0 < i∧(parC cs i < 0∨parC cs i≥i)) then 6 else 0
def cdEs (cs:List Cod):Nat→Int
 | 0=>0
 | n + 1=>if cdEs cs n≠0 then cdEs cs n else cdE cs n
def lvS (cs:List Cod) (o:Option Int) (i:Nat):Option Int:=match o with
 | none=>none
 | some v=>if qc7 cs i = true then (if v≥0∧(dep cs i:Int)≠v then none else some (dep cs i)) else some v
def lvs (cs:List Cod) (n:Nat):Option Int:=(List.range n).foldl (lvS cs) (some (-1))
def lstE (l:CodL):Int:=
 if ko l.name = false then 3 else if l.codes.length = 0 then 5 else if l.codes.length > 60 then 1
 else if cdEs l.codes l.codes.length≠0 then cdEs l.codes l.codes.length else match lvs l.codes l.codes.length with | none=>5 | some _=>0
theorem qN2 {cs:List Cod} {i:Nat} (h:cdEs cs i≠0):∀ n,i≤n→cdEs cs n = cdEs cs i:=by
 intro n hn
 induction n with
 | zero=>have:i = 0:=by omega
         rw [this]
 | succ n ih=>
   by_cases e:i = n + 1
   ·rw [e]
   ·have:=ih (by omega)
    rw [cdEs,this,if_pos h]
theorem qi7 {cs:List Cod}:∀ {n:Nat},cdEs cs n = 0→∀ i,i < n→cdE cs i = 0
 | 0,_,i,h=>by omega
 | n + 1,h,i,hi=>by
   rw [cdEs] at h
   split at h
   ·rename_i h2;exact absurd h h2
   ·rename_i h2
    by_cases e:i = n
    ·rw [e];exact h
    ·exact qi7 (Classical.byContradiction h2) i (by omega)
theorem qS3 {cs:List Cod} {i:Nat} (h:cdE cs i = 0) : -1≤parC cs i∧parC cs i < i∧(i = 0→parC cs i = -1)∧(0 < i→0≤parC cs i):=by
 unfold cdE at h
 split at h
 ·cases h
 ·split at h
  ·cases h
  ·split at h
   ·cases h
   ·rename_i h1
    omega
theorem zc {l:CodL} (h:lstE l = 0):qt4 l.codes∧0 < l.codes.length∧l.codes.length≤60:=by
 unfold lstE at h
 split at h
 ·cases h
 ·split at h
  ·cases h
  ·split at h
   ·cases h
   ·split at h
    ·rename_i h2;exact absurd h h2
    ·rename_i h1 h2 h3 h4
     refine ⟨fun i hi=>?_,by omega,by omega⟩
     have:=qS3 (qi7 (Classical.byContradiction h4) i hi)
     exact ⟨this.1,this.2.1⟩
def zk (l:CodL):Int:=if lstE l≠0 then -1 else (dep l.codes (l.codes.length - 1):Int) + 1
def lvlC (l:CodL) (c:Int):Int:=if lstE l≠0∨c < 0∨c≥l.codes.length then -1 else dep l.codes c.toNat
def upF (cs:List Cod) (lev:Nat):Nat→Nat→Nat
 | 0,c=>c
 | f + 1,c=>if lev < dep cs c then upF cs lev f (parC cs c).toNat else c
def upC (l:CodL) (c lev:Int):Int:=if lstE l≠0∨c < 0∨c≥l.codes.length∨lev < 0∨lev > dep l.codes c.toNat then -1 else upF l.codes lev.toNat (c.toNat + 1) c.toNat
def atL (l:CodL) (lev:Int):List Int:=if lstE l≠0 then [] else List.map (fun i:Nat=>(i:Int)) ((List.range l.codes.length).filter fun i=>(dep l.codes i:Int) == lev)
def Yb (l:CodL) (c above:Int):Bool:=decide (0≤lvlC l above) && decide (lvlC l above≤lvlC l c) && (upC l c (lvlC l above) == above)
end Go.Proofs
namespace Go.Proofs
open Go Go.TL
theorem kF (l:CodL) (c:Nat) (hp:qt4 l.codes) (hc:c < l.codes.length) (hl:l.codes.length≤1000):Spc Tryz.prog zl [cdlT l,vI c] [] (vI (dep l.codes c)) []:=by
 refine qd qG9 mixm (by simp) fun e _ hst=>qg ?_
 unfold Jk
 refine sW ?_
 refine qw mixm (α:=Nat×Nat) [1,5] (fun x=>x.1 < l.codes.length∧dep l.codes c = x.2 + dep l.codes x.1∧x.2 + x.1≤1000) (fun x=>[(1,vI x.1),(5,vI x.2)]) (fun x=>[(4096,.arr 2 [cdlT l] false)]) (fun x=>x.1) (c,0) ⟨hc,by simp,by simp;omega⟩ ?_ fun x hx=>?_
 ·exact .oA [(4096,some 4096)] []
 obtain ⟨k,n⟩:=x
 obtain ⟨h1,h2,h3⟩:=hx
 dsimp only at h1 h2 h3
 have hpk:=hp k h1
 have hcd:l.codes[k].par = parC l.codes k:=by rw [parC,cdAt,qk h1]
 have hwn:=qj (i:=n) (by omega)
 simp only [tZ,↓un_u,simprocAttr,Int.toNat_natCast,qe h1,hcd,tD,hwn]
 refine ⟨by omega,fun h4=>?_,fun h4=>?_⟩
 ·obtain ⟨p,hpe⟩:=Int.eq_ofNat_of_zero_le h4
  rw [qo2 hp h1 (by omega),hpe,Int.toNat_natCast] at h2
  rw [hpe] at hpk ⊢
  refine ⟨by omega,(p,n + 1),⟨by dsimp only;omega,by dsimp only;omega,by dsimp only;omega⟩,by dsimp only;omega,?_⟩
  exact .oA [(4096,some 4096)] []
 ·rw [qi6 (c:=k) (by omega),Nat.add_zero] at h2
  rw [h2]
  exact .oA [] []
def zA2 (l:CodL) (c:Int):Bool:=!(l.codes.any fun x=>x.par == c)
theorem zd7 (l:CodL) (c:Int) (hl:l.codes.length≤1000):Spc Tryz.prog WJ [cdlT l,vI c] [] (vB (zA2 l c)) []:=by
 refine qd qS2 mixm (by simp) fun e _ hst=>qg ?_
 unfold KI
 refine sW ?_
 refine qw mixm (α:=Nat) [5] (fun i=>i≤l.codes.length∧(l.codes.take i).any (fun x=>x.par == c) = false) (fun i=>[(5,vI i)]) (fun i=>[(4096,.arr 2 [cdlT l] false)]) (fun i=>l.codes.length - i) 0 ⟨by omega,rfl⟩ ?_ fun i hi=>?_
 ·exact .oA [(4096,some 4096)] []
 obtain ⟨h1,h2⟩:=hi
 refine sD ?_
 refine ⟨fun h3=>?_,fun h3=>?_⟩
 ·have hi2:i < l.codes.length:=by omega
  have hwi:=qj (i:=i) (by omega)
  simp only [tZ,↓un_u,simprocAttr,Int.toNat_natCast,qe hi2,hwi]
  refine ⟨by omega,fun h4=>?_,fun h4=>?_⟩
  ·have:zA2 l c = false:=by
    unfold zA2
    rw [List.any_eq_true.2 ⟨_,List.getElem_mem hi2,h4⟩];rfl
   rw [this]
   exact .oA [] []
  ·refine ⟨i + 1,⟨by omega,zY hi2 h2 h4⟩,by omega,?_⟩
   exact .oA [(4096,some 4096)] []
 ·have hil:i = l.codes.length:=by omega
  subst hil
  rw [List.take_length] at h2
  have:zA2 l c = true:=by unfold zA2;rw [h2];rfl
  rw [this]
  exact .oA [] []
end Go.Proofs
namespace Go.Proofs
open Go Go.TL
theorem qu7 (cs:List Cod) (n:Nat):lvs cs (n + 1) = lvS cs (lvs cs n) n:=by
 unfold lvs
 rw [List.range_succ,List.foldl_append]
 rfl
theorem zu8 {cs:List Cod} {n:Nat} (h:lvs cs n = none):∀ m,n≤m→lvs cs m = none:=by
 intro m hm
 induction m with
 | zero=>have:n = 0:=by omega
         rw [← this];exact h
 | succ m ih=>
   by_cases e:n = m + 1
   ·rw [← e];exact h
   ·rw [qu7,ih (by omega)];rfl
theorem jg1 {cs:List Cod} (h:cdEs cs cs.length = 0):qt4 cs:=fun i hi=>by
 have:=qS3 (qi7 h i hi)
 exact ⟨this.1,this.2.1⟩
theorem yn (l:CodL) (hl:l.codes.length < 4611686018427387904):Spc Tryz.prog jx [cdlT l] [] (vI (lstE l)) []:=by
 refine qd qG7 mixm (by simp) fun e _ hst=>qg ?_
 unfold Jj
 refine sW ?_
 refine C1.im (ZP l.name) (by rfl) (by rfl) ?_
 simp only [tZ,↓un_u,simprocAttr,Bool.not_eq_true',Bool.not_eq_false']
 refine ⟨fun h=>?_,fun h1=>?_⟩
 ·rw [lstE,if_pos h]
  exact .oA [] []
 simp only [tZ,↓un_u,simprocAttr,beq_iff_eq,beq_eq_false_iff_ne]
 refine ⟨fun h=>?_,fun h2=>?_⟩
 ·rw [lstE,if_neg (by rw [h1];simp),if_pos (by omega)]
  exact .oA [] []
 refine sD ?_
 refine ⟨fun h=>?_,fun h3=>?_⟩
 ·rw [lstE,if_neg (by rw [h1];simp),if_neg (by omega),if_pos (by omega)]
  exact .oA [] []
 have hE1:cdEs l.codes l.codes.length≠0→lstE l = cdEs l.codes l.codes.length:=fun h=>by
  rw [lstE,if_neg (by rw [h1];simp),if_neg (by omega),if_neg (by omega),if_pos h]
 have hE2:cdEs l.codes l.codes.length = 0→lvs l.codes l.codes.length = none→lstE l = 5:=fun h k=>by
  rw [lstE,if_neg (by rw [h1];simp),if_neg (by omega),if_neg (by omega),if_neg (by rw [h];simp),k]
 have hE3:∀ v,cdEs l.codes l.codes.length = 0→lvs l.codes l.codes.length = some v→lstE l = 0:=fun v h k=>by
  rw [lstE,if_neg (by rw [h1];simp),if_neg (by omega),if_neg (by omega),if_neg (by rw [h];simp),k]
 refine qw mixm (α:=Nat) [3] (fun i=>i≤l.codes.length∧cdEs l.codes i = 0) (fun i=>[(3,vI i)]) (fun i=>[(4096,.arr 2 [cdlT l] false)]) (fun i=>l.codes.length - i) 0 ⟨by omega,rfl⟩ ?_ fun i hi=>?_
 ·exact .oA [(4096,some 4096)] []
 obtain ⟨i1,i2⟩:=hi
 refine sD ?_
 refine ⟨fun h4=>?_,fun h4=>?_⟩
 ·have hi2:i < l.codes.length:=by omega
  have hwi:=qj (i:=i) (by omega)
  have hat:cdAt l.codes i = l.codes[i]:=by rw [cdAt,qk hi2]
  have hs:cdEs l.codes (i + 1) = cdE l.codes i:=by rw [cdEs,if_neg (by rw [i2];simp)]
  have hbad:cdE l.codes i≠0→lstE l = cdE l.codes i:=fun hb=>by
   have:=qN2 (by rw [hs];exact hb) l.codes.length (show i + 1≤l.codes.length by omega)
   rw [hE1 (by rw [this,hs];exact hb),this,hs]
  simp only [tZ,↓un_u,simprocAttr,Int.toNat_natCast,qe hi2]
  refine ⟨by omega,?_⟩
  refine C1.im (ZP l.codes[i].name) (by rfl) (by rfl) ?_
  simp only [tZ,↓un_u,simprocAttr,Bool.not_eq_true',Bool.not_eq_false']
  refine ⟨fun h5=>?_,fun h5=>?_⟩
  ·have hc:cdE l.codes i = 3:=by rw [cdE,hat,if_pos h5]
   rw [hbad (by rw [hc];decide),hc]
   exact .oA [] []
  refine qw mixm (α:=Nat) [4] (fun k=>k≤i∧(l.codes.take k).any (fun x=>eqB x.name l.codes[i].name) = false) (fun k=>[(4,vI k)]) (fun k=>[(4096,.arr 2 [cdlT l] false)]) (fun k=>i - k) 0 ⟨by omega,rfl⟩ ?_ fun k hk=>?_
  ·exact .oA [(4096,some 4096)] []
  obtain ⟨k1,k2⟩:=hk
  refine sD ?_
  refine ⟨fun h6=>?_,fun h6=>?_⟩
  ·have hk2:k < l.codes.length:=by omega
   have hwk:=qj (i:=k) (by omega)
   simp only [tZ,↓un_u,simprocAttr,Int.toNat_natCast,qe hi2,qe hk2,hwk]
   refine ⟨by omega,by omega,by kernel_rfl,fun h7=>?_,fun h7=>?_⟩
   ·have hc:cdE l.codes i = 10:=by
     rw [cdE,hat,if_neg (by rw [h5];simp),if_pos (List.any_eq_true.2 ⟨l.codes[k],List.mem_take_iff_getElem.2 ⟨k,by omega,rfl⟩,h7⟩)]
    rw [hbad (by rw [hc];decide),hc]
    exact .oA [] []
   ·refine ⟨k + 1,⟨by omega,zY hk2 k2 h7⟩,by omega,?_⟩
    exact .oA [(4096,some 4096)] []
  ·have hki:k = i:=by omega
   subst hki
   have hpar:l.codes[k].par = parC l.codes k:=by rw [parC,hat]
   have hcE:cdE l.codes k = if (k = 0∧parC l.codes k≠-1)∨(0 < k∧(parC l.codes k < 0∨parC l.codes k≥k)) then 6 else 0:=by
    rw [cdE,hat,if_neg (by rw [h5];simp),if_neg (by rw [k2];simp)]
   simp only [tZ,↓un_u,simprocAttr,Int.toNat_natCast,qe hi2,hpar,hwi,tD,beq_iff_eq,beq_eq_false_iff_ne,bne_iff_ne,bne_eq_false_iff_eq]
   refine ⟨by omega,fun h7=>?_,fun h7=>?_⟩
   ·have hc:cdE l.codes k = 6:=by rw [hcE,if_pos (by omega)]
    rw [hbad (by rw [hc];decide),hc]
    exact .oA [] []
   ·refine ⟨k + 1,⟨by omega,by rw [hs,hcE,if_neg (by omega)]⟩,by omega,?_⟩
    exact .oA [(4096,some 4096)] []
 ·have hil:i = l.codes.length:=by omega
  subst hil
  have hp:=jg1 i2
  refine qw mixm (α:=Nat×Int) [6,7] (fun x=>x.1≤l.codes.length∧lvs l.codes x.1 = some x.2) (fun x=>[(6,vI x.2),(7,vI x.1)]) (fun x=>[(4096,.arr 2 [cdlT l] false)]) (fun x=>l.codes.length - x.1) (0,-1) ⟨by simp,rfl⟩ ?_ fun x hx=>?_
  ·exact .oA [(4096,some 4096)] []
  obtain ⟨j,v⟩:=x
  obtain ⟨j1,j2⟩:=hx
  dsimp only at j1 j2
  refine sD ?_
  refine ⟨fun h5=>?_,fun h5=>?_⟩
  ·have hj2:j < l.codes.length:=by omega
   have hwj:=qj (i:=j) (by omega)
   have hs:=qu7 l.codes j
   rw [j2,lvS] at hs
   have hlf:=zd7 l (j:Int) (by omega)
   have hdp:=kF l j hp hj2 (by omega)
   rw [show zA2 l (j:Int) = qc7 l.codes j from rfl] at hlf
   refine C1.im hlf (by rfl) (by rfl) ?_
   simp only [tZ,↓un_u,simprocAttr,hwj]
   refine ⟨fun h6=>?_,fun h6=>?_⟩
   ·rw [if_pos h6] at hs
    refine C2.im (fun _=>hdp) (fun _=>rfl) (by rfl) ?_
    simp only [tZ,↓un_u,simprocAttr,tD,bne_iff_ne,bne_eq_false_iff_eq]
    refine ⟨fun h7=>?_,fun h7=>?_⟩
    ·rw [if_pos (by omega)] at hs
     rw [hE2 i2 (zu8 hs _ (by omega))]
     exact .oA [] []
    ·rw [if_neg (by omega)] at hs
     refine C1.im hdp (by rfl) (by rfl) ?_
     simp only [tZ,↓un_u,simprocAttr,hwj]
     refine ⟨(j + 1,(dep l.codes j:Int)),⟨by dsimp only;omega,hs⟩,by dsimp only;omega,?_⟩
     exact .oA [(4096,some 4096)] []
   ·rw [if_neg (by rw [h6];simp)] at hs
    refine ⟨(j + 1,v),⟨by dsimp only;omega,hs⟩,by dsimp only;omega,?_⟩
    exact .oA [(4096,some 4096)] []
  ·have hjl:j = l.codes.length:=by omega
   subst hjl
   rw [hE3 v i2 j2]
   exact .oA [] []
end Go.Proofs
namespace Go.Proofs
open Go Go.TL
theorem Jw (l:CodL) (hl:l.codes.length < 4611686018427387904):Spc Tryz.prog kW [cdlT l] [] (vI (zk l)) []:=by
 refine qd qz9 mixm (by simp) fun e _ hst=>qg ?_
 unfold Zm
 refine sW ?_
 refine C1.im (yn l hl) (by rfl) (by rfl) ?_
 simp only [tZ,↓un_u,simprocAttr,bne_iff_ne,bne_eq_false_iff_eq]
 refine ⟨fun h=>?_,fun h=>?_⟩
 ·rw [zk,if_pos h]
  exact .oA [] []
 obtain ⟨hp,h1,h2⟩:=zc h
 have hw:=Ki (i:=l.codes.length) h1 (by omega)
 have hd:=qr1 hp (l.codes.length - 1) (by omega)
 have hw2:=qj (i:=dep l.codes (l.codes.length - 1)) (by omega)
 simp only [tZ,↓un_u,simprocAttr,hw]
 refine C1.im (kF l (l.codes.length - 1) hp (by omega) (by omega)) (by rfl) (by rfl) ?_
 rw [zk,if_neg (by rw [h];simp)]
 simp only [tZ,↓un_u,simprocAttr,hw2]
 exact .oA [] []
theorem KL (l:CodL) (c:Int) (hl:l.codes.length < 4611686018427387904):Spc Tryz.prog wT [cdlT l,vI c] [] (vI (lvlC l c)) []:=by
 refine qd qG1 mixm (by simp) fun e _ hst=>qg ?_
 unfold Jg
 refine sW ?_
 refine C1.im (yn l hl) (by rfl) (by rfl) ?_
 simp only [tZ,↓un_u,simprocAttr,tD,bne_iff_ne,bne_eq_false_iff_eq]
 refine ⟨fun h=>?_,fun h=>?_⟩
 ·rw [lvlC,if_pos (by omega)]
  exact .oA [] []
 obtain ⟨hp,h1,h2⟩:=zc h.1.1
 obtain ⟨k,rfl⟩:=Int.eq_ofNat_of_zero_le (show 0≤c by omega)
 refine C1.im (kF l k hp (by omega) (by omega)) (by rfl) (by rfl) ?_
 rw [lvlC,if_neg (by omega),Int.toNat_natCast]
 refine sW ?_
 exact .oA [] []
end Go.Proofs
namespace Go.Proofs
open Go Go.TL
def atN (cs:List Cod) (lev:Int) (n:Nat):List Int:=List.map (fun i:Nat=>(i:Int)) ((List.range n).filter fun i=>(dep cs i:Int) == lev)
theorem zu9 (cs:List Cod) (lev:Int) (n:Nat):atN cs lev (n + 1) = atN cs lev n ++ (if (dep cs n:Int) = lev then [(n:Int)] else []):=by
 unfold atN
 rw [List.range_succ,List.filter_append,List.map_append]
 congr 1
 by_cases h:(dep cs n:Int) = lev <;> simp [h]
theorem zP5 (cs:List Cod) (lev:Int) (n:Nat):(atN cs lev n).length≤n:=by
 unfold atN
 rw [List.length_map]
 exact Nat.le_trans (List.length_filter_le _ _) (by simp)
theorem zA3 (l:CodL) (lev:Int) (hl:l.codes.length < 4611686018427387904):Spc Tryz.prog qm2 [cdlT l,vI lev] [] (vIs (atL l lev)) []:=by
 refine qd zk5 mixm (by simp) fun e _ hst=>qg ?_
 unfold qb8
 refine sW ?_
 refine C1.im (yn l hl) (by rfl) (by rfl) ?_
 simp only [tZ,↓un_u,simprocAttr,bne_iff_ne,bne_eq_false_iff_eq]
 refine ⟨fun h=>?_,fun h=>?_⟩
 ·rw [atL,if_pos h]
  exact .oA [] []
 obtain ⟨hp,h1,h2⟩:=zc h
 have e:atL l lev = atN l.codes lev l.codes.length:=by rw [atL,if_neg (by rw [h];simp)];rfl
 rw [e]
 refine qw mixm (α:=Nat) [5,6] (fun i=>i≤l.codes.length) (fun i=>[(5,.asl 1 (atN l.codes lev i).length),(6,vI i)]) (fun i=>[(4096,.arr 2 [cdlT l] false),(1,.arr 1 ((atN l.codes lev i).map vI) false)]) (fun i=>l.codes.length - i) 0 (by omega) ?_ fun i hi=>?_
 ·simp only [atN,List.range_zero,List.filter_nil,List.map_nil,List.length_nil]
  exact .oA [(4096,some 4096),(1,none)] []
 have hli:=zP5 l.codes lev i
 refine sD ?_
 refine ⟨fun h3=>?_,fun h3=>?_⟩
 ·have hi2:i < l.codes.length:=by omega
  have hwi:=qj (i:=i) (by omega)
  have hs:=zu9 l.codes lev i
  refine C1.im (kF l i hp hi2 (by omega)) (by rfl) (by rfl) ?_
  simp only [tZ,↓un_u,simprocAttr,beq_iff_eq,beq_eq_false_iff_ne,hwi]
  refine ⟨fun h4=>?_,fun h4=>?_⟩
  ·rw [if_pos h4] at hs
   refine ⟨by omega,i + 1,by omega,by omega,?_⟩
   rw [hs]
   exact .oA [(4096,some 4096),(1,some 1)] []
  ·rw [if_neg h4,List.append_nil] at hs
   refine ⟨i + 1,by omega,by omega,?_⟩
   rw [hs]
   exact .oA [(4096,some 4096),(1,some 1)] []
 ·have hil:i = l.codes.length:=by omega
  subst hil
  exact .oA [] [1]
end Go.Proofs
namespace Go.Proofs
open Go Go.TL
open So
theorem zY0 {cs:List Cod} (h:qt4 cs) (lev:Nat):∀ (c f g:Nat),c < cs.length→c < f→c < g→upF cs lev f c = upF cs lev g c:=by
 intro c
 induction c using Nat.strongRecOn with
 | _ c ih=>
   intro f g hc hf hg
   obtain ⟨f,rfl⟩:∃ k,f = k + 1:=⟨f - 1,by omega⟩
   obtain ⟨g,rfl⟩:∃ k,g = k + 1:=⟨g - 1,by omega⟩
   simp only [upF]
   have hp:=h c hc
   split
   ·rename_i h1
    have h0:¬ parC cs c < 0:=fun e=>by rw [qi6 e] at h1;omega
    rw [ih (parC cs c).toNat (by omega) f g (by omega) (by omega) (by omega)]
   ·rfl
theorem up_step {cs:List Cod} (h:qt4 cs) {lev c:Nat} (hc:c < cs.length) (hl:lev < dep cs c):0≤parC cs c∧parC cs c < c∧dep cs c = dep cs (parC cs c).toNat + 1∧upF cs lev (c + 1) c = upF cs lev ((parC cs c).toNat + 1) (parC cs c).toNat:=by
 have hp:=h c hc
 have h0:¬ parC cs c < 0:=fun e=>by rw [qi6 e] at hl;omega
 refine ⟨by omega,by omega,qo2 h hc (by omega),?_⟩
 rw [upF,if_pos hl]
 exact zY0 h lev _ _ _ (by omega) (by omega) (by omega)
theorem zv0 {cs:List Cod} {lev c:Nat} (hl:dep cs c≤lev) (f:Nat):upF cs lev f c = c:=by
 cases f with
 | zero=>rfl
 | succ f=>rw [upF,if_neg (by omega)]
theorem qI8 (l:CodL) (c:Int) (hp:qt4 l.codes) (hc:0≤c∧c < l.codes.length) (hl:l.codes.length≤1000):Spc Tryz.prog zl [cdlT l,vI c] [] (vI (dep l.codes c.toNat)) []:=by
 obtain ⟨k,rfl⟩:=Int.eq_ofNat_of_zero_le hc.1
 rw [Int.toNat_natCast]
 exact kF l k hp (by omega) hl
theorem qN3 (l:CodL) (c lev:Int) (hl:l.codes.length < 4611686018427387904):Spc Tryz.prog Yt [cdlT l,vI c,vI lev] [] (vI (upC l c lev)) []:=by
 have hdp:(lstE l != 0 || decide (c < 0) || decide ((l.codes.length:Int)≤c) || decide (lev < 0)) = false→Spc Tryz.prog zl [cdlT l,vI c] [] (vI (dep l.codes c.toNat)) []:=fun hg=>by
  simp only [tD,bne_eq_false_iff_eq] at hg
  obtain ⟨hp,_,h2⟩:=zc hg.1.1.1
  exact qI8 l c hp (by omega) (by omega)
 refine qd zk3 mixm (by simp) fun e _ hst=>qg ?_
 unfold qb5
 refine sW ?_
 refine C1.im (yn l hl) (by rfl) (by rfl) ?_
 refine sW ?_
 refine C2.im hdp (fun _=>rfl) (by rfl) ?_
 simp only [tZ,↓un_u,simprocAttr,tD,bne_iff_ne,bne_eq_false_iff_eq]
 refine ⟨fun h=>?_,fun h=>?_⟩
 ·rw [upC,if_pos (by omega)]
  exact .oA [] []
 obtain ⟨hp,h1,h2⟩:=zc h.1.1.1.1
 obtain ⟨k,rfl⟩:=Int.eq_ofNat_of_zero_le (show 0≤c by omega)
 obtain ⟨v,rfl⟩:=Int.eq_ofNat_of_zero_le (show 0≤lev by omega)
 rw [upC,if_neg (by omega),Int.toNat_natCast,Int.toNat_natCast]
 rw [Int.toNat_natCast] at h
 refine qw mixm (α:=Nat) [1,31] (fun x=>x < l.codes.length∧upF l.codes v (k + 1) k = upF l.codes v (x + 1) x) (fun x=>[(1,vI x)]) (fun x=>[(4096,.arr 2 [cdlT l] false)]) (fun x=>x) k ⟨by omega,rfl⟩ ?_ fun x hx=>?_
 ·exact .oA [(4096,some 4096)] []
 obtain ⟨x1,x2⟩:=hx
 have hcd:l.codes[x].par = parC l.codes x:=by rw [parC,cdAt,qk x1]
 refine sW ?_
 refine C1.im (kF l x hp x1 (by omega)) (by rfl) (by rfl) ?_
 refine sD ?_
 refine ⟨fun h3=>?_,fun h3=>?_⟩
 ·obtain ⟨u1,u2,u3,u4⟩:=up_step hp (lev:=v) x1 (by omega)
  obtain ⟨p,hpe⟩:=Int.eq_ofNat_of_zero_le u1
  simp only [tZ,↓un_u,simprocAttr,Int.toNat_natCast,qe x1,hcd,hpe]
  rw [hpe,Int.toNat_natCast] at u4
  refine ⟨by omega,p,⟨by omega,x2.trans u4⟩,by omega,?_⟩
  exact .oA [(4096,some 4096)] []
 ·rw [x2,zv0 (by omega)]
  exact .oA [] []
theorem qS4 (l:CodL) (c a:Int) (hl:l.codes.length < 4611686018427387904):Spc Tryz.prog Kp [cdlT l,vI c,vI a] [] (vB (Yb l c a)) []:=by
 refine qd qG3 mixm (by simp) fun e _ hst=>qg ?_
 unfold Jh
 refine sW ?_
 refine C1.im (KL l a hl) (by rfl) (by rfl) ?_
 refine sW ?_
 refine C2.im (fun _=>KL l c hl) (fun _=>rfl) (by rfl) ?_
 refine sW ?_
 refine C2.im (fun _=>qN3 l c (lvlC l a) hl) (fun _=>rfl) (by rfl) ?_
 refine sW ?_
 rw [show (decide (0≤lvlC l a) && decide (lvlC l a≤lvlC l c) && (upC l c (lvlC l a) == a)) = Yb l c a from rfl]
 exact .oA [] []
theorem qB1 (l:List Int) (n:Int) (hl:l.length < 4611686018427387904):Spc Tryz.prog Kq [vIs l,vI n] [] (vB (l.contains n)) []:=by
 refine qd zd3 mixm (by simp) fun e _ hst=>qg ?_
 unfold WM
 refine sW ?_
 refine qw mixm (α:=Nat) [5] (fun i=>i≤l.length∧((l.take i).any (fun x=>x == n) = false)) (fun i=>[(5,vI i)]) (fun i=>[]) (fun i=>l.length - i) 0 ⟨by omega,?_⟩ ?_ fun i hi=>?_
 ·rfl
 ·exact .oA [] []
 simp only [tZ,↓un_u,simprocAttr,decide_eq_true_eq,decide_eq_false_iff_not]
 refine ⟨fun h=>?_,fun h=>?_⟩
 ·have hi2:i < l.length:=by omega
  have hwi:=qj (i:=i) (by omega)
  simp only [tZ,↓un_u,simprocAttr,Int.toNat_natCast,qe hi2,hwi]
  refine ⟨by omega,fun h3=>?_,fun h3=>⟨i + 1,⟨by omega,zY hi2 hi.2 h3⟩,by omega,?_⟩⟩
  ·rw [show l.contains n = true from List.contains_iff_mem.2 ((beq_iff_eq.1 h3) ▸ List.getElem_mem hi2)]
   exact .oA [] []
  ·exact .oA [] []
 ·have hi2:i = l.length:=by omega
  subst hi2
  have h3:=hi.2
  rw [List.take_length] at h3
  have:l.contains n = false:=by
   rw [← h3,Bool.eq_iff_iff,List.contains_iff_mem,List.any_eq_true]
   exact ⟨fun h=>⟨n,h,by simp⟩,fun ⟨x,h,e⟩=>beq_iff_eq.1 e ▸ h⟩
  rw [this]
  exact .oA [] []
end Go.Proofs
namespace Go.Proofs
open Go Go.TL
theorem ZQ (s:ByteArray):Spc Tryz.prog wF [vS s] [] (vB (ko s)) []:=by
 refine qd qQ9 mixm (by simp) fun e _ hst=>qg ?_
 unfold Kz
 refine sW ?_
 refine ⟨fun h=>?_,fun h=>?_,fun h=>?_,fun h=>?_⟩
 ·simp at h
  omega
 ·simp at h
  omega
 ·have:ko s = false:=by unfold ko zl2;rw [h];rfl
  rw [this]
  exact .oA [] []
 have hd:zl2 s = false:=h
 have hs16:s.data.toList.length≤16:=by
  unfold zl2 at hd
  simp only [Bool.or_eq_false_iff,decide_eq_false_iff_not] at hd
  have:s.size = s.data.toList.length:=by rw [Array.length_toList];rfl
  omega
 refine qw mixm (α:=Nat) [26] (fun i=>i≤s.data.toList.length∧((s.data.toList.take i).any qB0 = false)) (fun i=>[(26,vI i)]) (fun i=>[]) (fun i=>s.data.toList.length - i) 0 ⟨by omega,?_⟩ ?_ fun i hi=>?_
 ·rfl
 ·exact .oA [] []
 refine sD ?_
 refine ⟨fun h5=>?_,fun h5=>?_⟩
 ·have hi2:i < s.data.toList.length:=by omega
  have hwi:=qj (i:=i) (by omega)
  simp only [tZ,↓un_u,simprocAttr,Int.toNat_natCast,qe hi2,hwi,yr]
  refine ⟨by omega,fun h6=>?_,fun h6=>?_⟩
  ·have hb:qB0 s.data.toList[i] = true:=h6
   have:ko s = false:=by
    unfold ko
    rw [show s.data.toList.any qB0 = true from List.any_eq_true.2 ⟨_,List.getElem_mem hi2,hb⟩]
    simp
   rw [this]
   exact .oA [] []
  ·have hb:qB0 s.data.toList[i] = false:=h6
   refine ⟨i + 1,⟨by omega,zY hi2 hi.2 hb⟩,by omega,?_⟩
   exact .oA [] []
 ·have h3:=hi.2
  have:i = s.data.toList.length:=by omega
  rw [this,List.take_length] at h3
  have hn:ko s = !(resW.contains s.toList):=by unfold ko;rw [hd,h3];rfl
  rw [hn]
  simp only [resW,List.contains_cons,List.contains_nil]
  repeat' (first | with_reducible apply And.intro | with_reducible intro _)
  all_goals first
   | (exfalso;simp_all;done)
   | (simp only [*,Bool.true_or,Bool.or_true,Bool.false_or,Bool.or_false,Bool.not_true,Bool.not_false];exact .imR rfl rfl)
end Go.Proofs
namespace Go.Proofs
open Go Go.TL
set_option maxHeartbeats 8000000
def depL (cs:List Cod):List Int:=(List.range cs.length).map fun i=>(dep cs i:Int)
def depO (cs:List Cod) (i:Nat):List Int:=((List.range i).map fun i=>(dep cs i:Int)) ++ List.replicate (cs.length - i) 0
theorem Yu (cs:List Cod):(depL cs).length = cs.length:=by simp [depL]
theorem zY1 {cs:List Cod} {i:Nat} (h:i≤cs.length):(depO cs i).length = cs.length:=by simp [depO];omega
theorem zP6 (cs:List Cod):depO cs 0 = List.replicate cs.length 0:=by simp [depO]
theorem zY2 (cs:List Cod):depO cs cs.length = depL cs:=by simp [depO,depL]
theorem zY3 {cs:List Cod} {i:Nat} (h:i < cs.length) (v:Int) (hv:v = dep cs i):(depO cs i).set i v = depO cs (i + 1):=by
 unfold depO
 rw [List.set_append_right _ _ (by simp),List.length_map,List.length_range,Nat.sub_self,show cs.length - i = (cs.length - (i + 1)) + 1 by omega,List.replicate_succ,List.set_cons_zero,List.range_succ,List.map_append,List.append_assoc,hv]
 rfl
theorem zP7 {cs:List Cod} {i:Nat} (h:i < cs.length) (h0:dep cs i = 0):depO cs i = depO cs (i + 1):=by
 unfold depO
 rw [show cs.length - i = (cs.length - (i + 1)) + 1 by omega,List.replicate_succ,List.range_succ,List.map_append,List.append_assoc,List.map_cons,h0]
 rfl
theorem jk2 {cs:List Cod} {i k:Nat} (h:k < i) (hi:i≤cs.length):(depO cs i).getD k 0 = dep cs k:=by
 unfold depO
 rw [List.getD_eq_getElem?_getD,List.getElem?_append_left (by simp;omega),List.getElem?_map,List.getElem?_range (by omega)]
 rfl
theorem jg2 (n:Nat):List.replicate n (T.v (Value.int IntKind.i64 0)) = (List.replicate n (0:Int)).map vI:=by simp
structure ParR (cs:List Cod):Prop where
 ok:qt4 cs
 kid:∀ i,0 < i→i < cs.length→0≤parC cs i
 root:parC cs 0 < 0∨cs.length = 0
 len:cs.length≤60
theorem kZ (l:CodL) (h:ParR l.codes):Spc Tryz.prog je [cdlT l] [] (vIs (depL l.codes)) []:=by
 have hl:=h.len
 refine qd qA9 mixm (by simp) fun e _ hst=>qg ?_
 unfold Zv
 refine sW ?_
 refine ⟨by omega,?_⟩
 refine qw mixm (α:=Nat) [13] (fun i=>i≤l.codes.length) (fun i=>[(13,vI i)]) (fun i=>[(4096,.arr 2 [cdlT l] false),(8204,.arr 1 ((depO l.codes i).map vI) false)]) (fun i=>l.codes.length - i) 0 (by omega) ?_ fun i hi=>?_
 ·rw [zP6]
  refine .of [(4096,some 4096),(8204,some 8204)] [] rfl (by first | rfl | (rw [hst];rfl)) ?_ ?_
  all_goals (try simp only [tL,simprocAttr,List.map_append,List.map_cons,List.map_nil,List.cons_append,List.nil_append,Int.toNat_natCast,jg2])
  all_goals (try (repeat' (first | exact qT | (apply zj;intro _;exact ⟨rfl,rfl⟩) | (apply qz;intro _;exact ⟨rfl,rfl⟩) | with_reducible apply qJ | with_reducible refine qM ⟨rfl,rfl⟩ ?_ | exact qW | with_reducible apply qE | with_reducible refine qK ⟨rfl,rfl,?_⟩ ?_ | with_reducible apply And.intro | exact qG rfl | exact qG (by assumption) | (refine ⟨⟨?_,rfl,?_,rfl,?_⟩,trivial⟩ <;> first | (simp;done) | (apply qz;intro _;exact ⟨rfl,rfl⟩)) | trivial | rfl | (rw [qj (by omega)]) | omega)))
 have hol:=zY1 (cs:=l.codes) hi
 refine sD ?_
 refine ⟨fun h2=>?_,fun h2=>?_⟩
 ·have hi2:i < l.codes.length:=by omega
  have hwi:=qj (i:=i) (by omega)
  have hp:=h.ok i hi2
  have hat:cdAt l.codes i = l.codes[i]:=by rw [cdAt,qk hi2]
  have hpar:l.codes[i].par = parC l.codes i:=by rw [parC,hat]
  simp only [tZ,↓un_u,simprocAttr,Int.toNat_natCast,qe hi2,hpar,gt_iff_lt,tD]
  refine ⟨by omega,fun h4=>?_,fun h4=>?_⟩
  ·have hk:=h.kid i (by omega) hi2
   have hdk:=qo2 h.ok hi2 hk
   obtain ⟨q,hq⟩:=Int.eq_ofNat_of_zero_le hk
   have hqi:q < i:=by omega
   have hq3:q < (depO l.codes i).length:=by omega
   have hq4:(depO l.codes i)[q] = dep l.codes q:=by
    have:=jk2 (cs:=l.codes) hqi hi
    rw [qk hq3] at this
    exact this
   have hdl:=qr1 h.ok q (by omega)
   have hwd:=qj (i:=dep l.codes q) (by omega)
   rw [hq,Int.toNat_natCast] at hdk
   have hi3:i < (depO l.codes i).length:=by omega
   have hset:=zY3 hi2 ((dep l.codes q + 1:Nat):Int) (by rw [hdk])
   simp only [tZ,↓un_u,simprocAttr,hq,Int.toNat_natCast,qe hq3,qe hi3,hq4,hwd,hwi,show ∀ a b:Int,repl (vI a) 0 (vI b) = vI b from fun _ _=>rfl]
   refine ⟨by omega,by omega,by omega,by omega,i + 1,by omega,by omega,?_⟩
   rw [← List.map_set,hset]
   exact .oA [(4096,some 4096),(8204,some 8204)] []
  ·have hz:i = 0:=by omega
   subst hz
   have hr:=h.root.resolve_right (by omega)
   have hn:=zP7 hi2 (qi6 hr)
   simp only [tZ,↓un_u,simprocAttr,hwi]
   refine ⟨1,by omega,by omega,?_⟩
   rw [← hn]
   exact .oA [(4096,some 4096),(8204,some 8204)] []
 ·have hil:i = l.codes.length:=by omega
  subst hil
  rw [zY2,Int.toNat_natCast]
  have hdl:=Yu l.codes
  exact .oA [] [8204]
def aboL (cs:List Cod) (i:Nat):List Bool:=(List.range cs.length).map fun (k:Nat)=>(cs.take i).any fun x=>x.par == (k:Int)
theorem KM (cs:List Cod) (i:Nat):(aboL cs i).length = cs.length:=by simp [aboL]
theorem zP8 (cs:List Cod):aboL cs 0 = List.replicate cs.length false:=by
 rw [List.eq_replicate_iff]
 refine ⟨KM cs 0,fun b hb=>?_⟩
 obtain ⟨k,_,rfl⟩:=List.mem_map.1 hb
 simp
theorem qi8 {cs:List Cod} {i k:Nat} (h:k < (aboL cs i).length):(aboL cs i)[k] = (cs.take i).any fun x=>x.par == (k:Int):=by simp [aboL]
theorem zP9 {cs:List Cod} {i:Nat} (h:i < cs.length) (hp:cs[i].par < 0):aboL cs (i + 1) = aboL cs i:=by
 refine List.ext_getElem (by rw [KM,KM]) fun k h1 h2=>?_
 have h3:(cs[i].par == (k:Int)) = false:=beq_eq_false_iff_ne.2 (by omega)
 rw [qi8,qi8,qR h,List.any_append,List.any_cons,List.any_nil,h3]
 simp
theorem zY4 {cs:List Cod} {i p:Nat} (h:i < cs.length) (hp:cs[i].par = p):(aboL cs i).set p true = aboL cs (i + 1):=by
 refine List.ext_getElem (by rw [List.length_set,KM,KM]) fun k h1 h2=>?_
 rw [List.getElem_set,qi8,qi8,qR h,List.any_append,List.any_cons,List.any_nil,hp]
 by_cases e:p = k
 ·subst e;simp
 ·have:((p:Int) == (k:Int)) = false:=beq_eq_false_iff_ne.2 (by omega)
  rw [if_neg e,this]
  simp
theorem zY5 {cs:List Cod} {k:Nat} (h:k < (aboL cs cs.length).length):(aboL cs cs.length)[k] = !qc7 cs k:=by
 rw [qi8,List.take_length,qc7,Bool.not_not]
theorem jq1 (n:Nat):List.replicate n (T.v (Value.bool false)) = (List.replicate n false).map vB:=by simp
def zl3 (cs:List Cod):List (ByteArray×Bool):=cs.map fun c=>(c.name,true)
theorem zd8 {nm:ByteArray}:∀ {cs:List Cod},(TL.look TL.eqS nm (zl3 cs)).getD false = cs.any fun x=>eqB x.name nm
 | []=>rfl
 | c :: cs=>by
   have h:TL.eqS nm c.name = eqB c.name nm:=by
    rw [Bool.eq_iff_iff,TL.eqS,eqB,beq_iff_eq,beq_iff_eq]
    exact ⟨fun h=>h.symm,fun h=>h.symm⟩
   simp only [zl3,List.map_cons,TL.look,List.any_cons,h]
   cases eqB c.name nm with
   | true=>rfl
   | false=>rw [if_neg (by simp),Bool.false_or];exact zd8
theorem zv1 {c:Cod}:∀ {cs:List Cod},(cs.any fun x=>eqB x.name c.name) = false→TL.asg TL.eqS c.name true (zl3 cs) = zl3 (cs ++ [c])
 | [],_=>rfl
 | x :: cs,h=>by
   rw [List.any_cons,Bool.or_eq_false_iff] at h
   have h1:TL.eqS c.name x.name = eqB x.name c.name:=by
    rw [Bool.eq_iff_iff,TL.eqS,eqB,beq_iff_eq,beq_iff_eq]
    exact ⟨fun h=>h.symm,fun h=>h.symm⟩
   simp only [zl3,List.map_cons,TL.asg,h1,h.1,List.cons_append]
   rw [if_neg (by simp)]
   congr 1
   exact zv1 h.2
theorem jq2 {cs:List Cod} (h:cdEs cs cs.length = 0) (hl:cs.length≤60):ParR cs:=by
 refine ⟨jg1 h,fun i h0 hi=>(qS3 (qi7 h i hi)).2.2.2 h0,?_,hl⟩
 rcases Nat.eq_zero_or_pos cs.length with h0 | h0
 ·exact .inr h0
 ·have:=(qS3 (qi7 h 0 h0)).2.2.1 rfl
  exact .inl (by omega)
theorem qi9 {l:CodL} (h:lstE l = 0):ParR l.codes:=by
 obtain ⟨_,_,h3⟩:=zc h
 refine jq2 ?_ h3
 unfold lstE at h
 split at h
 ·cases h
 ·split at h
  ·cases h
  ·split at h
   ·cases h
   ·split at h
    ·rename_i h2;exact absurd h h2
    ·rename_i h4;exact Classical.byContradiction h4
theorem QN (l:CodL):Spc Tryz.prog kB [cdlT l] [] (vI (lstE l)) []:=by
 refine qd qH5 mixm (by simp) fun e _ hst=>qg ?_
 unfold Jn
 refine sW ?_
 refine C1.im (ZQ l.name) (by rfl) (by rfl) ?_
 simp only [tZ,↓un_u,simprocAttr,Bool.not_eq_true',Bool.not_eq_false']
 refine ⟨fun h=>?_,fun h1=>?_⟩
 ·rw [lstE,if_pos h]
  exact .oA [] []
 simp only [tZ,↓un_u,simprocAttr,beq_iff_eq,beq_eq_false_iff_ne]
 refine ⟨fun h=>?_,fun h2=>?_⟩
 ·rw [lstE,if_neg (by rw [h1];simp),if_pos (by omega)]
  exact .oA [] []
 refine sD ?_
 refine ⟨fun h=>?_,fun h3=>?_⟩
 ·rw [lstE,if_neg (by rw [h1];simp),if_neg (by omega),if_pos (by omega)]
  exact .oA [] []
 have hE1:cdEs l.codes l.codes.length≠0→lstE l = cdEs l.codes l.codes.length:=fun h=>by
  rw [lstE,if_neg (by rw [h1];simp),if_neg (by omega),if_neg (by omega),if_pos h]
 have hE2:cdEs l.codes l.codes.length = 0→lvs l.codes l.codes.length = none→lstE l = 5:=fun h k=>by
  rw [lstE,if_neg (by rw [h1];simp),if_neg (by omega),if_neg (by omega),if_neg (by rw [h];simp),k]
 have hE3:∀ v,cdEs l.codes l.codes.length = 0→lvs l.codes l.codes.length = some v→lstE l = 0:=fun v h k=>by
  rw [lstE,if_neg (by rw [h1];simp),if_neg (by omega),if_neg (by omega),if_neg (by rw [h];simp),k]
 refine ⟨by omega,by kernel_rfl,?_⟩
 refine qw mixm (α:=Nat) [33] (fun i=>i≤l.codes.length∧cdEs l.codes i = 0) (fun i=>[(33,vI i)]) (fun i=>[(4096,.arr 2 [cdlT l] false),(32768,.mp (.sb (zl3 (l.codes.take i)))),(32784,.arr 1 ((aboL l.codes i).map vB) false)]) (fun i=>l.codes.length - i) 0 ⟨by omega,rfl⟩ ?_ fun i hi=>?_
 ·simp only [List.take_zero,zl3,List.map_nil,zP8]
  refine .of [(4096,some 4096),(32768,some 32768),(32784,some 32784)] [] rfl (by first | rfl | (rw [hst];rfl)) ?_ ?_
  all_goals (try simp only [tL,simprocAttr,List.map_append,List.map_cons,List.map_nil,List.cons_append,List.nil_append,Int.toNat_natCast,jq1])
  all_goals (try (repeat' (first | exact qT | (apply zj;intro _;exact ⟨rfl,rfl⟩) | (apply qz;intro _;exact ⟨rfl,rfl⟩) | with_reducible apply qJ | with_reducible refine qM ⟨rfl,rfl⟩ ?_ | exact qW | with_reducible apply qE | with_reducible refine qK ⟨rfl,rfl,?_⟩ ?_ | with_reducible apply And.intro | exact qG rfl | exact qG (by assumption) | (refine ⟨⟨?_,rfl,?_,rfl,?_⟩,trivial⟩ <;> first | (simp;done) | (apply qz;intro _;exact ⟨rfl,rfl⟩)) | trivial | rfl | (rw [qj (by omega)]) | omega)))
 obtain ⟨i1,i2⟩:=hi
 have hbl:=KM l.codes i
 refine sD ?_
 refine ⟨fun h4=>?_,fun h4=>?_⟩
 ·have hi2:i < l.codes.length:=by omega
  have hwi:=qj (i:=i) (by omega)
  have hat:cdAt l.codes i = l.codes[i]:=by rw [cdAt,qk hi2]
  have hs:cdEs l.codes (i + 1) = cdE l.codes i:=by rw [cdEs,if_neg (by rw [i2];simp)]
  have hbad:cdE l.codes i≠0→lstE l = cdE l.codes i:=fun hb=>by
   have:=qN2 (by rw [hs];exact hb) l.codes.length (show i + 1≤l.codes.length by omega)
   rw [hE1 (by rw [this,hs];exact hb),this,hs]
  simp only [tZ,↓un_u,simprocAttr,Int.toNat_natCast,qe hi2]
  refine ⟨by omega,?_⟩
  refine C1.im (ZQ l.codes[i].name) (by rfl) (by rfl) ?_
  simp only [tZ,↓un_u,simprocAttr,Bool.not_eq_true',Bool.not_eq_false',zd8]
  refine ⟨fun h5=>?_,fun h5=>?_⟩
  ·have hc:cdE l.codes i = 3:=by rw [cdE,hat,if_pos h5]
   rw [hbad (by rw [hc];decide),hc]
   exact .oA [] []
  refine ⟨fun h6=>?_,fun h6=>?_⟩
  ·have hc:cdE l.codes i = 10:=by rw [cdE,hat,if_neg (by rw [h5];simp),if_pos h6]
   rw [hbad (by rw [hc];decide),hc]
   exact .oA [] []
  have hpar:l.codes[i].par = parC l.codes i:=by rw [parC,hat]
  have hcE:cdE l.codes i = if (i = 0∧parC l.codes i≠-1)∨(0 < i∧(parC l.codes i < 0∨parC l.codes i≥i)) then 6 else 0:=by
   rw [cdE,hat,if_neg (by rw [h5];simp),if_neg (by rw [h6];simp)]
  have hasg:=zv1 (c:=l.codes[i]) (cs:=l.codes.take i) h6
  rw [← qR hi2] at hasg
  simp only [tZ,↓un_u,simprocAttr,hasg,hpar,tD,beq_iff_eq,beq_eq_false_iff_ne,bne_iff_ne,bne_eq_false_iff_eq]
  refine ⟨fun h7=>?_,fun h7=>?_⟩
  ·have hc:cdE l.codes i = 6:=by rw [hcE,if_pos (by omega)]
   rw [hbad (by rw [hc];decide),hc]
   exact .oA [] []
  have hc0:cdEs l.codes (i + 1) = 0:=by rw [hs,hcE,if_neg (by omega)]
  refine ⟨fun h8=>?_,fun h8=>?_⟩
  ·obtain ⟨q,hq⟩:=Int.eq_ofNat_of_zero_le (show 0≤parC l.codes i by omega)
   have hq3:q < (aboL l.codes i).length:=by omega
   have hset:=zY4 (p:=q) hi2 (by rw [hpar,hq])
   simp only [hq,Int.toNat_natCast,qe hq3,show ∀ a b:Bool,repl (vB a) 0 (vB b) = vB b from fun _ _=>rfl,hwi]
   refine ⟨⟨by omega,by omega,by omega⟩,⟨by omega,by omega,rfl⟩,i + 1,⟨by omega,hc0⟩,by omega,?_⟩
   rw [← List.map_set,hset]
   exact .oA [(4096,some 4096),(32768,some 32768),(32784,some 32784)] []
  ·have hsk:=zP9 hi2 (by omega)
   simp only [hwi]
   refine ⟨i + 1,⟨by omega,hc0⟩,by omega,?_⟩
   rw [hsk]
   exact .oA [(4096,some 4096),(32768,some 32768),(32784,some 32784)] []
 ·have hil:i = l.codes.length:=by omega
  subst hil
  have hP:=jq2 i2 (by omega)
  have hdl:=Yu l.codes
  refine C1.im (kZ l hP) (by rfl) (by rfl) ?_
  refine sW ?_
  have hbl:=KM l.codes l.codes.length
  refine qw mixm (α:=Nat×Int) [7,84] (fun x=>x.1≤l.codes.length∧lvs l.codes x.1 = some x.2) (fun x=>[(7,vI x.2),(84,vI x.1)]) (fun x=>[(32784,.arr 1 ((aboL l.codes l.codes.length).map vB) false)]) (fun x=>l.codes.length - x.1) (0,-1) ⟨by simp,rfl⟩ ?_ fun x hx=>?_
  ·rw [Int.toNat_natCast]
   exact .oA [(32784,some 32784)] []
  obtain ⟨j,v⟩:=x
  obtain ⟨j1,j2⟩:=hx
  dsimp only at j1 j2
  refine sD ?_
  refine ⟨fun h5=>?_,fun h5=>?_⟩
  ·have hj2:j < l.codes.length:=by omega
   have hwj:=qj (i:=j) (by omega)
   have hs:=qu7 l.codes j
   rw [j2,lvS] at hs
   have hj3:j < (depL l.codes).length:=by omega
   have hj4:j < (aboL l.codes l.codes.length).length:=by omega
   have hd1:(depL l.codes)[j] = dep l.codes j:=by simp [depL]
   have ha1:=zY5 hj4
   simp only [tZ,↓un_u,simprocAttr,Int.toNat_natCast,qe hj3,qe hj4,hd1,ha1,hwj,Bool.not_eq_true',Bool.not_eq_false',tD,bne_iff_ne,bne_eq_false_iff_eq]
   refine ⟨by omega,by omega,by omega,fun h6=>?_,fun h6=>?_⟩
   ·rw [if_neg (by rw [h6];simp)] at hs
    refine ⟨(j + 1,v),⟨by dsimp only;omega,hs⟩,by dsimp only;omega,?_⟩
    exact .oA [(32784,some 32784)] []
   ·rw [if_pos h6] at hs
    refine ⟨fun h7=>?_,fun h7=>?_⟩
    ·rw [if_pos (by omega)] at hs
     rw [hE2 i2 (zu8 hs _ (by omega))]
     exact .oA [] []
    ·rw [if_neg (by omega)] at hs
     refine ⟨(j + 1,(dep l.codes j:Int)),⟨by dsimp only;omega,hs⟩,by dsimp only;omega,?_⟩
     exact .oA [(32784,some 32784)] []
  ·have hjl:j = l.codes.length:=by omega
   subst hjl
   rw [hE3 v i2 j2]
   exact .oA [] []
end Go.Proofs
namespace Go.Proofs
open Go Go.TL
def inB (n lo hi:Int):Bool:=decide (lo≤n) && decide (n≤hi)
def wdOk (ws:List Int) (i:Nat):Bool:=if i = 0 then ws.getD 0 0 == 1 else decide (ws.getD (i - 1) 0 < ws.getD i 0) && decide (ws.getD i 0≤1000000) && ((ws.getD i 0).tmod (ws.getD (i - 1) 0) == 0)
def zY6 (ws:List Int):Bool:=(List.range ws.length).all (wdOk ws)
def measE (c:Col):Int:=
 if inB c.low (-1000000) 1000000 = false∨inB c.high (-1000000) 1000000 = false∨c.low > c.high then 2
 else if c.widths.length < 1∨c.widths.length > 4 then 1 else if zY6 c.widths = false then 2 else 0
abbrev qh (s:Sch) (i:Nat):Col:=s.cols.getD i default
def colE (s:Sch) (i:Nat):Int:=
 if ko (qh s i).name = false then 3
 else if ((s.cols.take i).any fun x=>eqB x.name (qh s i).name) = true then 10
 else if inB (qh s i).kind 1 3 = false∨(0 < i∧(qh s i).kind = 1) then 4
 else if (qh s i).kind = 2∧inB (qh s i).list 0 (s.lists.length - 1) = false then 5
 else if (qh s i).kind = 3∧measE (qh s i)≠0 then measE (qh s i)
 else if ((qh s i).kind≠2∧(qh s i).list≠0)∨((qh s i).kind≠3∧((qh s i).low≠0∨(qh s i).high≠0∨0 < (qh s i).widths.length∨(qh s i).opt = true)) then 11 else 0
def wH (s:Sch):Nat→Int
 | 0=>0
 | n + 1=>if wH s n≠0 then wH s n else if lstE (s.lists.getD n default)≠0 then lstE (s.lists.getD n default)
   else if ((s.lists.take n).any fun x=>eqB x.name (s.lists.getD n default).name) = true then 10 else 0
def JT (s:Sch):Nat→Int
 | 0=>0
 | n + 1=>if JT s n≠0 then JT s n else colE s n
def schE (s:Sch):Int:=
 if s.lists.length > 6∨s.cols.length > 8 then 1 else if wH s s.lists.length≠0 then wH s s.lists.length
 else if s.cols.length = 0∨(qh s 0).kind≠1 then 7 else JT s s.cols.length
abbrev qH (s:Sch) (i:Nat):CodL:=s.lists.getD (qh s i).list.toNat default
def kT:Int:=-1099511627776
def zN (s:Sch) (i:Nat) (v:Int):Bool:=
 if (qh s i).kind = 1 then inB v 1 1048575
 else if (qh s i).kind = 2 then inB v 0 ((qH s i).codes.length - 1) && (lvlC (qH s i) v == zk (qH s i) - 1)
 else ((qh s i).opt && (v == kT)) || inB v (qh s i).low (qh s i).high
def rowE (s:Sch) (row:List Int):Int:=
 if schE s≠0 then schE s else if row.length≠s.cols.length then 9
 else if ((List.range row.length).all fun i=>zN s i (row.getD i 0)) = false then 9 else 0
def finI (s:Sch) (c:Int):Int:=
 if schE s≠0∨c < 1∨c≥s.cols.length then -1
 else if (qh s c.toNat).kind = 2 then zk (qH s c.toNat) - 1 else (qh s c.toNat).widths.length
def qA (a b:Int):Int:=a.fdiv b
def qQ (s:Sch) (c:Nat):List Int:=atL (qH s c) (zk (qH s c) - 1)
def qS (c:Col) (lev:Int):Int:=c.widths.getD (c.widths.length - lev).toNat 0
def qO (s:Sch) (c lev v:Int):Int:=
 if inB lev 0 (finI s c) = false then -1
 else if (qh s c.toNat).kind = 2 then (if zN s c.toNat v = false then -1 else upC (qH s c.toNat) v lev)
 else if v≠kT∧inB v (-1000000) 1000000 = false then -1
 else if lev = 0 then 0 else if v = kT then v else qA v (qS (qh s c.toNat) lev) * qS (qh s c.toNat) lev
def eqPk (x y:Pk):Bool:=(x.col == y.col) && (x.lev == y.lev)
def qB2 (a b:List Pk):Bool:=qa5 eqPk a b
end Go.Proofs
