/- A part of the proof: trees of Go values, short forms, contracts. -/
import Derived.WalkKit
import Derived.Still
import Derived.MapKept
import GoSem.Builtin.Cap
import Derived.Laws.Externs
import GoSem.Extern.SlicesOverlaps
import Derived.Carry
import Derived.ProofKit
import Derived.OpenShut
import Derived.HandedShaped
import Derived.Lay
import Derived.LaidLaws
import Derived.MakeChecks
import Derived.SevenTiedAt
import Derived.Test.YtpmgddadeedmbaaGreatChecked
import Derived.Test.YtpmgddadeedmbaaGreatK14
set_option linter.unusedSimpArgs false
set_option linter.unusedVariables false
namespace Go.Proofs
open Go Go.TL
theorem mixm:Tryz.prog.follows .mixedOrders = true:=by kernel_rfl
end Go.Proofs
namespace Go.Proofs
open Go Go.TL
end Go.Proofs
namespace Go.Proofs
open Go Go.TL
structure Cod where
 name:ByteArray
 par:Int
structure CodL where
 name:ByteArray
 codes:List Cod
structure Col where
 name:ByteArray
 kind:Int
 list:Int
 low:Int
 high:Int
 widths:List Int
 opt:Bool
structure Sch where
 lists:List CodL
 cols:List Col
structure Pk where
 col:Int
 lev:Int
inductive Cnd where
 | mk (op col code lo hi:Int) (kids:List Cnd)
structure Qst where
 name:ByteArray
 kind:Int
 filt:Cnd
 dims:List Pk
 meas:Int
 terms:List Int
 event:Cnd
structure Smp where
 part:Int
 of:Int
 seed:Int
structure Dcl where
 proj:ByteArray
 src:ByteArray
 coh:Cnd
 smp:Smp
 qs:List Qst
structure Src where
 sch:Sch
 rows:List (List Int)
 gone:List Int
 ver:Int
structure Edt where
 kind:Int
 row:List Int
 id:Int
structure Ext where
 proj:ByteArray
 ver:Int
 picks:List Pk
 rows:List (List Int)
structure Chg where
 ver:Int
 gone:List Int
 rows:List (List Int)
namespace Cnd
def op:Cnd→Int | .mk a _ _ _ _ _=>a
def col:Cnd→Int | .mk _ a _ _ _ _=>a
def code:Cnd→Int | .mk _ _ a _ _ _=>a
def lo:Cnd→Int | .mk _ _ _ a _ _=>a
def hi:Cnd→Int | .mk _ _ _ _ a _=>a
def kids:Cnd→List Cnd | .mk _ _ _ _ _ a=>a
end Cnd
abbrev cnd0:Cnd:=.mk 0 0 0 0 0 []
instance:Inhabited Cod:=⟨⟨⟨#[]⟩,0⟩⟩
instance:Inhabited CodL:=⟨⟨⟨#[]⟩,[]⟩⟩
instance:Inhabited Col:=⟨⟨⟨#[]⟩,0,0,0,0,[],false⟩⟩
instance:Inhabited Sch:=⟨⟨[],[]⟩⟩
instance:Inhabited Pk:=⟨⟨0,0⟩⟩
instance:Inhabited Cnd:=⟨cnd0⟩
instance:Inhabited Qst:=⟨⟨⟨#[]⟩,0,cnd0,[],0,[],cnd0⟩⟩
instance:Inhabited Edt:=⟨⟨0,[],0⟩⟩
abbrev codT (c:Cod):T:=.agg [vS c.name,vI c.par]
abbrev cdlT (l:CodL):T:=.agg [vS l.name,.sl 2 (l.codes.map codT)]
abbrev colT (c:Col):T:=.agg [vS c.name,vI c.kind,vI c.list,vI c.low,vI c.high,vIs c.widths,vB c.opt]
abbrev schT (s:Sch):T:=.agg [.sl 2 (s.lists.map cdlT),.sl 7 (s.cols.map colT)]
abbrev pkT (p:Pk):T:=.agg [vI p.col,vI p.lev]
abbrev vPs (l:List Pk):T:=.sl 2 (l.map pkT)
mutual
def cndT:Cnd→T
 | .mk op col code lo hi kids=>.agg [vI op,vI col,vI code,vI lo,vI hi,.sl 6 (zq0 kids)]
def zq0:List Cnd→List T
 | []=>[]
 | c :: r=>cndT c :: zq0 r
end
theorem qG8:∀ l:List Cnd,zq0 l = l.map cndT
 | []=>by simp [zq0]
 | c :: r=>by simp [zq0,qG8 r]
theorem wU (c:Cnd):cndT c = .agg [vI c.op,vI c.col,vI c.code,vI c.lo,vI c.hi,.sl 6 (c.kids.map cndT)]:=by
 cases c
 simp only [cndT,qG8,Cnd.op,Cnd.col,Cnd.code,Cnd.lo,Cnd.hi,Cnd.kids]
abbrev vCs (l:List Cnd):T:=.sl 6 (l.map cndT)
abbrev qstT (q:Qst):T:=.agg [vS q.name,vI q.kind,vI q.filt.op,vI q.filt.col,vI q.filt.code,vI q.filt.lo,vI q.filt.hi,vCs q.filt.kids,vPs q.dims,vI q.meas,vIs q.terms,vI q.event.op,vI q.event.col,vI q.event.code,vI q.event.lo,vI q.event.hi,vCs q.event.kids]
abbrev dclT (d:Dcl):T:=.agg [vS d.proj,vS d.src,vI d.coh.op,vI d.coh.col,vI d.coh.code,vI d.coh.lo,vI d.coh.hi,vCs d.coh.kids,vI d.smp.part,vI d.smp.of,vI d.smp.seed,.sl 17 (d.qs.map qstT)]
end Go.Proofs
namespace Go.Proofs
open Go Go.TL
def zq1 (c:UInt8):Bool:=(decide ((c.toNat:Int) < 97) || decide ((c.toNat:Int) > 122)) && (decide ((c.toNat:Int) < 48) || decide ((c.toNat:Int) > 57)) && !((c.toNat:Int) == 95)
def zz4 (s:ByteArray):Bool:=decide ((s.size:Int) < 1) || decide ((s.size:Int) > 16) || decide (((s.data.toList.getD 0 0).toNat:Int) < 97) || decide (((s.data.toList.getD 0 0).toNat:Int) > 122)
def resW:List (List UInt8):=[[97,108,108],[97,110,100],[101,118,101,110,116],[102,114,111,109],[109,105,115,115,105,110,103],[110,111,116],[111,110],[111,114],[116,111],[117,110,100,101,114],[119,104,101,114,101]]
def ye (s:ByteArray):Bool:=!zz4 s && !(s.data.toList.any zq1) && !(resW.contains s.toList)
end Go.Proofs
namespace Go.Proofs
open Go Go.TL
abbrev cdAt (cs:List Cod) (i:Nat):Cod:=cs.getD i default
def parC (cs:List Cod) (i:Nat):Int:=(cdAt cs i).par
def depF (cs:List Cod):Nat→Nat→Nat
 | 0,_=>0
 | f + 1,c=>if parC cs c < 0 then 0 else depF cs f (parC cs c).toNat + 1
def dep (cs:List Cod) (c:Nat):Nat:=depF cs (c + 1) c
def qp4 (cs:List Cod):Prop:=∀ i,i < cs.length→-1≤parC cs i∧parC cs i < i
theorem zq2 {cs:List Cod} (h:qp4 cs):∀ (c f g:Nat),c < cs.length→c < f→c < g→depF cs f c = depF cs g c:=by
 intro c
 induction c using Nat.strongRecOn with
 | _ c ih=>
   intro f g hc hf hg
   obtain ⟨f,rfl⟩:∃ k,f = k + 1:=⟨f - 1,by omega⟩
   obtain ⟨g,rfl⟩:∃ k,g = k + 1:=⟨g - 1,by omega⟩
   simp only [depF]
   have hp:=h c hc
   split
   ·rfl
   ·rw [ih (parC cs c).toNat (by omega) f g (by omega) (by omega) (by omega)]
theorem qf9 {cs:List Cod} {c:Nat} (h:parC cs c < 0):dep cs c = 0:=by simp [dep,depF,h]
theorem ql3 {cs:List Cod} (h:qp4 cs) {c:Nat} (hc:c < cs.length) (h0:0≤parC cs c):dep cs c = dep cs (parC cs c).toNat + 1:=by
 have hp:=h c hc
 unfold dep
 rw [depF,if_neg (by omega),zq2 h _ c ((parC cs c).toNat + 1) (by omega) (by omega) (by omega)]
theorem ql4 {cs:List Cod} (h:qp4 cs):∀ c,c < cs.length→dep cs c≤c:=by
 intro c
 induction c using Nat.strongRecOn with
 | _ c ih=>
   intro hc
   by_cases h0:parC cs c < 0
   ·rw [qf9 h0];omega
   ·have hp:=h c hc
    have:=ih (parC cs c).toNat (by omega) (by omega)
    rw [ql3 h hc (by omega)]
    omega
def Yh (cs:List Cod) (c:Nat):Bool:=!(cs.any fun x=>x.par == (c:Int))
def eqB (a b:ByteArray):Bool:=a.toList == b.toList
def cdE (cs:List Cod) (i:Nat):Int:=
 if ye (cdAt cs i).name = false then 3
 else if ((cs.take i).any fun x=>eqB x.name (cdAt cs i).name) = true then 10
 else if (i = 0∧parC cs i≠-1)∨(0 < i∧(parC cs i < 0∨parC cs i≥i)) then 6 else 0
def cdEs (cs:List Cod):Nat→Int
 | 0=>0
 | n + 1=>if cdEs cs n≠0 then cdEs cs n else cdE cs n
def lvS (cs:List Cod) (o:Option Int) (i:Nat):Option Int:=match o with
 | none=>none
 | some v=>if Yh cs i = true then (if v≥0∧(dep cs i:Int)≠v then none else some (dep cs i)) else some v
def lvs (cs:List Cod) (n:Nat):Option Int:=(List.range n).foldl (lvS cs) (some (-1))
def lstE (l:CodL):Int:=
 if ye l.name = false then 3 else if l.codes.length = 0 then 5 else if l.codes.length > 60 then 1
 else if cdEs l.codes l.codes.length≠0 then cdEs l.codes l.codes.length else match lvs l.codes l.codes.length with | none=>5 | some _=>0
theorem za6 {cs:List Cod} {i:Nat} (h:cdEs cs i≠0):∀ n,i≤n→cdEs cs n = cdEs cs i:=by
 intro n hn
 induction n with
 | zero=>have:i = 0:=by omega
         rw [this]
 | succ n ih=>
   by_cases e:i = n + 1
   ·rw [e]
   ·have:=ih (by omega)
    rw [cdEs,this,if_pos h]
theorem Yi {cs:List Cod}:∀ {n:Nat},cdEs cs n = 0→∀ i,i < n→cdE cs i = 0
 | 0,_,i,h=>by omega
 | n + 1,h,i,hi=>by
   rw [cdEs] at h
   split at h
   ·rename_i h2;exact absurd h h2
   ·rename_i h2
    by_cases e:i = n
    ·rw [e];exact h
    ·exact Yi (Classical.byContradiction h2) i (by omega)
theorem qw5 {cs:List Cod} {i:Nat} (h:cdE cs i = 0) : -1≤parC cs i∧parC cs i < i∧(i = 0→parC cs i = -1)∧(0 < i→0≤parC cs i):=by
 unfold cdE at h
 split at h
 ·cases h
 ·split at h
  ·cases h
  ·split at h
   ·cases h
   ·rename_i h1
    omega
theorem zU {l:CodL} (h:lstE l = 0):qp4 l.codes∧0 < l.codes.length∧l.codes.length≤60:=by
 unfold lstE at h
 split at h
 ·cases h
 ·split at h
  ·cases h
  ·split at h
   ·cases h
   ·split at h
    ·rename_i h2;exact absurd h h2
    ·rename_i h1 h2 h3 h4
     refine ⟨fun i hi=>?_,by omega,by omega⟩
     have:=qw5 (Yi (Classical.byContradiction h4) i hi)
     exact ⟨this.1,this.2.1⟩
def zj (l:CodL):Int:=if lstE l≠0 then -1 else (dep l.codes (l.codes.length - 1):Int) + 1
def lvlC (l:CodL) (c:Int):Int:=if lstE l≠0∨c < 0∨c≥l.codes.length then -1 else dep l.codes c.toNat
def upF (cs:List Cod) (lev:Nat):Nat→Nat→Nat
 | 0,c=>c
 | f + 1,c=>if lev < dep cs c then upF cs lev f (parC cs c).toNat else c
def upC (l:CodL) (c lev:Int):Int:=if lstE l≠0∨c < 0∨c≥l.codes.length∨lev < 0∨lev > dep l.codes c.toNat then -1 else upF l.codes lev.toNat (c.toNat + 1) c.toNat
def atL (l:CodL) (lev:Int):List Int:=if lstE l≠0 then [] else List.map (fun i:Nat=>(i:Int)) ((List.range l.codes.length).filter fun i=>(dep l.codes i:Int) == lev)
def qc3 (l:CodL) (c above:Int):Bool:=decide (0≤lvlC l above) && decide (lvlC l above≤lvlC l c) && (upC l c (lvlC l above) == above)
end Go.Proofs
namespace Go.Proofs
open Go Go.TL
def inB (n lo hi:Int):Bool:=decide (lo≤n) && decide (n≤hi)
def wdOk (ws:List Int) (i:Nat):Bool:=if i = 0 then ws.getD 0 0 == 1 else decide (ws.getD (i - 1) 0 < ws.getD i 0) && decide (ws.getD i 0≤1000000) && ((ws.getD i 0).tmod (ws.getD (i - 1) 0) == 0)
def zL7 (ws:List Int):Bool:=(List.range ws.length).all (wdOk ws)
def measE (c:Col):Int:=
 if inB c.low (-1000000) 1000000 = false∨inB c.high (-1000000) 1000000 = false∨c.low > c.high then 2
 else if c.widths.length < 1∨c.widths.length > 4 then 1 else if zL7 c.widths = false then 2 else 0
abbrev qh (s:Sch) (i:Nat):Col:=s.cols.getD i default
def colE (s:Sch) (i:Nat):Int:=
 if ye (qh s i).name = false then 3
 else if ((s.cols.take i).any fun x=>eqB x.name (qh s i).name) = true then 10
 else if inB (qh s i).kind 1 3 = false∨(0 < i∧(qh s i).kind = 1) then 4
 else if (qh s i).kind = 2∧inB (qh s i).list 0 (s.lists.length - 1) = false then 5
 else if (qh s i).kind = 3∧measE (qh s i)≠0 then measE (qh s i)
 else if ((qh s i).kind≠2∧(qh s i).list≠0)∨((qh s i).kind≠3∧((qh s i).low≠0∨(qh s i).high≠0∨0 < (qh s i).widths.length∨(qh s i).opt = true)) then 11 else 0
def Ql (s:Sch):Nat→Int
 | 0=>0
 | n + 1=>if Ql s n≠0 then Ql s n else if lstE (s.lists.getD n default)≠0 then lstE (s.lists.getD n default)
   else if ((s.lists.take n).any fun x=>eqB x.name (s.lists.getD n default).name) = true then 10 else 0
def Ku (s:Sch):Nat→Int
 | 0=>0
 | n + 1=>if Ku s n≠0 then Ku s n else colE s n
def schE (s:Sch):Int:=
 if s.lists.length > 6∨s.cols.length > 8 then 1 else if Ql s s.lists.length≠0 then Ql s s.lists.length
 else if s.cols.length = 0∨(qh s 0).kind≠1 then 7 else Ku s s.cols.length
abbrev qH (s:Sch) (i:Nat):CodL:=s.lists.getD (qh s i).list.toNat default
def Wg:Int:=-1099511627776
def jM (s:Sch) (i:Nat) (v:Int):Bool:=
 if (qh s i).kind = 1 then inB v 1 1048575
 else if (qh s i).kind = 2 then inB v 0 ((qH s i).codes.length - 1) && (lvlC (qH s i) v == zj (qH s i) - 1)
 else ((qh s i).opt && (v == Wg)) || inB v (qh s i).low (qh s i).high
def rowE (s:Sch) (row:List Int):Int:=
 if schE s≠0 then schE s else if row.length≠s.cols.length then 9
 else if ((List.range row.length).all fun i=>jM s i (row.getD i 0)) = false then 9 else 0
def finI (s:Sch) (c:Int):Int:=
 if schE s≠0∨c < 1∨c≥s.cols.length then -1
 else if (qh s c.toNat).kind = 2 then zj (qH s c.toNat) - 1 else (qh s c.toNat).widths.length
def qy (a b:Int):Int:=a.fdiv b
def qE (s:Sch) (c:Nat):List Int:=atL (qH s c) (zj (qH s c) - 1)
def zd (c:Col) (lev:Int):Int:=c.widths.getD (c.widths.length - lev).toNat 0
def qG (s:Sch) (c lev v:Int):Int:=
 if inB lev 0 (finI s c) = false then -1
 else if (qh s c.toNat).kind = 2 then (if jM s c.toNat v = false then -1 else upC (qH s c.toNat) v lev)
 else if v≠Wg∧inB v (-1000000) 1000000 = false then -1
 else if lev = 0 then 0 else if v = Wg then v else qy v (zd (qh s c.toNat) lev) * zd (qh s c.toNat) lev
def eqPk (x y:Pk):Bool:=(x.col == y.col) && (x.lev == y.lev)
def ql5 (a b:List Pk):Bool:=KU eqPk a b
end Go.Proofs
namespace Go.Proofs
open Go Go.TL
def dgt (n:Nat):UInt8:=UInt8.ofNat (48 + n)
def zz5:ByteArray:=⟨#[111,110,101]⟩
def zz6:ByteArray:=⟨#[116,119,111]⟩
structure DrL (nm:ByteArray) (l:CodL):Prop where
 nm:l.name = nm
 ok:lstE l = 0
 len:2≤l.codes.length∧l.codes.length≤10
end Go.Proofs
namespace Go.Proofs
open Go Go.TL
theorem qW2 {s:Sch}:∀ {n:Nat},(∀ i,i < n→colE s i = 0)→Ku s n = 0
 | 0,_=>rfl
 | n + 1,h=>by
   rw [Ku,qW2 fun i hi=>h i (by omega),if_neg (by simp)]
   exact h n (by omega)
theorem zq3 {s:Sch} {i:Nat} (h1:ye (qh s i).name = true) (h2:((s.cols.take i).any fun x=>eqB x.name (qh s i).name) = false) (h3:(qh s i).kind = 3) (h4:(qh s i).list = 0) (h5:measE (qh s i) = 0):colE s i = 0:=by
 rw [colE,if_neg (by rw [h1];simp),if_neg (by rw [h2];simp),if_neg (by rw [h3];simp [inB]),if_neg (by rw [h3];simp),if_neg (by rw [h5];simp),if_neg (by rw [h3,h4];simp)]
theorem ql6 {s:Sch} {i:Nat} (h1:ye (qh s i).name = true) (h2:((s.cols.take i).any fun x=>eqB x.name (qh s i).name) = false) (h3:(qh s i).kind = 2) (h4:inB (qh s i).list 0 (s.lists.length - 1) = true)
 (h5:(qh s i).low = 0∧(qh s i).high = 0∧(qh s i).widths = []∧(qh s i).opt = false):colE s i = 0:=by
 rw [colE,if_neg (by rw [h1];simp),if_neg (by rw [h2];simp),if_neg (by rw [h3];simp [inB]),if_neg (by rw [h4];simp),if_neg (by rw [h3];simp),if_neg (by rw [h3,h5.1,h5.2.1,h5.2.2.1,h5.2.2.2];simp)]
theorem zq4 {s:Sch} (h1:ye (qh s 0).name = true) (h3:(qh s 0).kind = 1) (h5:(qh s 0).list = 0∧(qh s 0).low = 0∧(qh s 0).high = 0∧(qh s 0).widths = []∧(qh s 0).opt = false):colE s 0 = 0:=by
 rw [colE,if_neg (by rw [h1];simp),if_neg (by simp),if_neg (by rw [h3];simp [inB]),if_neg (by rw [h3];simp),if_neg (by rw [h3];simp),if_neg (by rw [h3,h5.1,h5.2.1,h5.2.2.1,h5.2.2.2.1,h5.2.2.2.2];simp)]
def whoC:Col:=⟨⟨#[119,104,111]⟩,1,0,0,0,[],false⟩
def sexC:Col:=⟨⟨#[115,101,120]⟩,2,0,0,0,[],false⟩
def jobC:Col:=⟨⟨#[106,111,98]⟩,2,1,0,0,[],false⟩
def wTab:List (List Int):=[[1],[1,5],[1,5,20],[1,2,4,12]]
structure DrM (n:Nat) (c:Col):Prop where
 nm:c.name = ⟨#[109,dgt n]⟩
 kind:c.kind = 3
 list:c.list = 0
 low : -4≤c.low∧c.low≤2
 high:c.low≤c.high∧c.high≤c.low + 44
 wid:c.widths∈wTab
theorem DrM.measE {n:Nat} {c:Col} (h:DrM n c):measE c = 0:=by
 have hl:=h.low
 have hh:=h.high
 have hw:=h.wid
 have h1:inB c.low (-1000000) 1000000 = true:=by simp only [inB,Bool.and_eq_true,decide_eq_true_eq];omega
 have h2:inB c.high (-1000000) 1000000 = true:=by simp only [inB,Bool.and_eq_true,decide_eq_true_eq];omega
 have h3:1≤c.widths.length∧c.widths.length≤4∧zL7 c.widths = true:=by
  simp only [wTab,List.mem_cons,List.not_mem_nil,or_false] at hw
  rcases hw with hw | hw | hw | hw <;> rw [hw] <;> decide
 rw [_root_.Go.Proofs.measE,if_neg (by rw [h1,h2];simp;omega),if_neg (by omega),if_neg (by rw [h3.2.2];simp)]
structure DrS (s:Sch):Prop where
 ls:∃ a b,s.lists = [a,b]∧DrL zz5 a∧DrL zz6 b
 cs:∃ ms,(s.cols = whoC :: sexC :: ms∧(∀ i (h:i < ms.length),DrM (2 + i) ms[i])∨s.cols = whoC :: sexC :: jobC :: ms∧∀ i (h:i < ms.length),DrM (3 + i) ms[i])∧1≤ms.length∧ms.length≤3
theorem zT2:∀ n:Nat,n < 10→ye ⟨#[109,dgt n]⟩ = true:=by
 have:∀ n:Fin 10,ye ⟨#[109,dgt n.1]⟩ = true:=by decide +kernel
 exact fun n h=>this ⟨n,h⟩
theorem zT3:∀ i j:Nat,i < 10→j < 10→i≠j→eqB ⟨#[109,dgt i]⟩ ⟨#[109,dgt j]⟩ = false:=by
 have:∀ i j:Fin 10,i.1≠j.1→eqB ⟨#[109,dgt i.1]⟩ ⟨#[109,dgt j.1]⟩ = false:=by decide +kernel
 exact fun i j hi hj h=>this ⟨i,hi⟩ ⟨j,hj⟩ h
theorem zR4:∀ j:Nat,j < 10→eqB whoC.name ⟨#[109,dgt j]⟩ = false∧eqB sexC.name ⟨#[109,dgt j]⟩ = false∧eqB jobC.name ⟨#[109,dgt j]⟩ = false:=by
 have:∀ j:Fin 10,eqB whoC.name ⟨#[109,dgt j.1]⟩ = false∧eqB sexC.name ⟨#[109,dgt j.1]⟩ = false∧eqB jobC.name ⟨#[109,dgt j.1]⟩ = false:=by decide +kernel
 exact fun j hj=>this ⟨j,hj⟩
theorem zL8 {s:Sch} {a b:CodL} (h:s.lists = [a,b]) (ha:DrL zz5 a) (hb:DrL zz6 b):Ql s s.lists.length = 0:=by
 have e1:Ql s 1 = 0:=by
  rw [Ql,Ql,if_neg (by simp),h]
  show (if lstE a≠0 then lstE a else _) = 0
  rw [if_neg (by rw [ha.ok];simp)]
  rfl
 rw [h]
 show Ql s 2 = 0
 rw [Ql,e1,if_neg (by simp),h]
 show (if lstE b≠0 then lstE b else if ([a].any fun x=>eqB x.name b.name) = true then (10:Int) else 0) = 0
 rw [if_neg (by rw [hb.ok];simp),if_neg]
 simp only [List.any_cons,List.any_nil,Bool.or_false,ha.nm,hb.nm]
 rw [show eqB zz5 zz6 = false by decide +kernel]
 simp
theorem Yj:ye whoC.name = true∧ye sexC.name = true∧ye jobC.name = true∧eqB whoC.name sexC.name = false∧eqB whoC.name jobC.name = false∧eqB sexC.name jobC.name = false∧eqB zz5 zz6 = false:=by decide +kernel
theorem zL9 {s:Sch} {pre ms:List Col} (hl:s.lists.length = 2) (hc:s.cols = pre ++ ms) (hp:pre = [whoC,sexC]∨pre = [whoC,sexC,jobC]) (hm:∀ i (h:i < ms.length),DrM (pre.length + i) ms[i]) (hn:ms.length≤3):Ku s s.cols.length = 0:=by
 refine qW2 fun i hi=>?_
 by_cases h:i < pre.length
 ·have ha:qh s i = pre[i]:=by
   rw [qh,hc,List.getD_eq_getElem?_getD,List.getElem?_append_left h,List.getElem?_eq_getElem h];rfl
  have ht:s.cols.take i = pre.take i:=by rw [hc,List.take_append_of_le_length (by omega)]
  rcases hp with hp | hp
  ·subst hp
   have h2:i = 0∨i = 1:=by simp at h;omega
   rcases h2 with h2 | h2 <;> subst h2
   ·exact zq4 (by rw [ha];exact Yj.1) (by rw [ha];rfl) (by rw [ha];exact ⟨rfl,rfl,rfl,rfl,rfl⟩)
   ·exact ql6 (by rw [ha];exact Yj.2.1) (by rw [ha,ht];show (eqB whoC.name sexC.name || false) = false;rw [Yj.2.2.2.1];rfl) (by rw [ha];rfl) (by rw [ha,hl];rfl) (by rw [ha];exact ⟨rfl,rfl,rfl,rfl⟩)
  ·subst hp
   have h2:i = 0∨i = 1∨i = 2:=by simp at h;omega
   rcases h2 with h2 | h2 | h2 <;> subst h2
   ·exact zq4 (by rw [ha];exact Yj.1) (by rw [ha];rfl) (by rw [ha];exact ⟨rfl,rfl,rfl,rfl,rfl⟩)
   ·exact ql6 (by rw [ha];exact Yj.2.1) (by rw [ha,ht];show (eqB whoC.name sexC.name || false) = false;rw [Yj.2.2.2.1];rfl) (by rw [ha];rfl) (by rw [ha,hl];rfl) (by rw [ha];exact ⟨rfl,rfl,rfl,rfl⟩)
   ·exact ql6 (by rw [ha];exact Yj.2.2.1) (by rw [ha,ht];show (eqB whoC.name jobC.name || (eqB sexC.name jobC.name || false)) = false;rw [Yj.2.2.2.2.1,Yj.2.2.2.2.2.1];rfl) (by rw [ha];rfl) (by rw [ha,hl];rfl) (by rw [ha];exact ⟨rfl,rfl,rfl,rfl⟩)
 ·have hi2:i - pre.length < ms.length:=by rw [hc,List.length_append] at hi;omega
  have hpl:pre.length≤3:=by rcases hp with hp | hp <;> subst hp <;> simp
  have ha:qh s i = ms[i - pre.length]:=by
   rw [qh,hc,List.getD_eq_getElem?_getD,List.getElem?_append_right (by omega),List.getElem?_eq_getElem hi2];rfl
  have d:=hm _ hi2
  rw [show pre.length + (i - pre.length) = i by omega] at d
  refine zq3 (by rw [ha,d.nm];exact zT2 i (by omega)) ?_ (by rw [ha];exact d.kind) (by rw [ha];exact d.list) (by rw [ha];exact d.measE)
  rw [ha,d.nm,hc,List.any_eq_false]
  intro x hx
  rw [List.take_append] at hx
  rcases List.mem_append.1 hx with hx | hx
  ·have hx:=List.mem_of_mem_take hx
   have hf:=zR4 i (by omega)
   have:x = whoC∨x = sexC∨x = jobC:=by
    rcases hp with hp | hp <;> subst hp <;> simp at hx <;> rcases hx with h | h | h <;> simp [h]
   rcases this with h | h | h <;> subst h <;> simp [hf.1,hf.2.1,hf.2.2]
  ·obtain ⟨j,hj,rfl⟩:=List.mem_take_iff_getElem.1 hx
   have dj:=hm j (by omega)
   rw [dj.nm,zT3 (pre.length + j) i (by omega) (by omega) (by omega)]
   simp
theorem DrS.ok {s:Sch} (h:DrS s):schE s = 0:=by
 obtain ⟨a,b,hl,ha,hb⟩:=h.ls
 obtain ⟨ms,hc,hm1,hm3⟩:=h.cs
 have h2:s.lists.length = 2:=by rw [hl];rfl
 have key:∀ pre:List Col,(pre = [whoC,sexC]∨pre = [whoC,sexC,jobC])→s.cols = pre ++ ms→(∀ i (h:i < ms.length),DrM (pre.length + i) ms[i])→schE s = 0:=by
  intro pre hp hc hd
  have hpl:2≤pre.length∧pre.length≤3:=by rcases hp with hp | hp <;> subst hp <;> simp
  have h0:(qh s 0).kind = 1:=by
   rw [qh,hc]
   rcases hp with hp | hp <;> subst hp <;> rfl
  rw [schE,if_neg (by rw [h2,hc,List.length_append];omega),if_neg (by rw [zL8 hl ha hb];simp),if_neg (by rw [hc,List.length_append];omega)]
  exact zL9 h2 hc hp hd hm3
 rcases hc with ⟨hc,hd⟩ | ⟨hc,hd⟩
 ·exact key [whoC,sexC] (.inl rfl) hc hd
 ·exact key [whoC,sexC,jobC] (.inr rfl) hc hd
end Go.Proofs
namespace Go.Proofs
open Go Go.TL
theorem zq5 {l:CodL} (h:lstE l = 0) {lev v:Int}:v∈atL l lev↔∃ i:Nat,i < l.codes.length∧(dep l.codes i:Int) = lev∧v = (i:Int):=by
 rw [atL,if_neg (by rw [h];simp)]
 simp only [List.mem_map,List.mem_filter,List.mem_range,beq_iff_eq]
 constructor
 ·rintro ⟨i,⟨h1,h2⟩,rfl⟩;exact ⟨i,h1,h2,rfl⟩
 ·rintro ⟨i,h1,h2,rfl⟩;exact ⟨i,⟨h1,h2⟩,rfl⟩
theorem qW3 {l:CodL} (h:lstE l = 0):zj l - 1 = (dep l.codes (l.codes.length - 1):Int):=by
 rw [zj,if_neg (by rw [h];simp)]
 omega
theorem QX {s:Sch} {i:Nat} (hk:(qh s i).kind = 2) (hl:lstE (qH s i) = 0) {v:Int} (hv:v∈qE s i):jM s i v = true:=by
 obtain ⟨j,h1,h2,rfl⟩:=(zq5 hl).1 hv
 rw [jM,if_neg (by rw [hk];decide),if_pos hk,Bool.and_eq_true]
 refine ⟨by simp only [inB,Bool.and_eq_true,decide_eq_true_eq];omega,?_⟩
 rw [beq_iff_eq,lvlC,if_neg (by rw [hl];omega),Int.toNat_natCast,h2]
theorem qG9 {s:Sch}:∀ {n:Nat},Ku s n = 0→∀ i,i < n→colE s i = 0
 | 0,_,i,h=>by omega
 | n + 1,h,i,hi=>by
   rw [Ku] at h
   split at h
   ·rename_i h2;exact absurd h h2
   ·rename_i h2
    by_cases e:i = n
    ·rw [e];exact h
    ·exact qG9 (Classical.byContradiction h2) i (by omega)
theorem qH0 {s:Sch}:∀ {n:Nat},Ql s n = 0→∀ i,i < n→lstE (s.lists.getD i default) = 0
 | 0,_,i,h=>by omega
 | n + 1,h,i,hi=>by
   rw [Ql] at h
   split at h
   ·rename_i h2;exact absurd h h2
   ·rename_i h2
    split at h
    ·rename_i h3;exact absurd h h3
    ·rename_i h3
     by_cases e:i = n
     ·rw [e];exact Classical.byContradiction h3
     ·exact qH0 (Classical.byContradiction h2) i (by omega)
structure SchOk (s:Sch):Prop where
 nl:s.lists.length≤6
 nc:1≤s.cols.length∧s.cols.length≤8
 ls:∀ i,i < s.lists.length→lstE (s.lists.getD i default) = 0
 c0:(qh s 0).kind = 1
 cs:∀ i,i < s.cols.length→colE s i = 0
theorem zq {s:Sch} (h:schE s = 0):SchOk s:=by
 unfold schE at h
 split at h
 ·cases h
 ·split at h
  ·rename_i h2;exact absurd h h2
  ·split at h
   ·cases h
   ·rename_i h1 h2 h3
    refine ⟨by omega,by omega,qH0 (Classical.byContradiction h2),?_,qG9 h⟩
    exact Classical.byContradiction fun e=>h3 (.inr e)
theorem zA {s:Sch} {i:Nat} (h:colE s i = 0):1≤(qh s i).kind∧(qh s i).kind≤3∧(0 < i→(qh s i).kind≠1)∧((qh s i).kind = 2→0≤(qh s i).list∧(qh s i).list < s.lists.length)∧((qh s i).kind = 3→measE (qh s i) = 0):=by
 unfold colE at h
 split at h
 ·cases h
 ·split at h
  ·cases h
  ·split at h
   ·cases h
   ·split at h
    ·cases h
    ·rename_i h1 h2 h3 h4
     have hk:inB (qh s i).kind 1 3 = true:=by
      cases e:inB (qh s i).kind 1 3 with
      | true=>rfl
      | false=>exact absurd (.inl e) h3
     simp only [inB,Bool.and_eq_true,decide_eq_true_eq] at hk
     refine ⟨hk.1,hk.2,fun h0 e=>h3 (.inr ⟨h0,e⟩),fun e=>?_,fun e=>?_⟩
     ·have:inB (qh s i).list 0 (s.lists.length - 1) = true:=by
       cases e2:inB (qh s i).list 0 (s.lists.length - 1) with
       | true=>rfl
       | false=>exact absurd ⟨e,e2⟩ h4
      simp only [inB,Bool.and_eq_true,decide_eq_true_eq] at this
      omega
     ·split at h
      ·rename_i h5;exact absurd h h5.2
      ·rename_i h5
       exact Classical.byContradiction fun e2=>h5 ⟨e,e2⟩
theorem SchOk.cdl {s:Sch} (h:SchOk s) {i:Nat} (hi:i < s.cols.length) (hk:(qh s i).kind = 2):(qh s i).list.toNat < s.lists.length∧lstE (qH s i) = 0:=by
 have h1:=(zA (h.cs i hi)).2.2.2.1 hk
 exact ⟨by omega,h.ls _ (by omega)⟩
end Go.Proofs
namespace Go.Proofs
open Go Go.TL
end Go.Proofs
namespace Go.Proofs
open Go Go.TL
theorem qw6 (cs:List Cod) (n:Nat):lvs cs (n + 1) = lvS cs (lvs cs n) n:=by
 unfold lvs
 rw [List.range_succ,List.foldl_append]
 rfl
theorem zz7 {cs:List Cod} {n:Nat} (h:lvs cs n = none):∀ m,n≤m→lvs cs m = none:=by
 intro m hm
 induction m with
 | zero=>have:n = 0:=by omega
         rw [← this];exact h
 | succ m ih=>
   by_cases e:n = m + 1
   ·rw [← e];exact h
   ·rw [qw6,ih (by omega)];rfl
theorem zR5 {cs:List Cod} (h:cdEs cs cs.length = 0):qp4 cs:=fun i hi=>by
 have:=qw5 (Yi h i hi)
 exact ⟨this.1,this.2.1⟩
end Go.Proofs
namespace Go.Proofs
open Go Go.TL
end Go.Proofs
namespace Go.Proofs
open Go Go.TL
def atN (cs:List Cod) (lev:Int) (n:Nat):List Int:=List.map (fun i:Nat=>(i:Int)) ((List.range n).filter fun i=>(dep cs i:Int) == lev)
theorem zz8 (cs:List Cod) (lev:Int) (n:Nat):atN cs lev (n + 1) = atN cs lev n ++ (if (dep cs n:Int) = lev then [(n:Int)] else []):=by
 unfold atN
 rw [List.range_succ,List.filter_append,List.map_append]
 congr 1
 by_cases h:(dep cs n:Int) = lev <;> simp [h]
theorem zM0 (cs:List Cod) (lev:Int) (n:Nat):(atN cs lev n).length≤n:=by
 unfold atN
 rw [List.length_map]
 exact Nat.le_trans (List.length_filter_le _ _) (by simp)
end Go.Proofs
namespace Go.Proofs
open Go Go.TL
open So
theorem zz9 {cs:List Cod} (h:qp4 cs) (lev:Nat):∀ (c f g:Nat),c < cs.length→c < f→c < g→upF cs lev f c = upF cs lev g c:=by
 intro c
 induction c using Nat.strongRecOn with
 | _ c ih=>
   intro f g hc hf hg
   obtain ⟨f,rfl⟩:∃ k,f = k + 1:=⟨f - 1,by omega⟩
   obtain ⟨g,rfl⟩:∃ k,g = k + 1:=⟨g - 1,by omega⟩
   simp only [upF]
   have hp:=h c hc
   split
   ·rename_i h1
    have h0:¬ parC cs c < 0:=fun e=>by rw [qf9 e] at h1;omega
    rw [ih (parC cs c).toNat (by omega) f g (by omega) (by omega) (by omega)]
   ·rfl
theorem up_step {cs:List Cod} (h:qp4 cs) {lev c:Nat} (hc:c < cs.length) (hl:lev < dep cs c):0≤parC cs c∧parC cs c < c∧dep cs c = dep cs (parC cs c).toNat + 1∧upF cs lev (c + 1) c = upF cs lev ((parC cs c).toNat + 1) (parC cs c).toNat:=by
 have hp:=h c hc
 have h0:¬ parC cs c < 0:=fun e=>by rw [qf9 e] at hl;omega
 refine ⟨by omega,by omega,ql3 h hc (by omega),?_⟩
 rw [upF,if_pos hl]
 exact zz9 h lev _ _ _ (by omega) (by omega) (by omega)
theorem zq6 {cs:List Cod} {lev c:Nat} (hl:dep cs c≤lev) (f:Nat):upF cs lev f c = c:=by
 cases f with
 | zero=>rfl
 | succ f=>rw [upF,if_neg (by omega)]
end Go.Proofs
namespace Go.Proofs
open Go Go.TL
theorem qW4 {ws:List Int}:∀ {i:Nat},(∀ j,j < i→wdOk ws j = true)→∀ j,j < i→1≤ws.getD j 0
 | 0,_,j,h=>by omega
 | i + 1,hw,j,h=>by
   have ih:=qW4 (ws:=ws) (i:=i) fun j hj=>hw j (by omega)
   have:=hw j h
   unfold wdOk at this
   split at this
   ·rename_i e;subst e
    have:ws.getD 0 0 = 1:=by simpa using this
    omega
   ·simp only [Bool.and_eq_true,decide_eq_true_eq] at this
    have:=ih (j - 1) (by omega)
    omega
theorem qM5 {s:Sch} {i:Nat} (h:Ql s i≠0):∀ n,i≤n→Ql s n = Ql s i:=by
 intro n hn
 induction n with
 | zero=>have:i = 0:=by omega
         rw [this]
 | succ n ih=>
   by_cases e:i = n + 1
   ·rw [e]
   ·have:=ih (by omega)
    rw [Ql,this,if_pos h]
theorem qM6 {s:Sch} {i:Nat} (h:Ku s i≠0):∀ n,i≤n→Ku s n = Ku s i:=by
 intro n hn
 induction n with
 | zero=>have:i = 0:=by omega
         rw [this]
 | succ n ih=>
   by_cases e:i = n + 1
   ·rw [e]
   ·have:=ih (by omega)
    rw [Ku,this,if_pos h]
def Jc (s:Sch):Prop:=s.lists.length < 4611686018427387904∧s.cols.length < 4611686018427387904∧∀ l∈s.lists,l.codes.length < 4611686018427387904
end Go.Proofs
namespace Go.Proofs
open Go Go.TL
theorem SchOk.sm {s:Sch} (h:SchOk s):Jc s:=by
 have h1:=h.nl
 have h2:=h.nc
 refine ⟨by omega,by omega,fun l hl=>?_⟩
 obtain ⟨i,hi,rfl⟩:=List.getElem_of_mem hl
 have h3:=h.ls i hi
 rw [qr hi] at h3
 have:=(zU h3).2.2
 omega
theorem qw7 {l:CodL} : -1≤zj l∧zj l≤60:=by
 unfold zj
 split
 ·omega
 ·rename_i h
  obtain ⟨hp,h1,h2⟩:=zU (Classical.byContradiction h)
  have:=ql4 hp (l.codes.length - 1) (by omega)
  omega
theorem zA0 {a b:Int} (hb:0 < b):qy a b = if a.tmod b < 0 then a.tdiv b - 1 else a.tdiv b:=by
 have h1:=Int.mul_tdiv_add_tmod a b
 have h2:=Int.tmod_lt_of_pos a hb
 have h3:=Int.lt_tmod_of_pos a hb
 unfold qy
 rw [Int.fdiv_eq_ediv_of_nonneg _ (by omega)]
 split
 ·refine ((Int.ediv_emod_unique (r:=a.tmod b + b) hb).2 ⟨?_,by omega,by omega⟩).1
  rw [Int.mul_sub];omega
 ·refine ((Int.ediv_emod_unique (r:=a.tmod b) hb).2 ⟨by omega,by omega,by omega⟩).1
end Go.Proofs
namespace Go.Proofs
open Go Go.TL
namespace Cnd
mutual
theorem ind' {p:Cnd→Prop} (h:∀ c,(∀ k∈c.kids,p k)→p c):∀ c,p c
 | .mk _ _ _ _ _ ks=>h _ (inds h ks)
theorem inds {p:Cnd→Prop} (h:∀ c,(∀ k∈c.kids,p k)→p c):∀ ks:List Cnd,∀ k∈ks,p k
 | [],_,hk=>absurd hk (by simp)
 | x :: r,k,hk=>by
   rcases List.mem_cons.1 hk with e | hk
   ·rw [e];exact ind' h x
   ·exact inds h r k hk
end
end Cnd
mutual
def cntC:Cnd→Int→Int
 | .mk _ _ _ _ _ ks,m=>yf ks m 1
def yf:List Cnd→Int→Int→Int
 | [],_,n=>n
 | k :: r,m,n=>if n < m then yf r m (n + cntC k (m - n)) else n
end
theorem qa0 (c:Cnd) (m:Int):cntC c m = yf c.kids m 1:=by cases c;rw [cntC];rfl
mutual
def depC:Cnd→Nat
 | .mk _ _ _ _ _ ks=>Qm ks + 1
def Qm:List Cnd→Nat
 | []=>0
 | k :: r=>max (depC k) (Qm r)
end
theorem zq7 (c:Cnd):depC c = Qm c.kids + 1:=by cases c;rw [depC];rfl
def isB (s:Sch) (col kind:Int):Bool:=decide (0≤col) && decide (col < s.cols.length) && ((qh s col.toNat).kind == kind)
def arC (op:Int):Nat:=if op = 5∨op = 6 then 2 else if op = 7 then 1 else 0
def ndE (s:Sch) (c:Cnd):Int:=
 if c.op < 1∨7 < c.op then 4
 else if c.kids.length≠arC c.op∨(c.op≠2∧c.op≠3∧c.op≠4∧c.col≠0)∨(c.op≠2∧c.code≠0)∨(c.op≠3∧(c.lo≠0∨c.hi≠0)) then 11
 else if (c.op = 2∧isB s c.col 2 = false)∨(c.op = 3∧isB s c.col 3 = false)∨(c.op = 4∧(isB s c.col 3 = false∨(qh s c.col.toNat).opt = false)) then 7
 else if c.op = 2∧(c.code < 0∨c.code≥(qH s c.col.toNat).codes.length) then 6
 else if c.op = 3∧(c.lo < -1000000∨c.hi > 1000000∨c.lo > c.hi) then 2 else 0
mutual
def nodE (s:Sch):Cnd→Int
 | .mk op col code lo hi ks=>if ndE s (.mk op col code lo hi ks)≠0 then ndE s (.mk op col code lo hi ks) else Kv s ks
def Kv (s:Sch):List Cnd→Int
 | []=>0
 | k :: r=>if nodE s k≠0 then nodE s k else Kv s r
end
theorem zq8 (s:Sch) (c:Cnd):nodE s c = if ndE s c≠0 then ndE s c else Kv s c.kids:=by cases c;rw [nodE];rfl
def chkC (s:Sch) (c:Cnd):Int:=if schE s≠0 then schE s else if cntC c 41 > 40 then 1 else if depC c > 10 then 22 else nodE s c
theorem qH1 {s:Sch}:∀ {l:List Cnd},Kv s l = 0→∀ k∈l,nodE s k = 0
 | [],_,k,hk=>absurd hk (by simp)
 | x :: r,h,k,hk=>by
   rw [Kv] at h
   split at h
   ·rename_i h1;exact absurd h h1
   ·rename_i h1
    rcases List.mem_cons.1 hk with e | hk
    ·rw [e];exact Classical.byContradiction h1
    ·exact qH1 h k hk
theorem zM1 {s:Sch} {c:Cnd} (h:nodE s c = 0):ndE s c = 0∧∀ k∈c.kids,nodE s k = 0:=by
 rw [zq8] at h
 split at h
 ·rename_i h1;exact absurd h h1
 ·rename_i h1
  exact ⟨Classical.byContradiction h1,qH1 h⟩
theorem Qn {s:Sch} {col kind:Int}:isB s col kind = true↔0≤col∧col < s.cols.length∧(qh s col.toNat).kind = kind:=by
 unfold isB
 simp only [Bool.and_eq_true,decide_eq_true_eq,beq_iff_eq,and_assoc]
structure NdOk (s:Sch) (c:Cnd):Prop where
 op:1≤c.op∧c.op≤7
 nk:c.kids.length = arC c.op
 under:c.op = 2→isB s c.col 2 = true∧0≤c.code∧c.code < (qH s c.col.toNat).codes.length
 between:c.op = 3→isB s c.col 3 = true∧-1000000≤c.lo∧c.hi≤1000000∧c.lo≤c.hi
 miss:c.op = 4→isB s c.col 3 = true∧(qh s c.col.toNat).opt = true
theorem zH5 {s:Sch} {c:Cnd} (h:ndE s c = 0):NdOk s c:=by
 unfold ndE at h
 split at h
 ·cases h
 rename_i h1
 split at h
 ·cases h
 rename_i h2
 split at h
 ·cases h
 rename_i h3
 split at h
 ·cases h
 rename_i h4
 split at h
 ·cases h
 rename_i h5
 refine ⟨by omega,Classical.byContradiction fun e=>h2 (.inl e),fun e=>⟨?_,by omega,by omega⟩,fun e=>⟨?_,by omega,by omega,by omega⟩,fun e=>⟨?_,?_⟩⟩
 ·cases e2:isB s c.col 2 with
  | true=>rfl
  | false=>exact absurd (.inl ⟨e,e2⟩) h3
 ·cases e2:isB s c.col 3 with
  | true=>rfl
  | false=>exact absurd (.inr (.inl ⟨e,e2⟩)) h3
 ·cases e2:isB s c.col 3 with
  | true=>rfl
  | false=>exact absurd (.inr (.inr ⟨e,.inl e2⟩)) h3
 ·cases e2:(qh s c.col.toNat).opt with
  | true=>rfl
  | false=>exact absurd (.inr (.inr ⟨e,.inr e2⟩)) h3
def isAt (c:Cnd):Bool:=(c.op == 2) || (c.op == 3) || (c.op == 4)
def tf (b:Bool):Int:=if b then 1 else -1
def kg (s:Sch) (c:Cnd) (v:Int):Int:=
 if c.op = 2 then tf (qc3 (qH s c.col.toNat) v c.code)
 else if c.op = 3 then (if v = Wg then 0 else tf (decide (c.lo≤v) && decide (v≤c.hi)))
 else if c.op = 4 then tf (v == Wg) else -1
def zT4 (op:Int) (ks:List Int):Int:=if op = 7 then - ks.getD 0 0 else if op = 5 then min (ks.getD 0 0) (ks.getD 1 0) else if op = 6 then max (ks.getD 0 0) (ks.getD 1 0) else 1
mutual
def evC (s:Sch) (row:List Int):Cnd→Int
 | .mk op col code lo hi ks=>if isAt (.mk op col code lo hi ks) = true then kg s (.mk op col code lo hi ks) (row.getD col.toNat 0) else zT4 op (evCs s row ks)
def evCs (s:Sch) (row:List Int):List Cnd→List Int
 | []=>[]
 | k :: r=>evC s row k :: evCs s row r
end
def zT5 (s:Sch) (c:Cnd) (row:List Int):Int:=if chkC s c≠0∨rowE s row≠0 then 0 else evC s row c
mutual
def atsC:Cnd→List Cnd
 | .mk op col code lo hi ks=>if isAt (.mk op col code lo hi ks) = true then [.mk op col code lo hi ks] else QY ks
def QY:List Cnd→List Cnd
 | []=>[]
 | k :: r=>atsC k ++ QY r
end
theorem qw8 (c:Cnd):atsC c = if isAt c = true then [c] else QY c.kids:=by cases c;rw [atsC];rfl
theorem qa1:∀ (l:List Cnd) (k:Cnd),QY (l ++ [k]) = QY l ++ atsC k
 | [],k=>by simp [QY]
 | x :: r,k=>by simp [QY,qa1 r k]
theorem qW5 {s:Sch}:∀ c,nodE s c = 0→∀ a∈atsC c,NdOk s a∧isAt a = true:=by
 refine Cnd.ind' fun c ih h a ha=>?_
 obtain ⟨h1,h2⟩:=zM1 h
 rw [qw8] at ha
 split at ha
 ·rename_i h3
  rw [List.mem_singleton] at ha
  rw [ha]
  exact ⟨zH5 h1,h3⟩
 ·have key:∀ l:List Cnd,(∀ k∈l,k∈c.kids)→a∈QY l→NdOk s a∧isAt a = true:=by
   intro l
   induction l with
   | nil=>intro _ h;simp [QY] at h
   | cons k r ihl=>
     intro hk h
     rw [QY,List.mem_append] at h
     rcases h with h | h
     ·exact ih k (hk k (by simp)) (h2 k (hk k (by simp))) a h
     ·exact ihl (fun x hx=>hk x (List.mem_cons_of_mem _ hx)) h
  exact key c.kids (fun k hk=>hk) ha
def ql7 (n:Nat) (p:Nat→Nat→Bool):Bool:=(List.range n).all fun i=>(List.range i).all fun k=>p i k
theorem zA1 {p:Nat→Bool} {n:Nat}:(List.range (n + 1)).all p = ((List.range n).all p && p n):=by rw [List.range_succ,List.all_append];simp
theorem zH6 {p:Nat→Bool} {n i:Nat} (h:i < n) (hp:p i = false):(List.range n).all p = false:=List.all_eq_false.2 ⟨i,List.mem_range.2 h,by rw [hp];simp⟩
theorem za7 {p:Nat→Nat→Bool} {n:Nat}:ql7 (n + 1) p = (ql7 n p && (List.range n).all (p n)):=zA1
theorem zA2 {p:Nat→Nat→Bool} {n i k:Nat} (h:i < n) (hk:k < i) (hp:p i k = false):ql7 n p = false:=zH6 h (zH6 hk hp)
def decP (s:Sch) (c:Cnd) (lev:Nat) (i k:Nat):Bool:=
 !((qG s c.col lev ((qE s c.col.toNat).getD i 0) == qG s c.col lev ((qE s c.col.toNat).getD k 0)) && !(kg s c ((qE s c.col.toNat).getD i 0) == kg s c ((qE s c.col.toNat).getD k 0)))
def decB (s:Sch) (c:Cnd) (lev:Nat):Bool:=
 if c.op = 2 then ql7 (qE s c.col.toNat).length (decP s c lev)
 else if c.op = 4 then decide (0 < lev)
 else
  let x:=qh s c.col.toNat
  let first:=decide (x.low < c.lo) && decide (c.lo≤x.high)
  let behind:=decide (x.low≤c.hi) && decide (c.hi < x.high)
  if lev = 0 then !x.opt && !first && !behind
  else (!first || (c.lo.tmod (zd x lev) == 0)) && (!behind || ((c.hi + 1).tmod (zd x lev) == 0))
def ZP (p:Nat→Bool):Nat→Nat→Nat
 | 0,n=>n
 | f + 1,n=>if p n = true then n else ZP p f (n + 1)
theorem Wh {p:Nat→Bool} {N:Nat} (h:p N = true):∀ (f n:Nat),n≤N→N - n≤f→p (ZP p f n) = true∧ZP p f n≤N∧n≤ZP p f n∧∀ m,n≤m→m < ZP p f n→p m = false
 | 0,n,h1,h2=>by
   have:n = N:=by omega
   subst this
   exact ⟨h,Nat.le_refl _,Nat.le_refl _,fun m h3 h4=>by rw [ZP] at h4;omega⟩
 | f + 1,n,h1,h2=>by
   rw [ZP]
   split
   ·rename_i hp
    exact ⟨hp,h1,Nat.le_refl _,fun m h3 h4=>by omega⟩
   ·rename_i hp
    have hn:n≠N:=fun e=>hp (e ▸ h)
    obtain ⟨a,b,c,d⟩:=Wh h f (n + 1) (by omega) (by omega)
    refine ⟨a,b,by omega,fun m h3 h4=>?_⟩
    by_cases e:m = n
    ·rw [e];simpa using hp
    ·exact d m (by omega) h4
def decN (s:Sch) (c:Cnd):Nat:=ZP (decB s c) 64 0
def qp5 (col lev:Int):List Pk×Bool→Pk→List Pk×Bool:=fun x p=>
 let y:=if p.col > col∧x.2 = false then (x.1 ++ [⟨col,lev⟩],true) else x
 if p.col = col then (y.1 ++ [⟨p.col,max p.lev lev⟩],true) else (y.1 ++ [p],y.2)
def Kw (l:List Pk) (col lev:Int):List Pk:=
 let x:=l.foldl (qp5 col lev) ([],decide (lev≤0))
 if x.2 then x.1 else x.1 ++ [⟨col,lev⟩]
def jq (s:Sch) (c:Cnd):List Pk:=if chkC s c≠0 then [] else (atsC c).foldl (fun l a=>Kw l a.col (decN s a)) []
def covB (a b:List Pk):Bool:=a.all fun x=>b.any fun y=>(y.col == x.col) && decide (y.lev≥x.lev)
mutual
def Yk:Cnd→Cnd→Bool
 | .mk a1 a2 a3 a4 a5 ks,.mk b1 b2 b3 b4 b5 ls=>(a1 == b1) && (a2 == b2) && (a3 == b3) && (a4 == b4) && (a5 == b5) && qH2 ks ls
def qH2:List Cnd→List Cnd→Bool
 | [],[]=>true
 | k :: r,l :: t=>Yk k l && qH2 r t
 | [],_ :: _=>false
 | _ :: _,[]=>false
end
theorem zA3 (a b:Cnd):Yk a b = ((a.op == b.op) && (a.col == b.col) && (a.code == b.code) && (a.lo == b.lo) && (a.hi == b.hi) && qH2 a.kids b.kids):=by cases a;cases b;rw [Yk];rfl
theorem qt2:∀ c,∀ m,1≤m→1≤cntC c m∧cntC c m≤m:=by
 refine Cnd.ind' fun c ih m hm=>?_
 rw [qa0]
 have key:∀ l:List Cnd,(∀ k∈l,k∈c.kids)→∀ n,1≤n→n≤m→1≤yf l m n∧yf l m n≤m:=by
  intro l
  induction l with
  | nil=>intro _ n h1 h2;rw [yf];exact ⟨h1,h2⟩
  | cons k r ihl=>
    intro hk n h1 h2
    rw [yf]
    split
    ·have:=ih k (hk k (by simp)) (m - n) (by omega)
     exact ihl (fun x hx=>hk x (List.mem_cons_of_mem _ hx)) _ (by omega) (by omega)
    ·exact ⟨h1,h2⟩
 exact key c.kids (fun k hk=>hk) 1 (by omega) hm
theorem qw9:∀ (l:List Cnd) (m n:Int),n≤m→n≤yf l m n
 | [],m,n,_=>by rw [yf];omega
 | k :: r,m,n,h=>by
   rw [yf]
   split
   ·have:=qt2 k (m - n) (by omega)
    have:=qw9 r m (n + cntC k (m - n)) (by omega)
    omega
   ·omega
theorem zM2:∀ c,∀ m,1≤m→cntC c m < m→(depC c:Int)≤cntC c m:=by
 refine Cnd.ind' fun c ih m hm h=>?_
 rw [qa0] at h ⊢
 rw [zq7]
 have key:∀ l:List Cnd,(∀ k∈l,k∈c.kids)→∀ n,1≤n→n≤m→yf l m n < m→n + Qm l≤yf l m n:=by
  intro l
  induction l with
  | nil=>intro _ n h1 h2 _;rw [yf,Qm];omega
  | cons k r ihl=>
    intro hk n h1 h2 h3
    rw [yf] at h3 ⊢
    rw [Qm]
    split at h3
    ·rename_i h4
     rw [if_pos h4]
     have c1:=qt2 k (m - n) (by omega)
     have c2:=qw9 r m (n + cntC k (m - n)) (by omega)
     have c3:=ih k (hk k (by simp)) (m - n) (by omega) (by omega)
     have c4:=ihl (fun x hx=>hk x (List.mem_cons_of_mem _ hx)) (n + cntC k (m - n)) (by omega) (by omega) h3
     omega
    ·omega
 have:=key c.kids (fun k hk=>hk) 1 (by omega) (by omega) h
 omega
end Go.Proofs
namespace Go.Proofs
open Go Go.TL
def zF (f:Nat→Int):Nat→Int
 | 0=>0
 | n + 1=>if zF f n≠0 then zF f n else f n
theorem qH3 {f:Nat→Int} {i:Nat} (h:zF f i≠0):∀ n,i≤n→zF f n = zF f i:=by
 intro n hn
 induction n with
 | zero=>have:i = 0:=by omega
         rw [this]
 | succ n ih=>
   by_cases e:i = n + 1
   ·rw [e]
   ·have:=ih (by omega)
    rw [zF,this,if_pos h]
theorem QZ {f:Nat→Int}:∀ {n:Nat},zF f n = 0→∀ i,i < n→f i = 0
 | 0,_,i,h=>by omega
 | n + 1,h,i,hi=>by
   rw [zF] at h
   split at h
   ·rename_i h2;exact absurd h h2
   ·rename_i h2
    by_cases e:i = n
    ·rw [e];exact h
    ·exact QZ (Classical.byContradiction h2) i (by omega)
theorem ql8 {f:Nat→Int}:∀ {n:Nat},(∀ i,i < n→f i = 0)→zF f n = 0
 | 0,_=>rfl
 | n + 1,h=>by
   rw [zF,ql8 fun i hi=>h i (by omega),if_neg (by simp)]
   exact h n (by omega)
theorem wV {f:Nat→Int} {n:Nat} (h:zF f n = 0):zF f (n + 1) = f n:=by rw [zF,if_neg (by rw [h];simp)]
theorem Ka {f:Nat→Int} {i n:Nat} (h:zF f i = 0) (hi:i < n) (hf:f i≠0):zF f n = f i:=by
 rw [qH3 (i:=i + 1) (by rw [wV h];exact hf) n (by omega),wV h]
def ZE (s:Sch) (p:Pk):Int:=if schE s≠0 then schE s else if p.col < 1∨p.col≥s.cols.length then 7 else if inB p.lev 0 (finI s p.col) = false then 8 else 0
abbrev pkAt (l:List Pk) (i:Nat):Pk:=l.getD i default
def qH4 (s:Sch) (l:List Pk) (i:Nat):Int:=if ZE s (pkAt l i)≠0 then ZE s (pkAt l i) else if 0 < i∧(pkAt l i).col≤(pkAt l (i - 1)).col then 10 else 0
def Yl (s:Sch) (l:List Pk):Int:=if schE s≠0 then schE s else zF (qH4 s l) l.length
def dimE (s:Sch) (l:List Pk) (i:Nat):Int:=if ZE s (pkAt l i)≠0 then ZE s (pkAt l i) else if isB s (pkAt l i).col 2 = false then 7 else if ((l.take i).any fun x=>x.col == (pkAt l i).col) = true then 10 else 0
def Jd (s:Sch) (l:List Pk):Int:=if l.length < 1∨l.length > 3 then 1 else zF (dimE s l) l.length
def qM7 (s:Sch) (m:Int) (l:List Int) (i:Nat):Int:=if isB s (l.getD i 0) 3 = false then 7 else if l.getD i 0 = m∨(l.take i).contains (l.getD i 0) = true then 10 else 0
def QA (s:Sch) (m:Int) (l:List Int):Int:=if l.length < 1∨l.length > 3 then 1 else zF (qM7 s m l) l.length
def Za (s:Sch) (q:Qst):Int:=
 if q.kind = 1 then (if Jd s q.dims≠0 then Jd s q.dims else if q.meas≠-1∧isB s q.meas 3 = false then 7 else 0)
 else if q.kind = 2 then (if isB s q.meas 3 = false then 7 else QA s q.meas q.terms)
 else if isB s q.meas 3 = false then 7 else if (qh s q.meas.toNat).low < 0 then 2 else chkC s q.event
def qstE (s:Sch) (q:Qst):Int:=
 if schE s≠0 then schE s else if ye q.name = false then 3 else if q.kind < 1∨3 < q.kind then 4
 else if chkC s q.filt≠0 then chkC s q.filt else if Za s q≠0 then Za s q
 else if (q.kind≠1∧0 < q.dims.length)∨(q.kind≠2∧0 < q.terms.length)∨(q.kind≠3∧Yk q.event cnd0 = false) then 11 else 0
abbrev qAt (l:List Qst) (i:Nat):Qst:=l.getD i default
def qsE (s:Sch) (l:List Qst) (i:Nat):Int:=if qstE s (qAt l i)≠0 then qstE s (qAt l i) else if ((l.take i).any fun x=>eqB x.name (qAt l i).name) = true then 10 else 0
def smpE (x:Smp):Int:=if x.of < 1∨x.of > 1000∨x.part < 1∨x.part > x.of∨x.seed < 0∨x.seed > 1099511627776 then 2 else 0
def dclE (s:Sch) (d:Dcl):Int:=
 if schE s≠0 then schE s else if ye d.proj = false∨ye d.src = false then 3 else if chkC s d.coh≠0 then chkC s d.coh
 else if smpE d.smp≠0 then 2 else if d.qs.length < 1∨d.qs.length > 8 then 1 else zF (qsE s d.qs) d.qs.length
theorem ql9 {s:Sch} {d:Dcl} (h:dclE s d = 0):schE s = 0∧ye d.proj = true∧ye d.src = true∧chkC s d.coh = 0∧smpE d.smp = 0∧1≤d.qs.length∧d.qs.length≤8∧∀ i,i < d.qs.length→qstE s (qAt d.qs i) = 0:=by
 unfold dclE at h
 split at h
 ·rename_i h1;exact absurd h h1
 rename_i h1
 split at h
 ·cases h
 rename_i h2
 split at h
 ·rename_i h3;exact absurd h h3
 rename_i h3
 split at h
 ·cases h
 rename_i h4
 split at h
 ·cases h
 rename_i h5
 refine ⟨Classical.byContradiction h1,?_,?_,Classical.byContradiction h3,Classical.byContradiction h4,by omega,by omega,fun i hi=>?_⟩
 ·cases e:ye d.proj with
  | true=>rfl
  | false=>exact absurd (.inl e) h2
 ·cases e:ye d.src with
  | true=>rfl
  | false=>exact absurd (.inr e) h2
 ·have:=QZ h i hi
  unfold qsE at this
  split at this
  ·rename_i h6;exact absurd this h6
  ·rename_i h6;exact Classical.byContradiction h6
theorem zq9 {s:Sch} {l:List Pk} (h:Yl s l = 0):schE s = 0∧(∀ p∈l,ZE s p = 0)∧l.Pairwise fun a b=>a.col < b.col:=by
 unfold Yl at h
 split at h
 ·rename_i h1;exact absurd h h1
 rename_i h1
 have key:∀ i,i < l.length→ZE s (pkAt l i) = 0∧¬ (0 < i∧(pkAt l i).col≤(pkAt l (i - 1)).col):=fun i hi=>by
  have:=QZ h i hi
  unfold qH4 at this
  split at this
  ·rename_i h2;exact absurd this h2
  rename_i h2
  split at this
  ·cases this
  ·rename_i h3;exact ⟨Classical.byContradiction h2,h3⟩
 refine ⟨Classical.byContradiction h1,fun p hp=>?_,?_⟩
 ·obtain ⟨i,hi,rfl⟩:=List.getElem_of_mem hp
  have:=(key i hi).1
  rw [pkAt,qr hi] at this
  exact this
 ·rw [List.pairwise_iff_getElem]
  have k2:∀ (d i:Nat) (hj:i + d + 1 < l.length),(l[i]'(by omega)).col < l[i + d + 1].col:=by
   intro d
   induction d with
   | zero=>
     intro i hj
     have:=(key (i + 1) (by omega)).2
     rw [pkAt,pkAt,qr (by omega),qr (by omega)] at this
     simp at this
     simpa using this
   | succ d ih=>
     intro i hj
     have h1:=ih i (by omega)
     have h2:=(key (i + d + 1 + 1) (by omega)).2
     rw [pkAt,pkAt,qr (by omega),qr (by omega)] at h2
     simp only [Nat.add_sub_cancel] at h2
     have e:i + (d + 1) + 1 = i + d + 1 + 1:=by omega
     simp only [e]
     omega
  intro i j hi hj hij
  have:=k2 (j - i - 1) i (by omega)
  have e:i + (j - i - 1) + 1 = j:=by omega
  simp only [e] at this
  exact this
theorem qW6 {s:Sch} {p:Pk} (h:ZE s p = 0):schE s = 0∧1≤p.col∧p.col < s.cols.length∧0≤p.lev∧p.lev≤finI s p.col:=by
 unfold ZE at h
 split at h
 ·rename_i h1;exact absurd h h1
 rename_i h1
 split at h
 ·cases h
 rename_i h2
 split at h
 ·cases h
 rename_i h3
 rw [Bool.not_eq_false,inB,Bool.and_eq_true,decide_eq_true_eq,decide_eq_true_eq] at h3
 exact ⟨Classical.byContradiction h1,by omega,by omega,h3.1,h3.2⟩
end Go.Proofs
namespace Go.Proofs
open Go Go.TL
def divM (high w wo:Int):Nat→Int→Bool
 | 0,_=>true
 | k + 1,f=>if f > high then true else if f.tmod wo≠0 then false else divM high w wo k (f + w)
def divP (s:Sch) (col:Nat) (L:List Int) (other lev:Nat) (i k:Nat):Bool:=
 !(!(qG s col lev (L.getD i 0) == qG s col lev (L.getD k 0)) && (qG s col other (L.getD i 0) == qG s col other (L.getD k 0)))
def divB (s:Sch) (col other lev:Nat):Bool:=
 if lev = 0∨lev≤other then true
 else if (qh s col).kind = 2 then ql7 (qE s col).length (divP s col (qE s col) other lev)
 else
  let x:=qh s col
  let w:=zd x lev
  let first:=(qy x.low w + 1) * w
  if other = 0 then !x.opt && decide (first > x.high)
  else divM x.high w (zd x other) 2 first
def wt (s:Sch) (col lev:Int):Int:=if inB lev 0 (finI s col) = false then -1 else ZP (fun n=>divB s col.toNat n lev.toNat) 64 0
def zM3 (q:Qst) (k:Int):Bool:=(q.meas == k) || q.terms.contains k
def QM (l m:List Pk):List Pk:=m.foldl (fun l p=>Kw l p.col p.lev) l
def qc4 (s:Sch) (q:Qst):List Pk→Nat→List Pk:=fun l k=>if zM3 q (k + 1) = true then Kw l (k + 1) (wt s (k + 1) (finI s (k + 1))) else l
def zM4 (s:Sch) (q:Qst) (l:List Pk):List Pk:=(List.range (s.cols.length - 1)).foldl (qc4 s q) l
def kI (s:Sch) (q:Qst):List Pk:=if qstE s q≠0 then [] else
 zM4 s q (q.dims.foldl (fun l p=>Kw l p.col (wt s p.col p.lev)) (if q.kind = 3 then QM (jq s q.filt) (jq s q.event) else jq s q.filt))
def sufB (s:Sch) (q:Qst) (l:List Pk):Bool:=(qstE s q == 0) && (Yl s l == 0) && covB (kI s q) l
def jA (s:Sch) (d:Dcl):List Pk:=if dclE s d≠0 then [] else d.qs.foldl (fun l q=>QM l (kI s q)) []
def qH5 (s:Sch) (d:Dcl) (l:List Pk):Int:=if dclE s d≠0 then dclE s d else if Yl s l≠0 then Yl s l else zF (fun i=>if sufB s (qAt d.qs i) l = true then 0 else 23) d.qs.length
end Go.Proofs
namespace Go.Proofs
open Go Go.TL
theorem ZF {s:Sch} {c:Int} (h:0≤finI s c):schE s = 0∧1≤c∧c < s.cols.length∧finI s c = (if (qh s c.toNat).kind = 2 then zj (qH s c.toNat) - 1 else (qh s c.toNat).widths.length):=by
 unfold finI at h ⊢
 split at h
 ·omega
 ·rename_i h1
  rw [if_neg h1]
  exact ⟨by omega,by omega,by omega,rfl⟩
theorem KJ {n lo hi:Int}:inB n lo hi = true↔lo≤n∧n≤hi:=by simp [inB]
theorem qm0 {n lo hi:Int}:inB n lo hi = false↔n < lo∨hi < n:=by
 rw [← Bool.not_eq_true,KJ];omega
theorem SchOk.wid {s:Sch} (h:SchOk s) {i:Nat} (hi:i < s.cols.length) (h0:0 < i) (hk:(qh s i).kind≠2) {lev:Int} (hl:1≤lev∧lev≤(qh s i).widths.length) :
 1≤zd (qh s i) lev∧zd (qh s i) lev≤1000000∧(qh s i).kind = 3∧(qh s i).widths.length≤4∧-1000000≤(qh s i).low∧(qh s i).high≤1000000∧(qh s i).low≤(qh s i).high∧zd (qh s i) (qh s i).widths.length = 1:=by
 have hk2:=zA (h.cs i hi)
 have hk3:(qh s i).kind = 3:=by have:=hk2.2.2.1 h0;omega
 have hm:=hk2.2.2.2.2 hk3
 generalize qh s i = c at hl hm hk3 ⊢
 unfold measE at hm
 split at hm
 ·cases hm
 rename_i h1
 split at hm
 ·cases hm
 rename_i h2
 split at hm
 ·cases hm
 rename_i h3
 rw [Bool.not_eq_false] at h3
 have hw:∀ j,j < c.widths.length→wdOk c.widths j = true:=fun j hj=>List.all_eq_true.1 h3 j (List.mem_range.2 hj)
 have e1:inB c.low (-1000000) 1000000 = true:=by grind
 have e2:inB c.high (-1000000) 1000000 = true:=by grind
 rw [KJ] at e1 e2
 have hn:((c.widths.length:Int) - lev).toNat < c.widths.length:=by omega
 have hp:=qW4 (ws:=c.widths) hw _ hn
 have h0:=hw 0 (by omega)
 rw [wdOk,if_pos rfl,beq_iff_eq] at h0
 have hmax:c.widths.getD ((c.widths.length:Int) - lev).toNat 0≤1000000:=by
  have:=hw _ hn
  unfold wdOk at this
  split at this
  ·rename_i e;rw [e,h0];omega
  ·simp only [Bool.and_eq_true,decide_eq_true_eq] at this;omega
 refine ⟨hp,hmax,hk3,by omega,by omega,by omega,by omega,?_⟩
 rw [zd,show ((c.widths.length:Int) - c.widths.length).toNat = 0 by omega,h0]
theorem qm1 {v w:Int} (hw:0 < w):v - w < qy v w * w∧qy v w * w≤v:=by
 unfold qy
 rw [Int.fdiv_eq_ediv_of_nonneg _ (by omega),Int.mul_comm]
 have h1:=Int.mul_ediv_add_emod v w
 have h2:=Int.emod_nonneg v (b:=w) (by omega)
 have h3:=Int.emod_lt_of_pos v hw
 omega
theorem qg0 {x y:Pk}:eqPk x y = true↔x = y:=by
 cases x;cases y
 simp [eqPk]
theorem qa2 (a b:List Pk) (ha:a.length < 4611686018427387904):Spc Tryz.prog wC [vPs a,vPs b] [] (vB (ql5 a b)) []:=by
 refine qd WL mixm (by simp) fun e _ hst=>qk ?_
 unfold kX
 simp only [tZ,↓un_u,simprocAttr,bne_iff_ne,bne_eq_false_iff_eq]
 refine ⟨fun h=>?_,fun h=>?_⟩
 ·rw [ql5,qV8 (by omega)]
  exact .oA [] []
 have hl:a.length = b.length:=by omega
 refine qw mixm (α:=Nat) [5] (fun i=>i≤a.length∧(ql5 (a.take i) (b.take i) = true)) (fun i=>[(5,vI i)]) (fun i=>[]) (fun i=>a.length - i) 0 ⟨by omega,?_⟩ ?_ fun i hi=>?_
 ·rfl
 ·exact .oA [] []
 simp only [tZ,↓un_u,simprocAttr,decide_eq_true_eq,decide_eq_false_iff_not]
 refine ⟨fun h=>?_,fun h=>?_⟩
 ·have hib:i < b.length:=by omega
  have hi2:i < a.length:=by omega
  have hwi:=qo (i:=i) (by omega)
  simp only [tZ,↓un_u,simprocAttr,Int.toNat_natCast,qe hi2,hwi,qe hib]
  rw [show (a[i].col == b[i].col && a[i].lev == b[i].lev) = eqPk a[i] b[i] from rfl]
  refine ⟨by omega,by omega,by kernel_rfl,fun h3=>?_,fun h3=>⟨i + 1,⟨by omega,?_⟩,by omega,?_⟩⟩
  ·rw [ql5,qL9 (i:=i) hl (by omega) h3]
   exact .oA [] []
  ·rw [ql5,qt1 hi2 hib,← ql5,hi.2]
   simpa using h3
  ·exact .oA [] []
 ·have hi2:i = a.length:=by omega
  subst hi2
  have h3:=hi.2
  rw [List.take_length,List.take_of_length_le (by omega)] at h3
  rw [h3]
  exact .oA [] []
end Go.Proofs
namespace Go.Proofs
open Go Go.TL
theorem za8 {s:Sch} (h:SchOk s) {i:Nat} (hi:i < s.cols.length) (h2:(qh s i).kind = 2):(qE s i).length≤60:=by
 obtain ⟨d1,d2⟩:=h.cdl hi h2
 obtain ⟨_,d5,d6⟩:=zU d2
 unfold qE atL
 rw [if_neg (by rw [d2];simp),List.length_map]
 have:=List.length_filter_le (fun i=>(dep (qH s i).codes i:Int) == zj (qH s i) - 1) (List.range (qH s i).codes.length)
 refine Nat.le_trans (List.length_filter_le _ _) ?_
 rw [List.length_range];exact d6
theorem qW7 (s:Sch) (i lev:Nat):divB s i lev lev = true:=by unfold divB;rw [if_pos (by omega)]
theorem Wi {s:Sch} {c:Int} (h:schE s = 0):finI s c≤59:=by
 by_cases h0:0≤finI s c
 ·obtain ⟨_,h1,h2,h3⟩:=ZF h0
  rw [h3]
  split
  ·have:=qw7 (l:=qH s c.toNat);omega
  ·rename_i h4
   have hok:=zq h
   by_cases e:(qh s c.toNat).widths.length = 0
   ·omega
   ·have:=hok.wid (i:=c.toNat) (by omega) (by omega) h4 (lev:=1) (by omega)
    omega
 ·omega
end Go.Proofs
namespace Go.Proofs
open Go Go.TL
abbrev cnT (c:Cnd):T:=.agg [vI c.op,vI c.col,vI c.code,vI c.lo,vI c.hi,vCs c.kids]
theorem zA4 (c:Cnd):(cndT c).cells.length = 6∧imL (cndT c).cells = true:=by rw [wU];exact ⟨rfl,rfl⟩
theorem zr0 {α:Type} {l:List α} {i:Nat} (h:i < l.length):l.drop i = l[i] :: l.drop (i + 1):=List.drop_eq_getElem_cons h
theorem qt3:∀ (l:List Cnd) (k:Cnd),Qm (l ++ [k]) = max (Qm l) (depC k)
 | [],k=>by simp [Qm]
 | x :: r,k=>by rw [List.cons_append,Qm,qt3 r k,Qm];omega
theorem qt4:∀ (l:List Cnd) (i:Nat),Qm (l.take i)≤Qm l
 | [],i=>by simp
 | x :: r,0=>by simp [Qm]
 | x :: r,i + 1=>by rw [List.take_succ_cons,Qm,Qm];have:=qt4 r i;omega
theorem qx0:∀ {l:List Cnd} {m n:Int},n≤m→yf l m n < m→n + l.length≤yf l m n∧∀ k∈l,∃ m',1≤m'∧m'≤m - n∧cntC k m' < m'
 | [],m,n,_,h=>by rw [yf];simp
 | x :: r,m,n,h1,h=>by
   rw [yf] at h ⊢
   split at h
   ·rename_i h2
    rw [if_pos h2]
    have h3:=qt2 x (m - n) (by omega)
    obtain ⟨h4,h5⟩:=qx0 (l:=r) (by omega) h
    refine ⟨by rw [List.length_cons];omega,fun k hk=>?_⟩
    rcases List.mem_cons.1 hk with e | hk
    ·subst e
     exact ⟨m - n,by omega,by omega,by omega⟩
    ·obtain ⟨m',a,b,c⟩:=h5 k hk
     exact ⟨m',a,by omega,c⟩
   ·omega
end Go.Proofs
namespace Go.Proofs
open Go Go.TL
set_option maxRecDepth 4000
set_option maxHeartbeats 8000000
theorem qm2:∀ {s:Sch} {l:List Cnd} {i:Nat} (h:i < l.length),Kv s (l.take i) = 0→nodE s l[i]≠0→Kv s l = nodE s l[i]
 | s,x :: r,0,h,_,h2=>by
   have h2:nodE s x≠0:=h2
   rw [Kv,if_pos h2];rfl
 | s,x :: r,i + 1,h,h1,h2=>by
   rw [List.take_succ_cons,Kv] at h1
   split at h1
   ·rename_i h3;exact absurd h1 h3
   ·rename_i h3
    rw [Kv,if_neg h3]
    exact qm2 (l:=r) (i:=i) (by simpa using h) h1 h2
theorem qt5:∀ {s:Sch} {l:List Cnd} {k:Cnd},Kv s l = 0→nodE s k = 0→Kv s (l ++ [k]) = 0
 | s,[],k,_,h=>by simp [Kv,h]
 | s,x :: r,k,h1,h2=>by
   rw [Kv] at h1
   split at h1
   ·rename_i h3;exact absurd h1 h3
   ·rename_i h3
    rw [List.cons_append,Kv,if_neg h3]
    exact qt5 h1 h2
end Go.Proofs
namespace Go.Proofs
open Go Go.TL
set_option maxHeartbeats 4000000
theorem qa3 {s:Sch} {c:Cnd} (h:chkC s c = 0):schE s = 0∧cntC c 41 < 41∧depC c≤10∧nodE s c = 0:=by
 unfold chkC at h
 split at h
 ·rename_i h1;exact absurd h h1
 rename_i h1
 split at h
 ·cases h
 rename_i h2
 split at h
 ·cases h
 rename_i h3
 exact ⟨Classical.byContradiction h1,by omega,by omega,h⟩
theorem qx1:∀ c m,1≤m→cntC c m < m→((atsC c).length:Int)≤cntC c m:=by
 refine Cnd.ind' fun c ih m hm h=>?_
 have hc:=qt2 c m hm
 rw [qw8]
 split
 ·simp;omega
 ·rw [qa0] at h ⊢
  have key:∀ l:List Cnd,(∀ k∈l,k∈c.kids)→∀ n,1≤n→n≤m→yf l m n < m→n + (QY l).length≤yf l m n:=by
   intro l
   induction l with
   | nil=>intro _ n h1 h2 _;rw [yf,QY];simp
   | cons k r ihl=>
     intro hk n h1 h2 h3
     rw [yf] at h3 ⊢
     rw [QY,List.length_append]
     split at h3
     ·rename_i h4
      rw [if_pos h4]
      have c1:=qt2 k (m - n) (by omega)
      have c2:=qw9 r m (n + cntC k (m - n)) (by omega)
      have c3:=ih k (hk k (by simp)) (m - n) (by omega) (by omega)
      have c4:=ihl (fun x hx=>hk x (List.mem_cons_of_mem _ hx)) (n + cntC k (m - n)) (by omega) (by omega) h3
      omega
     ·omega
  have:=key c.kids (fun k hk=>hk) 1 (by omega) hm h
  omega
theorem ZG:∀ (l:List Cnd) (i:Nat),(QY (l.take i)).length≤(QY l).length
 | [],i=>by simp
 | x :: r,0=>by simp [QY]
 | x :: r,i + 1=>by rw [List.take_succ_cons,QY,QY,List.length_append,List.length_append];have:=ZG r i;omega
theorem zr1 (l:List Cnd):ImXs 6 (l.map cndT):=qz zA4 l
theorem zr2 {st:Sto} {ρ:Ren} {B:List Nat} (l:List Cnd):ltXs st ρ B 6 (l.map cndT) (l.map cndT):=yd (zr1 l)
end Go.Proofs
