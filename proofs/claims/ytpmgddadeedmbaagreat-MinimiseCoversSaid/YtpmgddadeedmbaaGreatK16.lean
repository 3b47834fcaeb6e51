/- A part of the proof: trees of Go values, short forms, contracts. -/
import Derived.WalkKit
import Derived.Still
import Derived.MapKept
import GoSem.Builtin.Cap
import Derived.Laws.Externs
import GoSem.Extern.SlicesOverlaps
import Derived.Carry
import Derived.ProofKit
import Derived.OpenShut
import Derived.HandedShaped
import Derived.Lay
import Derived.LaidLaws
import Derived.MakeChecks
import Derived.SevenTiedAt
import Derived.Test.YtpmgddadeedmbaaGreatChecked
import Derived.Test.YtpmgddadeedmbaaGreatK15
set_option linter.unusedSimpArgs false
set_option linter.unusedVariables false
namespace Go.Proofs
open Go Go.TL
set_option maxHeartbeats 4000000
theorem qH6 (col lev:Int):∀ (l:List Pk) (x:List Pk×Bool),(l.foldl (qp5 col lev) x).1.length + (if (l.foldl (qp5 col lev) x).2 = true then 0 else 1)≤x.1.length + (if x.2 = true then 0 else 1) + l.length
 | [],x=>Nat.le_refl _
 | p :: r,x=>by
   have h:=qH6 col lev r (qp5 col lev x p)
   have h2:(qp5 col lev x p).1.length + (if (qp5 col lev x p).2 = true then 0 else 1)≤x.1.length + (if x.2 = true then 0 else 1) + 1:=by
    unfold qp5
    obtain ⟨a,b⟩:=x
    dsimp only
    split <;> split <;> cases b <;> simp_all <;> omega
   rw [List.foldl_cons,List.length_cons]
   omega
theorem Ym (l:List Pk) (col lev:Int):(Kw l col lev).length≤l.length + 1:=by
 have h:=qH6 col lev l ([],decide (lev≤0))
 unfold Kw
 dsimp only at h ⊢
 split
 ·simp_all
  split at h <;> omega
 ·rename_i k
  rw [if_neg k] at h
  rw [List.length_append]
  simp at h ⊢
  split at h <;> omega
theorem qp6 (a b:List Pk) (ha:a.length < 4611686018427387904) (hb:b.length < 4611686018427387904):Spc Tryz.prog QB [vPs a,vPs b] [] (vB (covB a b)) []:=by
 refine qd qk0 mixm (by simp) fun e _ hst=>qk ?_
 unfold yZ
 refine sW ?_
 refine qw mixm (α:=Nat) [5] (fun i=>i≤a.length∧(covB (a.take i) b = true)) (fun i=>[(5,vI i)]) (fun i=>[]) (fun i=>a.length - i) 0 ⟨by omega,?_⟩ ?_ fun i hi=>?_
 ·rfl
 ·exact .oA [] []
 simp only [tZ,↓un_u,simprocAttr,decide_eq_true_eq,decide_eq_false_iff_not]
 refine ⟨fun h=>?_,fun h=>?_⟩
 ·have hi2:i < a.length:=by omega
  have hwi:=qo (i:=i) (by omega)
  refine qw mixm (α:=Nat) [6,7] (fun k=>k≤b.length) (fun k=>[(6,vB ((b.take k).any fun y=>(y.col == a[i].col) && decide (y.lev≥a[i].lev))),(7,vI k)]) (fun k=>[]) (fun k=>b.length - k) 0 (by omega) ?_ fun k hk=>?_
  ·exact .oA [] []
  refine sD ?_
  refine ⟨fun h4=>?_,fun h4=>?_⟩
  ·have hk2:k < b.length:=by omega
   have hwk:=qo (i:=k) (by omega)
   simp only [tZ,↓un_u,simprocAttr,Int.toNat_natCast,qe hi2,qe hk2,hwk]
   refine ⟨fun _=>by omega,fun _=>by omega,fun _=>by omega,fun _=>by omega,by kernel_rfl,k + 1,by omega,by omega,?_⟩
   rw [qS hk2,List.any_append,List.any_cons,List.any_nil,Bool.or_false]
   exact .oA [] []
  ·have hkl:k = b.length:=by omega
   subst hkl
   rw [List.take_length]
   have hcs:covB (a.take (i + 1)) b = (covB (a.take i) b && b.any fun y=>(y.col == a[i].col) && decide (y.lev≥a[i].lev)):=by
    unfold covB
    rw [qS hi2,List.all_append]
    simp
   simp only [tZ,↓un_u,simprocAttr,Bool.not_eq_true',Bool.not_eq_false',hwi]
   refine ⟨fun h5=>?_,fun h5=>?_⟩
   ·have:covB a b = false:=List.all_eq_false.2 ⟨_,List.getElem_mem hi2,by rw [h5];simp⟩
    rw [this]
    exact .oA [] []
   ·refine ⟨i + 1,⟨by omega,by rw [hcs,hi.2,h5];rfl⟩,by omega,?_⟩
    exact .oA [] []
 ·have hi2:i = a.length:=by omega
  subst hi2
  have h3:=hi.2
  rw [List.take_length] at h3
  rw [h3]
  exact .oA [] []
inductive SmC:Cnd→Prop
 | mk (c:Cnd) (h1:c.kids.length < 4611686018427387904) (h2:∀ k∈c.kids,SmC k):SmC c
end Go.Proofs
namespace Go.Proofs
open Go Go.TL
set_option maxHeartbeats 4000000
theorem Wj {s:Sch} (hE:schE s = 0) {i:Nat} (h1:0 < i) (h2:i < s.cols.length) (hk:(qh s i).kind = 2) {v:Int} (hv:v∈qE s i):qG s i (finI s i) v = v:=by
 have hok:=zq hE
 obtain ⟨d1,d2⟩:=hok.cdl h2 hk
 have hf:finI s i = zj (qH s i) - 1:=by
  rw [finI,if_neg (by omega),Int.toNat_natCast,if_pos hk]
 have hh:=QX hk d2 hv
 obtain ⟨j,j1,j2,rfl⟩:=(zq5 d2).1 hv
 rw [qG,if_neg,Int.toNat_natCast,if_pos hk,if_neg (by rw [hh];simp),upC,if_neg,hf,← j2,Int.toNat_natCast,Int.toNat_natCast,zq6 (by omega)]
 ·rw [hf,← j2,Int.toNat_natCast];omega
 ·rw [Bool.not_eq_false,KJ,hf,← j2];omega
theorem zM5 {s:Sch} (hE:schE s = 0) {c:Cnd} (hnd:NdOk s c) (ha:isAt c = true):0≤finI s c.col∧decB s c (finI s c.col).toNat = true:=by
 have hok:=zq hE
 have hlv:∀ k,isB s c.col k = true→2≤k→∃ i:Nat,c.col = i∧0 < i∧i < s.cols.length∧(qh s i).kind = k:=fun k hb hk=>by
  obtain ⟨b1,b2,b3⟩:=Qn.1 hb
  obtain ⟨i,hci⟩:=Int.eq_ofNat_of_zero_le b1
  rw [hci,Int.toNat_natCast] at b3
  refine ⟨i,hci,?_,by omega,b3⟩
  refine Nat.pos_of_ne_zero fun e=>?_
  subst e
  have:=hok.c0
  omega
 have hm:∀ i:Nat,0 < i→i < s.cols.length→(qh s i).kind = 3→finI s i = (qh s i).widths.length∧1≤(qh s i).widths.length:=fun i h1 h2 h3=>by
  refine ⟨by rw [finI,if_neg (by omega),Int.toNat_natCast,if_neg (by omega)],?_⟩
  have:=(zA (hok.cs i h2)).2.2.2.2 h3
  unfold measE at this
  grind
 have hop:c.op = 2∨c.op = 3∨c.op = 4:=by
  unfold isAt at ha
  simp only [Bool.or_eq_true,beq_iff_eq] at ha
  omega
 rcases hop with h | h | h
 ·obtain ⟨i,hci,h1,h2,hk⟩:=hlv 2 (hnd.under h).1 (by omega)
  obtain ⟨d1,d2⟩:=hok.cdl h2 hk
  have hf:finI s i = zj (qH s i) - 1:=by
   rw [finI,if_neg (by omega),Int.toNat_natCast,if_pos hk]
  have hf0:0≤finI s i:=by rw [hf,qW3 d2];omega
  rw [hci]
  refine ⟨hf0,?_⟩
  rw [decB,if_pos h,hci,Int.toNat_natCast,ql7,List.all_eq_true]
  intro j hj
  rw [List.mem_range] at hj
  rw [List.all_eq_true]
  intro k hk2
  rw [List.mem_range] at hk2
  have e:(((finI s i).toNat:Nat):Int) = finI s i:=by omega
  rw [decP,hci,Int.toNat_natCast,e,qr hj,qr (by omega),Wj hE h1 h2 hk (List.getElem_mem _),Wj hE h1 h2 hk (List.getElem_mem _)]
  grind
 ·obtain ⟨i,hci,h1,h2,hk⟩:=hlv 3 (hnd.between h).1 (by omega)
  obtain ⟨m1,m2⟩:=hm i h1 h2 hk
  have hw:=hok.wid h2 h1 (by omega) (lev:=(qh s i).widths.length) (by omega)
  rw [hci,m1]
  refine ⟨by omega,?_⟩
  rw [decB,if_neg (by omega),if_neg (by omega),hci,Int.toNat_natCast,Int.toNat_natCast]
  dsimp only
  rw [if_neg (by omega),hw.2.2.2.2.2.2.2]
  simp
 ·obtain ⟨i,hci,h1,h2,hk⟩:=hlv 3 (hnd.miss h).1 (by omega)
  obtain ⟨m1,m2⟩:=hm i h1 h2 hk
  rw [hci,m1]
  refine ⟨by omega,?_⟩
  rw [decB,if_neg (by omega),if_pos h,Int.toNat_natCast]
  exact decide_eq_true (by omega)
theorem qm3 {s:Sch} (hE:schE s = 0) {c:Cnd} (hnd:NdOk s c) (ha:isAt c = true):(decN s c:Int)≤finI s c.col∧decB s c (decN s c) = true∧(∀ m,m < decN s c→decB s c m = false):=by
 obtain ⟨h1,h2⟩:=zM5 hE hnd ha
 have h3:=Wi (c:=c.col) hE
 obtain ⟨a,b,_,d⟩:=Wh h2 64 0 (by omega) (by omega)
 unfold decN
 exact ⟨by omega,a,fun m hm=>d m (by omega) hm⟩
def qH7 (s:Sch):List Pk→Cnd→List Pk:=fun l a=>Kw l a.col (decN s a)
theorem qH8 (s:Sch):∀ (L:List Cnd) (l:List Pk),(L.foldl (qH7 s) l).length≤l.length + L.length
 | [],l=>Nat.le_refl _
 | a :: L,l=>by
   have h1:=qH8 s L (qH7 s l a)
   have h2:=Ym l a.col (decN s a)
   rw [List.foldl_cons,List.length_cons]
   unfold qH7 at h1 ⊢
   omega
end Go.Proofs
namespace Go.Proofs
open Go Go.TL
set_option maxHeartbeats 4000000
end Go.Proofs
namespace Go.Proofs
open Go Go.TL
set_option maxHeartbeats 4000000
theorem qm4:∀ (m l:List Pk),(QM l m).length≤l.length + m.length
 | [],l=>Nat.le_refl _
 | p :: m,l=>by
   have h1:=qm4 m (Kw l p.col p.lev)
   have h2:=Ym l p.col p.lev
   unfold QM at h1 ⊢
   rw [List.foldl_cons,List.length_cons]
   omega
theorem qm5 (s:Sch) (c:Cnd):(jq s c).length≤40:=by
 unfold jq
 split
 ·simp
 ·rename_i h
  obtain ⟨hE,k2,k3,k4⟩:=qa3 (Classical.byContradiction h)
  have h1:=qx1 c 41 (by omega) k2
  have h2:=qH8 s (atsC c) []
  simp only [List.length_nil] at h2
  unfold qH7 at h2
  omega
structure QstOk (s:Sch) (q:Qst):Prop where
 sch:schE s = 0
 kind:1≤q.kind∧q.kind≤3
 filt:chkC s q.filt = 0
 dims:q.kind = 1→Jd s q.dims = 0∧(q.meas = -1∨isB s q.meas 3 = true)
 nd:q.dims.length≤3
 terms:q.kind = 2→isB s q.meas 3 = true∧QA s q.meas q.terms = 0
 nt:q.terms.length≤3
 event:q.kind = 3→isB s q.meas 3 = true∧0≤(qh s q.meas.toNat).low∧chkC s q.event = 0
 d0:q.kind≠1→q.dims = []
 t0:q.kind≠2→q.terms = []
 e0:q.kind≠3→Yk q.event cnd0 = true
theorem Wk {s:Sch} {q:Qst} (h:qstE s q = 0):QstOk s q:=by
 unfold qstE at h
 split at h
 ·rename_i h1;exact absurd h h1
 rename_i h1
 split at h
 ·cases h
 rename_i h2
 split at h
 ·cases h
 rename_i h3
 split at h
 ·rename_i h4;exact absurd h h4
 rename_i h4
 split at h
 ·rename_i h5;exact absurd h h5
 rename_i h5
 split at h
 ·cases h
 rename_i h6
 have hp:Za s q = 0:=Classical.byContradiction h5
 unfold Za at hp
 have hd:q.kind = 1→Jd s q.dims = 0∧(q.meas = -1∨isB s q.meas 3 = true):=fun k=>by
  rw [if_pos k] at hp
  grind
 have ht:q.kind = 2→isB s q.meas 3 = true∧QA s q.meas q.terms = 0:=fun k=>by
  rw [if_neg (by omega),if_pos k] at hp
  grind
 have hd0:q.kind≠1→q.dims = []:=fun k=>List.length_eq_zero_iff.1 (by omega)
 have ht0:q.kind≠2→q.terms = []:=fun k=>List.length_eq_zero_iff.1 (by omega)
 refine ⟨Classical.byContradiction h1,by omega,Classical.byContradiction h4,hd,?_,ht,?_,fun k=>?_,hd0,ht0,fun k=>?_⟩
 ·by_cases k:q.kind = 1
  ·have:=(hd k).1
   unfold Jd at this
   grind
  ·rw [hd0 k];simp
 ·by_cases k:q.kind = 2
  ·have:=(ht k).2
   unfold QA at this
   grind
  ·rw [ht0 k];simp
 ·rw [if_neg (by omega),if_neg (by omega)] at hp
  grind
 ·grind
theorem qt6 (s:Sch):∀ (m l:List Pk),(m.foldl (fun l p=>Kw l p.col (wt s p.col p.lev)) l).length≤l.length + m.length
 | [],l=>Nat.le_refl _
 | p :: m,l=>by
   have h1:=qt6 s m (Kw l p.col (wt s p.col p.lev))
   have h2:=Ym l p.col (wt s p.col p.lev)
   rw [List.foldl_cons,List.length_cons]
   omega
theorem qt7 (s:Sch) (q:Qst):∀ (m:List Nat) (l:List Pk),(m.foldl (qc4 s q) l).length≤l.length + m.length
 | [],l=>Nat.le_refl _
 | k :: m,l=>by
   have h1:=qt7 s q m (qc4 s q l k)
   have h2:(qc4 s q l k).length≤l.length + 1:=by
    unfold qc4
    split
    ·exact Ym _ _ _
    ·omega
   rw [List.foldl_cons,List.length_cons]
   omega
def zr3 (s:Sch) (q:Qst):List Pk:=if q.kind = 3 then QM (jq s q.filt) (jq s q.event) else jq s q.filt
theorem za9 (s:Sch) (q:Qst):(zr3 s q).length≤80:=by
 have h1:=qm5 s q.filt
 have h2:=qm5 s q.event
 have h3:=qm4 (jq s q.event) (jq s q.filt)
 unfold zr3
 split <;> omega
theorem qm6 (s:Sch) (q:Qst):(kI s q).length≤100:=by
 unfold kI zM4
 split
 ·simp
 ·rename_i h
  have hq:=Wk (Classical.byContradiction h)
  have h1:=za9 s q
  unfold zr3 at h1
  have h2:=qt6 s q.dims (if q.kind = 3 then QM (jq s q.filt) (jq s q.event) else jq s q.filt)
  have h3:=qt7 s q (List.range (s.cols.length - 1)) (q.dims.foldl (fun l p=>Kw l p.col (wt s p.col p.lev)) (if q.kind = 3 then QM (jq s q.filt) (jq s q.event) else jq s q.filt))
  have h4:=(zq hq.sch).nc
  have h5:=hq.nd
  rw [List.length_range] at h3
  omega
def zA5 (s:Sch):List Pk→Qst→List Pk:=fun l q=>QM l (kI s q)
theorem qH9 (s:Sch):∀ (m:List Qst) (l:List Pk),(m.foldl (zA5 s) l).length≤l.length + 100 * m.length
 | [],l=>Nat.le_refl _
 | q :: m,l=>by
   have h1:=qH9 s m (zA5 s l q)
   have h2:=qm4 (kI s q) l
   have h3:=qm6 s q
   rw [List.foldl_cons,List.length_cons]
   unfold zA5 at h1 ⊢
   omega
theorem qI0 (s:Sch) (d:Dcl):(jA s d).length≤800:=by
 unfold jA
 split
 ·simp
 ·rename_i h
  have hd:=ql9 (Classical.byContradiction h)
  have:=qH9 s d.qs []
  simp only [List.length_nil] at this
  unfold zA5 at this
  omega
end Go.Proofs
namespace Go.Proofs
open Go Go.TL
def hd (r:List Int):Int:=r.getD 0 0
def putS (row:List Int):List (List Int)×Bool→List Int→List (List Int)×Bool:=fun x r=>
 if hd r = hd row then x
 else if hd r > hd row∧x.2 = false then (x.1 ++ [row] ++ [r],true)
 else (x.1 ++ [r],x.2)
def putR (l:List (List Int)) (row:List Int):List (List Int):=
 let x:=l.foldl (putS row) ([],false)
 if x.2 then x.1 else x.1 ++ [row]
def atR (id:Int) (r:List Int):Bool:=decide (0 < r.length) && (hd r == id)
def zR6 (s:Src) (id:Int):Int:=if s.rows.any (atR id) = true then (s.rows.findIdx (atR id):Int) else -1
def asc2 (l:List Int) (i:Nat):Bool:=decide (i = 0) || decide (l.getD (i - 1) 0 < l.getD i 0)
def zM6 (s:Src):Bool:=(List.range s.rows.length).all fun i=>(rowE s.sch (s.rows.getD i []) == 0) && (decide (i = 0) || decide (hd (s.rows.getD (i - 1) []) < hd (s.rows.getD i [])))
def zR7 (s:Src):Bool:=(List.range s.gone.length).all fun i=>decide (1≤s.gone.getD i 0) && decide (s.gone.getD i 0≤1048575) && asc2 s.gone i && decide (zR6 s (s.gone.getD i 0) < 0)
def srcB (s:Src):Bool:=(schE s.sch == 0) && decide (s.rows.length≤200) && decide (s.gone.length≤300) && decide (0≤s.ver) && decide (s.ver≤300) && zM6 s && zR7 s
end Go.Proofs
namespace Go.Proofs
open Go Go.TL
def AscR (l:List (List Int)):Prop:=l.Pairwise fun a b=>hd a < hd b
end Go.Proofs
namespace Go.Proofs
open Go Go.TL
structure SrcOk (s:Src):Prop where
 sch:schE s.sch = 0
 nr:s.rows.length≤200
 ng:s.gone.length≤300
 ver:0≤s.ver∧s.ver≤300
 rows:∀ r∈s.rows,rowE s.sch r = 0
 asc:AscR s.rows
 gone:∀ g∈s.gone,1≤g∧g≤1048575∧zR6 s g < 0
 gasc:s.gone.Pairwise fun a b=>a < b
end Go.Proofs
namespace Go.Proofs
open Go Go.TL
set_option maxHeartbeats 4000000
open So
end Go.Proofs
namespace Go.Proofs
open Go Go.TL
set_option maxHeartbeats 4000000
open So
end Go.Proofs
namespace Go.Proofs
open Go Go.TL
set_option maxRecDepth 4000
def iter {α:Type} (f:α→α):Nat→α→α
 | 0,x=>x
 | n + 1,x=>f (iter f n x)
def tie (p:Int×Int):Int:=p.1 * 1024 + p.2
def cut (n:Int):Int×Int:=(n / 1024,n % 1024)
end Go.Proofs
namespace Go.Proofs
open Go Go.TL
set_option maxHeartbeats 4000000
open So
def drw0 (seed id:Int):Int:=IntKind.u64.wrap (IntKind.u64.wrap (IntKind.u64.wrap (IntKind.u64.wrap seed * 2654435761) + IntKind.u64.wrap (IntKind.u64.wrap id * 40503)) + 97)
def drwA (h:Int):Int:=IntKind.u64.wrap (IntKind.u64.wrap (h * 6364136223846793005) + 1442695040888963407)
def drwX (h:Int):Int:=xorI .u64 (drwA h) (shrI .u64 (drwA h) 29)
def drwI (seed id:Int):Int:=IntKind.i64.wrap (shrI .u64 (iter drwX 3 (drw0 seed id)) 32)
def inS (x:Smp) (id:Int):Bool:=(smpE x == 0) && decide (1≤id) && decide (id≤1048575) && decide ((drwI x.seed id).tmod x.of < x.part)
def ownP (s:Src) (d:Dcl) (r:List Int):Bool:=(zT5 s.sch d.coh r == 1) && inS d.smp (hd r)
def ownR (s:Src) (d:Dcl):List (List Int):=if srcB s = false∨dclE s.sch d≠0 then [] else s.rows.filter (ownP s d)
def ownS (s:Src) (d:Dcl):List Int:=(ownR s d).map hd
end Go.Proofs
namespace Go.Proofs
open Go Go.TL
set_option maxHeartbeats 4000000
def buildE (s:Src) (d:Dcl) (l:List Pk) (k:Int):Int:=if srcB s = false then 13 else if qH5 s.sch d l≠0 then qH5 s.sch d l else if k < 0∨k≥1152921504606846976 then 2 else 0
end Go.Proofs
namespace Go.Proofs
open Go Go.TL
set_option maxRecDepth 4000
set_option maxHeartbeats 4000000
end Go.Proofs
namespace Go.Proofs
open Go Go.TL
set_option maxRecDepth 4000
set_option maxHeartbeats 4000000
end Go.Proofs
namespace Go.Proofs
open Go Go.TL
set_option maxRecDepth 4000
set_option maxHeartbeats 4000000
theorem DrS.col {s:Sch} (h:DrS s) {i:Nat} (hi:i < s.cols.length) (hk:(qh s i).kind = 3):∃ n,DrM n (qh s i):=by
 obtain ⟨ms,hc,h1,h3⟩:=h.cs
 have key:∀ (pre:List Col) (n:Nat),(∀ c∈pre,c.kind≠3)→s.cols = pre ++ ms→(∀ j (hj:j < ms.length),DrM (n + j) ms[j])→∃ n,DrM n (qh s i):=by
  intro pre n hp he hm
  rw [qh,qr hi] at hk ⊢
  by_cases c:i < pre.length
  ·have e:s.cols[i] = pre[i]:=by simp only [he];exact List.getElem_append_left c
   rw [e] at hk
   exact absurd hk (hp _ (List.getElem_mem c))
  ·have hl:i - pre.length < ms.length:=by rw [he,List.length_append] at hi;omega
   have e:s.cols[i] = ms[i - pre.length]:=by simp only [he];exact List.getElem_append_right (by omega)
   rw [e]
   exact ⟨_,hm _ hl⟩
 rcases hc with ⟨hc,hm⟩ | ⟨hc,hm⟩
 ·exact key [whoC,sexC] 2 (by simp [whoC,sexC]) (by rw [hc];rfl) hm
 ·exact key [whoC,sexC,jobC] 3 (by simp [whoC,sexC,jobC]) (by rw [hc];rfl) hm
theorem DrS.nl {s:Sch} (h:DrS s):s.lists.length = 2:=by
 obtain ⟨a,b,e,_⟩:=h.ls
 rw [e];rfl
structure DrX (x:Src):Prop where
 sch:DrS x.sch
 ok:SrcOk x
 gone:x.gone = []
 ver:x.ver = 0
end Go.Proofs
namespace Go.Proofs
open Go Go.TL
set_option maxRecDepth 4000
set_option maxHeartbeats 4000000
def zA6 (s:Sch) (kind:Int) (n:Nat):List Int:=List.map (fun i:Nat=>(i:Int)) ((List.range n).filter fun i=>(qh s i).kind == kind)
theorem qI1 (s:Sch) (kind:Int) (n:Nat):(zA6 s kind n).length≤n:=by
 unfold zA6
 rw [List.length_map]
 exact Nat.le_trans (List.length_filter_le _ _) (by simp)
def qI2 (s:Sch) (kind:Int):List Int:=zA6 s kind s.cols.length
theorem qm7 {s:Sch} {kind v:Int}:v∈qI2 s kind↔isB s v kind = true:=by
 unfold qI2 zA6
 rw [Qn]
 simp only [List.mem_map,List.mem_filter,List.mem_range,beq_iff_eq]
 constructor
 ·rintro ⟨i,⟨h1,h2⟩,rfl⟩;exact ⟨by omega,by omega,by rw [Int.toNat_natCast];exact h2⟩
 ·rintro ⟨h1,h2,h3⟩;exact ⟨v.toNat,⟨by omega,h3⟩,by omega⟩
theorem DrS.code {s:Sch} (h:DrS s):0 < (qI2 s 2).length∧(qI2 s 2).length≤8:=by
 have hnc:=(zq h.ok).nc
 have hl:=qI1 s 2 s.cols.length
 refine ⟨List.length_pos_of_mem (a:=1) (qm7.2 (Qn.2 ?_)),by unfold qI2;omega⟩
 obtain ⟨ms,hc,h1,h3⟩:=h.cs
 rcases hc with ⟨hc,hm⟩ | ⟨hc,hm⟩
 ·refine ⟨by omega,by rw [hc];simp;omega,by rw [qh,hc];rfl⟩
 ·refine ⟨by omega,by rw [hc];simp;omega,by rw [qh,hc];rfl⟩
theorem DrS.meas {s:Sch} (h:DrS s):0 < (qI2 s 3).length∧(qI2 s 3).length≤8:=by
 have hnc:=(zq h.ok).nc
 have hl:=qI1 s 3 s.cols.length
 refine ⟨?_,by unfold qI2;omega⟩
 obtain ⟨ms,hc,h1,h3⟩:=h.cs
 rcases hc with ⟨hc,hm⟩ | ⟨hc,hm⟩
 ·refine List.length_pos_of_mem (a:=2) (qm7.2 (Qn.2 ⟨by omega,by rw [hc];simp;omega,?_⟩))
  have:=(hm 0 h1).kind
  rw [qh,hc]
  show ((whoC :: sexC :: ms).getD 2 default).kind = 3
  rw [qr (by simp;omega)]
  exact this
 ·refine List.length_pos_of_mem (a:=3) (qm7.2 (Qn.2 ⟨by omega,by rw [hc];simp;omega,?_⟩))
  have:=(hm 0 h1).kind
  rw [qh,hc]
  show ((whoC :: sexC :: jobC :: ms).getD 3 default).kind = 3
  rw [qr (by simp;omega)]
  exact this
end Go.Proofs
namespace Go.Proofs
open Go Go.TL
set_option maxRecDepth 4000
set_option maxHeartbeats 8000000
mutual
def sizC:Cnd→Nat
 | .mk _ _ _ _ _ ks=>zR8 ks + 1
def zR8:List Cnd→Nat
 | []=>0
 | k :: r=>sizC k + zR8 r
end
structure CndOk (s:Sch) (n:Nat) (c:Cnd):Prop where
 ok:nodE s c = 0
 dep:depC c≤n + 1
 siz:sizC c + 1≤2 ^ (n + 1)
end Go.Proofs
namespace Go.Proofs
open Go Go.TL
set_option maxRecDepth 4000
set_option maxHeartbeats 8000000
structure DimOk (s:Sch) (L:List Int) (l:List Pk):Prop where
 cols:l.map (·.col) = L
 pick:∀ p∈l,ZE s p = 0
theorem DimOk.dims {s:Sch} {L:List Int} {l:List Pk} (h:DimOk s L l) (h1:1≤L.length) (h2:L.length≤3) (hn:L.Nodup) (hc:∀ v∈L,isB s v 2 = true):Jd s l = 0:=by
 have hl:l.length = L.length:=by rw [← h.cols,List.length_map]
 rw [Jd,if_neg (by omega)]
 refine ql8 fun i hi=>?_
 have hpi:pkAt l i = l[i]:=by rw [pkAt,qr hi]
 have hm:l[i]∈l:=List.getElem_mem hi
 rw [dimE,hpi,if_neg (by rw [h.pick _ hm];simp),if_neg (by rw [hc _ (by rw [← h.cols];exact List.mem_map_of_mem hm)];simp),if_neg]
 intro k
 obtain ⟨x,hx,e⟩:=List.any_eq_true.1 k
 obtain ⟨j,hj,rfl⟩:=List.mem_take_iff_getElem.1 hx
 rw [← h.cols] at hn
 have:=List.pairwise_iff_getElem.1 hn j i (by simp;omega) (by simp;omega) (by omega)
 simp only [List.getElem_map] at this
 exact this (beq_iff_eq.1 e)
theorem zM7 {s:Sch} (hE:schE s = 0) {v:Nat} (h:isB s v 2 = true∨isB s v 3 = true):1≤v∧v < s.cols.length∧0≤finI s v∧finI s v≤59:=by
 have hok:=zq hE
 have hb:∃ k,2≤k∧isB s v k = true:=by rcases h with h | h <;> exact ⟨_,by omega,h⟩
 obtain ⟨k,hk,hb⟩:=hb
 obtain ⟨_,b2,b3⟩:=Qn.1 hb
 rw [Int.toNat_natCast] at b3
 have hv:v≠0:=fun e=>by subst e;have:=hok.c0;omega
 refine ⟨by omega,by omega,?_,Wi hE⟩
 rw [finI,if_neg (by omega),Int.toNat_natCast]
 split
 ·rename_i h2
  have:=qW3 (hok.cdl (by omega) h2).2
  omega
 ·omega
end Go.Proofs
namespace Go.Proofs
open Go Go.TL
theorem kH (s:ByteArray):Spc Tryz.prog jg [vS s] [] (vB (ye s)) []:=by
 refine qd qw4 mixm (by simp) fun e _ hst=>qk ?_
 unfold Zz
 refine sW ?_
 refine ⟨fun h=>?_,fun h=>?_,fun h=>?_,fun h=>?_⟩
 ·simp at h
  omega
 ·simp at h
  omega
 ·have:ye s = false:=by unfold ye zz4;rw [h];rfl
  rw [this]
  exact .oA [] []
 have hd:zz4 s = false:=h
 have hs16:s.data.toList.length≤16:=by
  unfold zz4 at hd
  simp only [Bool.or_eq_false_iff,decide_eq_false_iff_not] at hd
  have:s.size = s.data.toList.length:=by rw [Array.length_toList];rfl
  omega
 refine qw mixm (α:=Nat) [26] (fun i=>i≤s.data.toList.length∧((s.data.toList.take i).any zq1 = false)) (fun i=>[(26,vI i)]) (fun i=>[]) (fun i=>s.data.toList.length - i) 0 ⟨by omega,?_⟩ ?_ fun i hi=>?_
 ·rfl
 ·exact .oA [] []
 refine sD ?_
 refine ⟨fun h5=>?_,fun h5=>?_⟩
 ·have hi2:i < s.data.toList.length:=by omega
  have hwi:=qo (i:=i) (by omega)
  simp only [tZ,↓un_u,simprocAttr,Int.toNat_natCast,qe hi2,hwi,Qv]
  refine ⟨by omega,fun h6=>?_,fun h6=>?_⟩
  ·have hb:zq1 s.data.toList[i] = true:=h6
   have:ye s = false:=by
    unfold ye
    rw [show s.data.toList.any zq1 = true from List.any_eq_true.2 ⟨_,List.getElem_mem hi2,hb⟩]
    simp
   rw [this]
   exact .oA [] []
  ·have hb:zq1 s.data.toList[i] = false:=h6
   refine ⟨i + 1,⟨by omega,wY hi2 hi.2 hb⟩,by omega,?_⟩
   exact .oA [] []
 ·have h3:=hi.2
  have:i = s.data.toList.length:=by omega
  rw [this,List.take_length] at h3
  have hn:ye s = !(resW.contains s.toList):=by unfold ye;rw [hd,h3];rfl
  rw [hn]
  simp only [resW,List.contains_cons,List.contains_nil]
  repeat' (first | with_reducible apply And.intro | with_reducible intro _)
  all_goals first
   | (exfalso;simp_all;done)
   | (simp only [*,Bool.true_or,Bool.or_true,Bool.false_or,Bool.or_false,Bool.not_true,Bool.not_false];exact .imR rfl rfl)
end Go.Proofs
namespace Go.Proofs
open Go Go.TL
set_option maxHeartbeats 8000000
def depL (cs:List Cod):List Int:=(List.range cs.length).map fun i=>(dep cs i:Int)
def depO (cs:List Cod) (i:Nat):List Int:=((List.range i).map fun i=>(dep cs i:Int)) ++ List.replicate (cs.length - i) 0
theorem Kb (cs:List Cod):(depL cs).length = cs.length:=by simp [depL]
theorem zA7 {cs:List Cod} {i:Nat} (h:i≤cs.length):(depO cs i).length = cs.length:=by simp [depO];omega
theorem zr4 (cs:List Cod):depO cs 0 = List.replicate cs.length 0:=by simp [depO]
theorem zA8 (cs:List Cod):depO cs cs.length = depL cs:=by simp [depO,depL]
theorem zA9 {cs:List Cod} {i:Nat} (h:i < cs.length) (v:Int) (hv:v = dep cs i):(depO cs i).set i v = depO cs (i + 1):=by
 unfold depO
 rw [List.set_append_right _ _ (by simp),List.length_map,List.length_range,Nat.sub_self,show cs.length - i = (cs.length - (i + 1)) + 1 by omega,List.replicate_succ,List.set_cons_zero,List.range_succ,List.map_append,List.append_assoc,hv]
 rfl
theorem zr5 {cs:List Cod} {i:Nat} (h:i < cs.length) (h0:dep cs i = 0):depO cs i = depO cs (i + 1):=by
 unfold depO
 rw [show cs.length - i = (cs.length - (i + 1)) + 1 by omega,List.replicate_succ,List.range_succ,List.map_append,List.append_assoc,List.map_cons,h0]
 rfl
theorem zM8 {cs:List Cod} {i k:Nat} (h:k < i) (hi:i≤cs.length):(depO cs i).getD k 0 = dep cs k:=by
 unfold depO
 rw [List.getD_eq_getElem?_getD,List.getElem?_append_left (by simp;omega),List.getElem?_map,List.getElem?_range (by omega)]
 rfl
theorem zH7 (n:Nat):List.replicate n (T.v (Value.int IntKind.i64 0)) = (List.replicate n (0:Int)).map vI:=by simp
structure ParR (cs:List Cod):Prop where
 ok:qp4 cs
 kid:∀ i,0 < i→i < cs.length→0≤parC cs i
 root:parC cs 0 < 0∨cs.length = 0
 len:cs.length≤60
theorem kj (l:CodL) (h:ParR l.codes):Spc Tryz.prog zO [cdlT l] [] (vIs (depL l.codes)) []:=by
 have hl:=h.len
 refine qd ql0 mixm (by simp) fun e _ hst=>qk ?_
 unfold Qh
 refine sW ?_
 refine ⟨by omega,?_⟩
 refine qw mixm (α:=Nat) [13] (fun i=>i≤l.codes.length) (fun i=>[(13,vI i)]) (fun i=>[(4096,.arr 2 [cdlT l] false),(8204,.arr 1 ((depO l.codes i).map vI) false)]) (fun i=>l.codes.length - i) 0 (by omega) ?_ fun i hi=>?_
 ·rw [zr4]
  refine .of [(4096,some 4096),(8204,some 8204)] [] rfl (by first | rfl | (rw [hst];rfl)) ?_ ?_
  all_goals (try simp only [tL,simprocAttr,List.map_append,List.map_cons,List.map_nil,List.cons_append,List.nil_append,Int.toNat_natCast,zH7])
  all_goals (try (repeat' (first | exact zh | (apply zB;intro _;exact ⟨rfl,rfl⟩) | (apply qz;intro _;exact ⟨rfl,rfl⟩) | with_reducible apply qQ | with_reducible refine qD ⟨rfl,rfl⟩ ?_ | exact qR | with_reducible apply qJ | with_reducible refine qW ⟨rfl,rfl,?_⟩ ?_ | with_reducible apply And.intro | exact qK rfl | exact qK (by assumption) | (refine ⟨⟨?_,rfl,?_,rfl,?_⟩,trivial⟩ <;> first | (simp;done) | (apply qz;intro _;exact ⟨rfl,rfl⟩)) | trivial | rfl | (rw [qo (by omega)]) | omega)))
 have hol:=zA7 (cs:=l.codes) hi
 refine sD ?_
 refine ⟨fun h2=>?_,fun h2=>?_⟩
 ·have hi2:i < l.codes.length:=by omega
  have hwi:=qo (i:=i) (by omega)
  have hp:=h.ok i hi2
  have hat:cdAt l.codes i = l.codes[i]:=by rw [cdAt,qr hi2]
  have hpar:l.codes[i].par = parC l.codes i:=by rw [parC,hat]
  simp only [tZ,↓un_u,simprocAttr,Int.toNat_natCast,qe hi2,hpar,gt_iff_lt,tD]
  refine ⟨by omega,fun h4=>?_,fun h4=>?_⟩
  ·have hk:=h.kid i (by omega) hi2
   have hdk:=ql3 h.ok hi2 hk
   obtain ⟨q,hq⟩:=Int.eq_ofNat_of_zero_le hk
   have hqi:q < i:=by omega
   have hq3:q < (depO l.codes i).length:=by omega
   have hq4:(depO l.codes i)[q] = dep l.codes q:=by
    have:=zM8 (cs:=l.codes) hqi hi
    rw [qr hq3] at this
    exact this
   have hdl:=ql4 h.ok q (by omega)
   have hwd:=qo (i:=dep l.codes q) (by omega)
   rw [hq,Int.toNat_natCast] at hdk
   have hi3:i < (depO l.codes i).length:=by omega
   have hset:=zA9 hi2 ((dep l.codes q + 1:Nat):Int) (by rw [hdk])
   simp only [tZ,↓un_u,simprocAttr,hq,Int.toNat_natCast,qe hq3,qe hi3,hq4,hwd,hwi,show ∀ a b:Int,repl (vI a) 0 (vI b) = vI b from fun _ _=>rfl]
   refine ⟨by omega,by omega,by omega,by omega,i + 1,by omega,by omega,?_⟩
   rw [← List.map_set,hset]
   exact .oA [(4096,some 4096),(8204,some 8204)] []
  ·have hz:i = 0:=by omega
   subst hz
   have hr:=h.root.resolve_right (by omega)
   have hn:=zr5 hi2 (qf9 hr)
   simp only [tZ,↓un_u,simprocAttr,hwi]
   refine ⟨1,by omega,by omega,?_⟩
   rw [← hn]
   exact .oA [(4096,some 4096),(8204,some 8204)] []
 ·have hil:i = l.codes.length:=by omega
  subst hil
  rw [zA8,Int.toNat_natCast]
  have hdl:=Kb l.codes
  exact .oA [] [8204]
def aboL (cs:List Cod) (i:Nat):List Bool:=(List.range cs.length).map fun (k:Nat)=>(cs.take i).any fun x=>x.par == (k:Int)
theorem ZH (cs:List Cod) (i:Nat):(aboL cs i).length = cs.length:=by simp [aboL]
theorem zr6 (cs:List Cod):aboL cs 0 = List.replicate cs.length false:=by
 rw [List.eq_replicate_iff]
 refine ⟨ZH cs 0,fun b hb=>?_⟩
 obtain ⟨k,_,rfl⟩:=List.mem_map.1 hb
 simp
theorem Yn {cs:List Cod} {i k:Nat} (h:k < (aboL cs i).length):(aboL cs i)[k] = (cs.take i).any fun x=>x.par == (k:Int):=by simp [aboL]
theorem zr7 {cs:List Cod} {i:Nat} (h:i < cs.length) (hp:cs[i].par < 0):aboL cs (i + 1) = aboL cs i:=by
 refine List.ext_getElem (by rw [ZH,ZH]) fun k h1 h2=>?_
 have h3:(cs[i].par == (k:Int)) = false:=beq_eq_false_iff_ne.2 (by omega)
 rw [Yn,Yn,qS h,List.any_append,List.any_cons,List.any_nil,h3]
 simp
theorem zB0 {cs:List Cod} {i p:Nat} (h:i < cs.length) (hp:cs[i].par = p):(aboL cs i).set p true = aboL cs (i + 1):=by
 refine List.ext_getElem (by rw [List.length_set,ZH,ZH]) fun k h1 h2=>?_
 rw [List.getElem_set,Yn,Yn,qS h,List.any_append,List.any_cons,List.any_nil,hp]
 by_cases e:p = k
 ·subst e;simp
 ·have:((p:Int) == (k:Int)) = false:=beq_eq_false_iff_ne.2 (by omega)
  rw [if_neg e,this]
  simp
theorem zB1 {cs:List Cod} {k:Nat} (h:k < (aboL cs cs.length).length):(aboL cs cs.length)[k] = !Yh cs k:=by
 rw [Yn,List.take_length,Yh,Bool.not_not]
theorem zR9 (n:Nat):List.replicate n (T.v (Value.bool false)) = (List.replicate n false).map vB:=by simp
def qM8 (cs:List Cod):List (ByteArray×Bool):=cs.map fun c=>(c.name,true)
theorem qI3 {nm:ByteArray}:∀ {cs:List Cod},(TL.look TL.eqS nm (qM8 cs)).getD false = cs.any fun x=>eqB x.name nm
 | []=>rfl
 | c :: cs=>by
   have h:TL.eqS nm c.name = eqB c.name nm:=by
    rw [Bool.eq_iff_iff,TL.eqS,eqB,beq_iff_eq,beq_iff_eq]
    exact ⟨fun h=>h.symm,fun h=>h.symm⟩
   simp only [qM8,List.map_cons,TL.look,List.any_cons,h]
   cases eqB c.name nm with
   | true=>rfl
   | false=>rw [if_neg (by simp),Bool.false_or];exact qI3
theorem qW8 {c:Cod}:∀ {cs:List Cod},(cs.any fun x=>eqB x.name c.name) = false→TL.asg TL.eqS c.name true (qM8 cs) = qM8 (cs ++ [c])
 | [],_=>rfl
 | x :: cs,h=>by
   rw [List.any_cons,Bool.or_eq_false_iff] at h
   have h1:TL.eqS c.name x.name = eqB x.name c.name:=by
    rw [Bool.eq_iff_iff,TL.eqS,eqB,beq_iff_eq,beq_iff_eq]
    exact ⟨fun h=>h.symm,fun h=>h.symm⟩
   simp only [qM8,List.map_cons,TL.asg,h1,h.1,List.cons_append]
   rw [if_neg (by simp)]
   congr 1
   exact qW8 h.2
theorem zS0 {cs:List Cod} (h:cdEs cs cs.length = 0) (hl:cs.length≤60):ParR cs:=by
 refine ⟨zR5 h,fun i h0 hi=>(qw5 (Yi h i hi)).2.2.2 h0,?_,hl⟩
 rcases Nat.eq_zero_or_pos cs.length with h0 | h0
 ·exact .inr h0
 ·have:=(qw5 (Yi h 0 h0)).2.2.1 rfl
  exact .inl (by omega)
theorem Yo {l:CodL} (h:lstE l = 0):ParR l.codes:=by
 obtain ⟨_,_,h3⟩:=zU h
 refine zS0 ?_ h3
 unfold lstE at h
 split at h
 ·cases h
 ·split at h
  ·cases h
  ·split at h
   ·cases h
   ·split at h
    ·rename_i h2;exact absurd h h2
    ·rename_i h4;exact Classical.byContradiction h4
theorem yM (l:CodL):Spc Tryz.prog jQ [cdlT l] [] (vI (lstE l)) []:=by
 refine qd qo5 mixm (by simp) fun e _ hst=>qk ?_
 unfold QH
 refine sW ?_
 refine C1.im (kH l.name) (by rfl) (by rfl) ?_
 simp only [tZ,↓un_u,simprocAttr,Bool.not_eq_true',Bool.not_eq_false']
 refine ⟨fun h=>?_,fun h1=>?_⟩
 ·rw [lstE,if_pos h]
  exact .oA [] []
 simp only [tZ,↓un_u,simprocAttr,beq_iff_eq,beq_eq_false_iff_ne]
 refine ⟨fun h=>?_,fun h2=>?_⟩
 ·rw [lstE,if_neg (by rw [h1];simp),if_pos (by omega)]
  exact .oA [] []
 refine sD ?_
 refine ⟨fun h=>?_,fun h3=>?_⟩
 ·rw [lstE,if_neg (by rw [h1];simp),if_neg (by omega),if_pos (by omega)]
  exact .oA [] []
 have hE1:cdEs l.codes l.codes.length≠0→lstE l = cdEs l.codes l.codes.length:=fun h=>by
  rw [lstE,if_neg (by rw [h1];simp),if_neg (by omega),if_neg (by omega),if_pos h]
 have hE2:cdEs l.codes l.codes.length = 0→lvs l.codes l.codes.length = none→lstE l = 5:=fun h k=>by
  rw [lstE,if_neg (by rw [h1];simp),if_neg (by omega),if_neg (by omega),if_neg (by rw [h];simp),k]
 have hE3:∀ v,cdEs l.codes l.codes.length = 0→lvs l.codes l.codes.length = some v→lstE l = 0:=fun v h k=>by
  rw [lstE,if_neg (by rw [h1];simp),if_neg (by omega),if_neg (by omega),if_neg (by rw [h];simp),k]
 refine ⟨by omega,by kernel_rfl,?_⟩
 refine qw mixm (α:=Nat) [33] (fun i=>i≤l.codes.length∧cdEs l.codes i = 0) (fun i=>[(33,vI i)]) (fun i=>[(4096,.arr 2 [cdlT l] false),(32768,.mp (.sb (qM8 (l.codes.take i)))),(32784,.arr 1 ((aboL l.codes i).map vB) false)]) (fun i=>l.codes.length - i) 0 ⟨by omega,rfl⟩ ?_ fun i hi=>?_
 ·simp only [List.take_zero,qM8,List.map_nil,zr6]
  refine .of [(4096,some 4096),(32768,some 32768),(32784,some 32784)] [] rfl (by first | rfl | (rw [hst];rfl)) ?_ ?_
  all_goals (try simp only [tL,simprocAttr,List.map_append,List.map_cons,List.map_nil,List.cons_append,List.nil_append,Int.toNat_natCast,zR9])
  all_goals (try (repeat' (first | exact zh | (apply zB;intro _;exact ⟨rfl,rfl⟩) | (apply qz;intro _;exact ⟨rfl,rfl⟩) | with_reducible apply qQ | with_reducible refine qD ⟨rfl,rfl⟩ ?_ | exact qR | with_reducible apply qJ | with_reducible refine qW ⟨rfl,rfl,?_⟩ ?_ | with_reducible apply And.intro | exact qK rfl | exact qK (by assumption) | (refine ⟨⟨?_,rfl,?_,rfl,?_⟩,trivial⟩ <;> first | (simp;done) | (apply qz;intro _;exact ⟨rfl,rfl⟩)) | trivial | rfl | (rw [qo (by omega)]) | omega)))
 obtain ⟨i1,i2⟩:=hi
 have hbl:=ZH l.codes i
 refine sD ?_
 refine ⟨fun h4=>?_,fun h4=>?_⟩
 ·have hi2:i < l.codes.length:=by omega
  have hwi:=qo (i:=i) (by omega)
  have hat:cdAt l.codes i = l.codes[i]:=by rw [cdAt,qr hi2]
  have hs:cdEs l.codes (i + 1) = cdE l.codes i:=by rw [cdEs,if_neg (by rw [i2];simp)]
  have hbad:cdE l.codes i≠0→lstE l = cdE l.codes i:=fun hb=>by
   have:=za6 (by rw [hs];exact hb) l.codes.length (show i + 1≤l.codes.length by omega)
   rw [hE1 (by rw [this,hs];exact hb),this,hs]
  simp only [tZ,↓un_u,simprocAttr,Int.toNat_natCast,qe hi2]
  refine ⟨by omega,?_⟩
  refine C1.im (kH l.codes[i].name) (by rfl) (by rfl) ?_
  simp only [tZ,↓un_u,simprocAttr,Bool.not_eq_true',Bool.not_eq_false',qI3]
  refine ⟨fun h5=>?_,fun h5=>?_⟩
  ·have hc:cdE l.codes i = 3:=by rw [cdE,hat,if_pos h5]
   rw [hbad (by rw [hc];decide),hc]
   exact .oA [] []
  refine ⟨fun h6=>?_,fun h6=>?_⟩
  ·have hc:cdE l.codes i = 10:=by rw [cdE,hat,if_neg (by rw [h5];simp),if_pos h6]
   rw [hbad (by rw [hc];decide),hc]
   exact .oA [] []
  have hpar:l.codes[i].par = parC l.codes i:=by rw [parC,hat]
  have hcE:cdE l.codes i = if (i = 0∧parC l.codes i≠-1)∨(0 < i∧(parC l.codes i < 0∨parC l.codes i≥i)) then 6 else 0:=by
   rw [cdE,hat,if_neg (by rw [h5];simp),if_neg (by rw [h6];simp)]
  have hasg:=qW8 (c:=l.codes[i]) (cs:=l.codes.take i) h6
  rw [← qS hi2] at hasg
  simp only [tZ,↓un_u,simprocAttr,hasg,hpar,tD,beq_iff_eq,beq_eq_false_iff_ne,bne_iff_ne,bne_eq_false_iff_eq]
  refine ⟨fun h7=>?_,fun h7=>?_⟩
  ·have hc:cdE l.codes i = 6:=by rw [hcE,if_pos (by omega)]
   rw [hbad (by rw [hc];decide),hc]
   exact .oA [] []
  have hc0:cdEs l.codes (i + 1) = 0:=by rw [hs,hcE,if_neg (by omega)]
  refine ⟨fun h8=>?_,fun h8=>?_⟩
  ·obtain ⟨q,hq⟩:=Int.eq_ofNat_of_zero_le (show 0≤parC l.codes i by omega)
   have hq3:q < (aboL l.codes i).length:=by omega
   have hset:=zB0 (p:=q) hi2 (by rw [hpar,hq])
   simp only [hq,Int.toNat_natCast,qe hq3,show ∀ a b:Bool,repl (vB a) 0 (vB b) = vB b from fun _ _=>rfl,hwi]
   refine ⟨⟨by omega,by omega,by omega⟩,⟨by omega,by omega,rfl⟩,i + 1,⟨by omega,hc0⟩,by omega,?_⟩
   rw [← List.map_set,hset]
   exact .oA [(4096,some 4096),(32768,some 32768),(32784,some 32784)] []
  ·have hsk:=zr7 hi2 (by omega)
   simp only [hwi]
   refine ⟨i + 1,⟨by omega,hc0⟩,by omega,?_⟩
   rw [hsk]
   exact .oA [(4096,some 4096),(32768,some 32768),(32784,some 32784)] []
 ·have hil:i = l.codes.length:=by omega
  subst hil
  have hP:=zS0 i2 (by omega)
  have hdl:=Kb l.codes
  refine C1.im (kj l hP) (by rfl) (by rfl) ?_
  refine sW ?_
  have hbl:=ZH l.codes l.codes.length
  refine qw mixm (α:=Nat×Int) [7,84] (fun x=>x.1≤l.codes.length∧lvs l.codes x.1 = some x.2) (fun x=>[(7,vI x.2),(84,vI x.1)]) (fun x=>[(32784,.arr 1 ((aboL l.codes l.codes.length).map vB) false)]) (fun x=>l.codes.length - x.1) (0,-1) ⟨by simp,rfl⟩ ?_ fun x hx=>?_
  ·rw [Int.toNat_natCast]
   exact .oA [(32784,some 32784)] []
  obtain ⟨j,v⟩:=x
  obtain ⟨j1,j2⟩:=hx
  dsimp only at j1 j2
  refine sD ?_
  refine ⟨fun h5=>?_,fun h5=>?_⟩
  ·have hj2:j < l.codes.length:=by omega
   have hwj:=qo (i:=j) (by omega)
   have hs:=qw6 l.codes j
   rw [j2,lvS] at hs
   have hj3:j < (depL l.codes).length:=by omega
   have hj4:j < (aboL l.codes l.codes.length).length:=by omega
   have hd1:(depL l.codes)[j] = dep l.codes j:=by simp [depL]
   have ha1:=zB1 hj4
   simp only [tZ,↓un_u,simprocAttr,Int.toNat_natCast,qe hj3,qe hj4,hd1,ha1,hwj,Bool.not_eq_true',Bool.not_eq_false',tD,bne_iff_ne,bne_eq_false_iff_eq]
   refine ⟨by omega,by omega,by omega,fun h6=>?_,fun h6=>?_⟩
   ·rw [if_neg (by rw [h6];simp)] at hs
    refine ⟨(j + 1,v),⟨by dsimp only;omega,hs⟩,by dsimp only;omega,?_⟩
    exact .oA [(32784,some 32784)] []
   ·rw [if_pos h6] at hs
    refine ⟨fun h7=>?_,fun h7=>?_⟩
    ·rw [if_pos (by omega)] at hs
     rw [hE2 i2 (zz7 hs _ (by omega))]
     exact .oA [] []
    ·rw [if_neg (by omega)] at hs
     refine ⟨(j + 1,(dep l.codes j:Int)),⟨by dsimp only;omega,hs⟩,by dsimp only;omega,?_⟩
     exact .oA [(32784,some 32784)] []
  ·have hjl:j = l.codes.length:=by omega
   subst hjl
   rw [hE3 v i2 j2]
   exact .oA [] []
end Go.Proofs
namespace Go.Proofs
open Go Go.TL
set_option maxRecDepth 4000
set_option maxHeartbeats 8000000
theorem Qo (p:CodL→Bool) (f:FuncId) (caps:List T) (hcap:imL caps = true) (l:List CodL) (hf:∀ y∈l,Spc Tryz.prog f (cdlT y :: caps) [] (vB (p y)) []) (hl:l.length < 4611686018427387904) :
 Spc Tryz.prog zx [.sl 2 (l.map cdlT),.clo f caps] [] (vI (idxI p l)) []:=by
 refine qd yL mixm (by simp) fun e _ hst=>qk ?_
 unfold zp
 refine sW ?_
 refine qw mixm (α:=Nat) [8] (fun i=>i≤l.length∧((l.take i).any p = false)) (fun i=>[(8,vI i)]) (fun i=>[]) (fun i=>l.length - i) 0 ⟨by omega,?_⟩ ?_ fun i hi=>?_
 ·simp
 ·exact .oA [] []
 simp only [tZ,↓un_u,simprocAttr,decide_eq_true_eq,decide_eq_false_iff_not]
 refine ⟨fun h=>?_,fun h=>?_⟩
 ·have hi2:i < l.length:=by omega
  have hwi:=qo (i:=i) (by omega)
  simp only [tZ,↓un_u,simprocAttr,Int.toNat_natCast,qe hi2,hwi,KS]
  refine ⟨by omega,?_⟩
  refine C1.im (hf l[i] (List.getElem_mem hi2)) (Ju rfl hcap) rfl ?_
  refine sW ?_
  refine ⟨fun h3=>?_,fun h3=>⟨i + 1,⟨by omega,wY hi2 hi.2 h3⟩,by omega,?_⟩⟩
  ·rw [idxI,if_pos (WF hi2 h3),wA hi2 hi.2 h3]
   exact .imR rfl rfl
  ·exact .oA [] []
 ·have h2:i = l.length:=by omega
  have h3:=hi.2
  rw [h2,List.take_length] at h3
  rw [idxI,if_neg (by rw [h3];simp)]
  exact .imR rfl rfl
theorem yg (p:CodL→Bool) (f:FuncId) (caps:List T) (hcap:imL caps = true) (l:List CodL) (hf:∀ y∈l,Spc Tryz.prog f (cdlT y :: caps) [] (vB (p y)) []) (hl:l.length < 4611686018427387904) :
 Spc Tryz.prog zf [.sl 2 (l.map cdlT),.clo f caps] [] (vB (l.any p)) []:=by
 refine qd wN mixm (by simp) fun e _ hst=>qk ?_
 unfold zc
 refine sW ?_
 refine C1.im (Qo p f caps hcap l hf hl) (WG rfl hcap) rfl ?_
 refine sW ?_
 rw [show decide (idxI p l≥0) = l.any p from KT p l]
 exact .imR rfl rfl
theorem QN (p:Col→Bool) (f:FuncId) (caps:List T) (hcap:imL caps = true) (l:List Col) (hf:∀ y∈l,Spc Tryz.prog f (colT y :: caps) [] (vB (p y)) []) (hl:l.length < 4611686018427387904) :
 Spc Tryz.prog zP [.sl 7 (l.map colT),.clo f caps] [] (vI (idxI p l)) []:=by
 refine qd Qx mixm (by simp) fun e _ hst=>qk ?_
 unfold zH
 refine sW ?_
 refine qw mixm (α:=Nat) [8] (fun i=>i≤l.length∧((l.take i).any p = false)) (fun i=>[(8,vI i)]) (fun i=>[]) (fun i=>l.length - i) 0 ⟨by omega,?_⟩ ?_ fun i hi=>?_
 ·simp
 ·exact .oA [] []
 simp only [tZ,↓un_u,simprocAttr,decide_eq_true_eq,decide_eq_false_iff_not]
 refine ⟨fun h=>?_,fun h=>?_⟩
 ·have hi2:i < l.length:=by omega
  have hwi:=qo (i:=i) (by omega)
  simp only [tZ,↓un_u,simprocAttr,Int.toNat_natCast,qe hi2,hwi,KS]
  refine ⟨by omega,?_⟩
  refine C1.im (hf l[i] (List.getElem_mem hi2)) (Ju rfl hcap) rfl ?_
  refine sW ?_
  refine ⟨fun h3=>?_,fun h3=>⟨i + 1,⟨by omega,wY hi2 hi.2 h3⟩,by omega,?_⟩⟩
  ·rw [idxI,if_pos (WF hi2 h3),wA hi2 hi.2 h3]
   exact .imR rfl rfl
  ·exact .oA [] []
 ·have h2:i = l.length:=by omega
  have h3:=hi.2
  rw [h2,List.take_length] at h3
  rw [idxI,if_neg (by rw [h3];simp)]
  exact .imR rfl rfl
theorem yN (p:Col→Bool) (f:FuncId) (caps:List T) (hcap:imL caps = true) (l:List Col) (hf:∀ y∈l,Spc Tryz.prog f (colT y :: caps) [] (vB (p y)) []) (hl:l.length < 4611686018427387904) :
 Spc Tryz.prog zn [.sl 7 (l.map colT),.clo f caps] [] (vB (l.any p)) []:=by
 refine qd yz mixm (by simp) fun e _ hst=>qk ?_
 unfold zi
 refine sW ?_
 refine C1.im (QN p f caps hcap l hf hl) (WG rfl hcap) rfl ?_
 refine sW ?_
 rw [show decide (idxI p l≥0) = l.any p from KT p l]
 exact .imR rfl rfl
theorem qe7 (x y:CodL):Spc Tryz.prog kp [cdlT x,.ip (cdlT y).cells] [] (vB (eqB x.name y.name)) []:=by
 refine qd YQ mixm (by simp) fun e _ hst=>qk ?_
 unfold wO
 refine sW ?_
 rw [show (x.name.toList == y.name.toList) = eqB x.name y.name from rfl]
 exact .oA [] []
theorem Je (x y:Col):Spc Tryz.prog zE [colT x,.ip (colT y).cells] [] (vB (eqB x.name y.name)) []:=by
 refine qd ZD mixm (by simp) fun e _ hst=>qk ?_
 unfold jp
 refine sW ?_
 rw [show (x.name.toList == y.name.toList) = eqB x.name y.name from rfl]
 exact .oA [] []
def unuB (c:Col):Bool:=!(((c.kind != 2) && (c.list != 0)) || ((c.kind != 3) && ((c.low != 0) || (c.high != 0) || (c.widths.length != 0) || c.opt)))
theorem Qp (c:Col):Spc Tryz.prog yX [colT c] [] (vB (unuB c)) []:=by
 refine qd qe4 mixm (by simp) fun e _ hst=>qk ?_
 unfold yA
 refine sW ?_
 refine ⟨fun h=>?_,fun h=>?_⟩
 ·have:unuB c = false:=by unfold unuB;rw [h];rfl
  rw [this]
  exact .oA [] []
 ·have e:((c.widths.length:Int) == 0) = (c.widths.length == 0):=by rw [Bool.eq_iff_iff,beq_iff_eq,beq_iff_eq];omega
  have:unuB c = (c.kind == 3 || c.low == 0 && c.high == 0 && ((c.widths.length:Int) == 0) && !c.opt):=by
   unfold unuB
   rw [h,e]
   simp only [Bool.false_or,bne,Bool.not_and,Bool.not_or,Bool.not_not]
  rw [this]
  exact .oA [] []
def qI4 (ws:List Int) (i:Nat):Int:=if i = 0 then 1 else ws.getD (i - 1) 0
theorem JL (c:Col):Spc Tryz.prog jE [colT c] [] (vI (measE c)) []:=by
 refine qd ZZ mixm (by simp) fun e _ hst=>qk ?_
 unfold jy
 refine sW ?_
 simp only [tZ,↓un_u,simprocAttr,tD,Bool.not_eq_true',Bool.not_eq_false',beq_iff_eq,beq_eq_false_iff_ne]
 have hin:∀ n:Int,inB n (-1000000) 1000000 = false↔(n < -1000000∨n > 1000000):=fun n=>by
  unfold inB
  rw [Bool.and_eq_false_iff,decide_eq_false_iff_not,decide_eq_false_iff_not]
  omega
 refine ⟨fun h=>?_,fun h=>?_⟩
 ·have k:inB c.low (-1000000) 1000000 = false∨inB c.high (-1000000) 1000000 = false∨c.low > c.high:=by
   rw [hin,hin]
   omega
  rw [measE,if_pos k]
  exact .oA [] []
 have hA:¬ (inB c.low (-1000000) 1000000 = false∨inB c.high (-1000000) 1000000 = false∨c.low > c.high):=by
  rw [hin,hin]
  omega
 refine ⟨fun h2=>?_,fun h2=>?_⟩
 ·rw [measE,if_neg hA,if_pos (by omega)]
  exact .oA [] []
 have hm:measE c = if zL7 c.widths = false then 2 else 0:=by rw [measE,if_neg hA,if_neg (by omega)]
 refine qw mixm (α:=Nat) [3,36] (fun i=>i≤c.widths.length∧(∀ j,j < i→wdOk c.widths j = true)) (fun i=>[(3,vI (qI4 c.widths i)),(36,vI i)]) (fun i=>[]) (fun i=>c.widths.length - i) 0 ⟨by omega,?_⟩ ?_ fun i hi=>?_
 ·intro j hj;omega
 ·exact .oA [] []
 have hbad:i < c.widths.length→wdOk c.widths i = false→measE c = 2:=fun h1 h2=>by
  rw [hm,if_pos]
  exact List.all_eq_false.2 ⟨i,List.mem_range.2 h1,by rw [h2];simp⟩
 have hok:wdOk c.widths i = true→∀ j,j < i + 1→wdOk c.widths j = true:=fun h1 j hj=>by
  by_cases e:j = i
  ·rw [e];exact h1
  ·exact hi.2 j (by omega)
 simp only [tZ,↓un_u,simprocAttr,decide_eq_true_eq,decide_eq_false_iff_not]
 refine ⟨fun h=>?_,fun h=>?_⟩
 ·have hi2:i < c.widths.length:=by omega
  have hwi:=qo (i:=i) (by omega)
  have hnx:qI4 c.widths (i + 1) = c.widths[i]:=by rw [qI4,if_neg (by omega),Nat.add_sub_cancel,qr hi2]
  rcases Nat.eq_zero_or_pos i with h0 | h0
  ·subst h0
   have hw0:wdOk c.widths 0 = (c.widths[0] == 1):=by rw [wdOk,if_pos rfl,qr hi2]
   have hz:((0:Nat):Int) = 0:=rfl
   rw [hz] at hwi
   simp only [tZ,↓un_u,simprocAttr,Int.toNat_natCast,hz,beq_self_eq_true,gt_iff_lt,Int.lt_irrefl,decide_false,Bool.false_and,Bool.or_false,Bool.true_and,qe hi2,bne_iff_ne,bne_eq_false_iff_eq]
   have hwz:IntKind.i64.wrap 1 = ((1:Nat):Int):=by decide
   refine ⟨by omega,fun h3=>?_,fun h3=>?_⟩
   ·rw [hbad hi2 (by rw [hw0];simpa using h3)]
    exact .oA [] []
   ·rw [hwz]
    refine ⟨1,⟨by omega,hok (by rw [hw0];simpa using h3)⟩,by omega,?_⟩
    rw [hnx]
    exact .oA [] []
  ·have e1:((i:Int) == 0) = false:=beq_eq_false_iff_ne.2 (by omega)
   have e2:decide ((i:Int) > 0) = true:=decide_eq_true (by omega)
   have hw1:wdOk c.widths i = (decide (qI4 c.widths i < c.widths[i]) && decide (c.widths[i]≤1000000) && (c.widths[i].tmod (qI4 c.widths i) == 0)):=by
    rw [wdOk,if_neg (by omega),qr hi2,qI4,if_neg (by omega)]
   have hp1:1≤qI4 c.widths i:=by
    have:=qW4 (ws:=c.widths) hi.2 (i - 1) (by omega)
    rw [qI4,if_neg (by omega)]
    exact this
   simp only [tZ,↓un_u,simprocAttr,Int.toNat_natCast,qe hi2,e1,e2,hwi,tD,bne_iff_ne,bne_eq_false_iff_eq]
   refine ⟨by omega,fun _=>by omega,fun h3=>?_,fun h3=>?_⟩
   ·rw [hbad hi2 (by rw [hw1];grind)]
    exact .oA [] []
   ·refine ⟨i + 1,⟨by omega,hok (by rw [hw1];grind)⟩,by omega,?_⟩
    rw [hnx]
    exact .oA [] []
 ·have hi2:i = c.widths.length:=by omega
  subst hi2
  rw [hm,if_neg]
  ·exact .oA [] []
  ·rw [Bool.not_eq_false]
   exact List.all_eq_true.2 fun j hj=>hi.2 j (List.mem_range.1 hj)
theorem Kx (s:Sch) (i:Nat) (hi:i < s.cols.length) (hn:s.cols.length < 4611686018427387904) (hl:s.lists.length < 4611686018427387904):Spc Tryz.prog jU [schT s,vI i] [] (vI (colE s i)) []:=by
 have hat:qh s i = s.cols[i]:=by rw [qh,qr hi]
 have hE:colE s i = if ye s.cols[i].name = false then 3
  else if ((s.cols.take i).any fun x=>eqB x.name s.cols[i].name) = true then 10
  else if inB s.cols[i].kind 1 3 = false∨(0 < i∧s.cols[i].kind = 1) then 4
  else if s.cols[i].kind = 2∧inB s.cols[i].list 0 (s.lists.length - 1) = false then 5
  else if s.cols[i].kind = 3∧measE s.cols[i]≠0 then measE s.cols[i]
  else if (s.cols[i].kind≠2∧s.cols[i].list≠0)∨(s.cols[i].kind≠3∧(s.cols[i].low≠0∨s.cols[i].high≠0∨0 < s.cols[i].widths.length∨s.cols[i].opt = true)) then 11 else 0:=by rw [colE,hat]
 rw [hE]
 refine qd JB mixm (by simp) fun e _ hst=>qk ?_
 unfold jH
 simp only [tZ,↓un_u,simprocAttr,Int.toNat_natCast,qe hi]
 generalize s.cols[i] = c
 refine ⟨by omega,?_⟩
 refine C1.im (kH c.name) (by rfl) (by rfl) ?_
 simp only [tZ,↓un_u,simprocAttr,Bool.not_eq_true',Bool.not_eq_false']
 refine ⟨fun h=>?_,fun h=>?_⟩
 ·rw [if_pos h]
  exact .oA [] []
 rw [if_neg (by rw [h];simp)]
 have hCF:=yN (fun x=>eqB x.name c.name) zE [.ip (colT c).cells] rfl (s.cols.take i) (fun x _=>Je x c) (by rw [List.length_take];omega)
 refine ⟨by omega,?_⟩
 rw [qj7,qF9]
 refine C1.lend [8212] hCF ?_ (by rfl) (by rfl) ?_
 ·all_goals (try simp only [tL,simprocAttr,List.map_append,List.map_cons,List.map_nil,List.cons_append,List.nil_append])
  all_goals (try (repeat' (first | exact zh | (apply zB;intro _;exact ⟨rfl,rfl⟩) | (apply qz;intro _;exact ⟨rfl,rfl⟩) | with_reducible apply qQ | with_reducible refine qD ⟨rfl,rfl⟩ ?_ | exact qR | with_reducible apply qJ | with_reducible refine qW ⟨rfl,rfl,?_⟩ ?_ | with_reducible apply And.intro | exact qK rfl | exact qK (by assumption) | (refine ⟨⟨?_,rfl,?_,rfl,?_⟩,trivial⟩ <;> first | (simp;done) | (apply qz;intro _;exact ⟨rfl,rfl⟩)) | trivial | rfl | (rw [qo (by omega)]) | omega)))
  simp only [ltP]
  exact ⟨rfl,by decide,rfl,qD ⟨rfl,rfl⟩ qR⟩
 simp only [tZ,↓un_u,simprocAttr,tD,Bool.not_eq_true',Bool.not_eq_false',beq_iff_eq,beq_eq_false_iff_ne]
 refine ⟨fun h2=>?_,fun h2=>?_⟩
 ·rw [if_pos h2]
  exact .oA [] []
 rw [if_neg (by rw [h2];simp)]
 have hI:inB c.kind 1 3 = false↔¬ (1≤c.kind∧c.kind≤3):=by unfold inB;rw [Bool.and_eq_false_iff,decide_eq_false_iff_not,decide_eq_false_iff_not];omega
 have hL:inB c.list 0 (s.lists.length - 1) = false↔(c.list < 0∨(s.lists.length:Int)≤c.list):=by unfold inB;rw [Bool.and_eq_false_iff,decide_eq_false_iff_not,decide_eq_false_iff_not];omega
 have hU:unuB c = false↔((c.kind≠2∧c.list≠0)∨(c.kind≠3∧(c.low≠0∨c.high≠0∨0 < c.widths.length∨c.opt = true))):=by
  have hw0:c.widths.length≠0↔0 < c.widths.length:=by omega
  unfold unuB
  rw [Bool.not_eq_false',Bool.or_eq_true,Bool.and_eq_true,Bool.and_eq_true,bne_iff_ne,bne_iff_ne,bne_iff_ne,Bool.or_eq_true,Bool.or_eq_true,Bool.or_eq_true,bne_iff_ne,bne_iff_ne,bne_iff_ne,hw0,or_assoc,or_assoc]
 have hfin:∀ (v:Int),(unuB c = false→v = 11)→(unuB c = true→v = 0)→v = if (c.kind≠2∧c.list≠0)∨(c.kind≠3∧(c.low≠0∨c.high≠0∨0 < c.widths.length∨c.opt = true)) then 11 else 0:=fun v h11 h00=>by
  by_cases k:unuB c = false
  ·rw [if_pos (hU.1 k),h11 k]
  ·rw [if_neg (fun e=>k (hU.2 e)),h00 (by simpa using k)]
 refine ⟨fun k1=>⟨fun h3=>?_,fun h3=>?_⟩,fun k1=>⟨fun k2=>⟨fun h3=>?_,fun h3=>?_⟩,fun k2=>⟨fun k3=>?_,fun k3=>?_⟩⟩⟩
 ·rw [if_pos (.inr ⟨by omega,k1⟩)]
  exact .oA [] []
 ·rw [if_neg (by rw [hI];omega),if_neg (by omega),if_neg (by omega)]
  refine C1.im (Qp c) (by rfl) (by rfl) ?_
  simp only [tZ,↓un_u,simprocAttr,Bool.not_eq_true',Bool.not_eq_false']
  refine ⟨fun h4=>?_,fun h4=>?_⟩
  ·rw [← hfin 11 (fun _=>rfl) (fun k=>by rw [h4] at k;cases k)]
   exact .oA [] []
  ·rw [← hfin 0 (fun k=>by rw [h4] at k;cases k) (fun _=>rfl)]
   exact .oA [] []
 ·rw [if_neg (by rw [hI];omega),if_pos ⟨k2,hL.2 h3⟩]
  exact .oA [] []
 ·rw [if_neg (by rw [hI];omega),if_neg (by rw [hL];omega),if_neg (by omega)]
  refine C1.im (Qp c) (by rfl) (by rfl) ?_
  simp only [tZ,↓un_u,simprocAttr,Bool.not_eq_true',Bool.not_eq_false']
  refine ⟨fun h4=>?_,fun h4=>?_⟩
  ·rw [← hfin 11 (fun _=>rfl) (fun k=>by rw [h4] at k;cases k)]
   exact .oA [] []
  ·rw [← hfin 0 (fun k=>by rw [h4] at k;cases k) (fun _=>rfl)]
   exact .oA [] []
 ·rw [if_neg (by rw [hI];omega),if_neg (by omega)]
  refine C1.im (JL c) (by rfl) (by rfl) ?_
  simp only [tZ,↓un_u,simprocAttr,bne_iff_ne,bne_eq_false_iff_eq]
  refine ⟨fun h3=>?_,fun h3=>?_⟩
  ·rw [if_pos ⟨k3,h3⟩]
   exact .oA [] []
  rw [if_neg (by omega)]
  refine C1.im (Qp c) (by rfl) (by rfl) ?_
  simp only [tZ,↓un_u,simprocAttr,Bool.not_eq_true',Bool.not_eq_false']
  refine ⟨fun h4=>?_,fun h4=>?_⟩
  ·rw [← hfin 11 (fun _=>rfl) (fun k=>by rw [h4] at k;cases k)]
   exact .oA [] []
  ·rw [← hfin 0 (fun k=>by rw [h4] at k;cases k) (fun _=>rfl)]
   exact .oA [] []
 ·rw [if_pos (.inl (hI.2 (by omega)))]
  exact .oA [] []
theorem js (s:Sch) (hn:s.cols.length < 4611686018427387904) (hl:s.lists.length < 4611686018427387904):Spc Tryz.prog zr [schT s] [] (vI (schE s)) []:=by
 refine qd qk4 mixm (by simp) fun e _ hst=>qk ?_
 unfold Qe
 refine sD ?_
 refine ⟨fun h=>?_,fun h=>?_⟩
 ·rw [schE,if_pos (by omega)]
  exact .oA [] []
 have hE1:Ql s s.lists.length≠0→schE s = Ql s s.lists.length:=fun k=>by rw [schE,if_neg (by omega),if_pos k]
 refine qw mixm (α:=Nat) [21] (fun i=>i≤s.lists.length∧Ql s i = 0) (fun i=>[(21,vI i)]) (fun i=>[(4096,.arr 2 [schT s] false)]) (fun i=>s.lists.length - i) 0 ⟨by omega,rfl⟩ ?_ fun i hi=>?_
 ·exact .oA [(4096,some 4096)] []
 obtain ⟨i1,i2⟩:=hi
 refine sD ?_
 refine ⟨fun h2=>?_,fun h2=>?_⟩
 ·have hi2:i < s.lists.length:=by omega
  have hwi:=qo (i:=i) (by omega)
  have hat:s.lists.getD i default = s.lists[i]:=qr hi2
  have hstep:Ql s (i + 1) = if lstE s.lists[i]≠0 then lstE s.lists[i] else if ((s.lists.take i).any fun x=>eqB x.name s.lists[i].name) = true then 10 else 0:=by
   rw [Ql,if_neg (by rw [i2];simp),hat]
  have hbad:Ql s (i + 1)≠0→schE s = Ql s (i + 1):=fun k=>by
   have:=qM5 k s.lists.length (by omega)
   rw [hE1 (by rw [this];exact k),this]
  have hCF:=yg (fun x=>eqB x.name s.lists[i].name) kp [.ip (cdlT s.lists[i]).cells] rfl (s.lists.take i) (fun x _=>qe7 x s.lists[i]) (by rw [List.length_take];omega)
  simp only [tZ,↓un_u,simprocAttr,Int.toNat_natCast,qe hi2,hwi]
  generalize s.lists[i] = c at *
  refine ⟨by omega,?_⟩
  refine C1.im (yM c) (by rfl) (by rfl) ?_
  simp only [tZ,↓un_u,simprocAttr,bne_iff_ne,bne_eq_false_iff_eq]
  refine ⟨fun h3=>?_,fun h3=>?_⟩
  ·rw [if_pos h3] at hstep
   rw [hbad (by rw [hstep];exact h3),hstep]
   exact .oA [] []
  rw [if_neg (by rw [h3];simp)] at hstep
  refine ⟨by omega,?_⟩
  rw [qj7,qF9]
  refine C1.lend [24588] hCF ?_ (by rfl) (by rfl) ?_
  ·all_goals (try simp only [tL,simprocAttr,List.map_append,List.map_cons,List.map_nil,List.cons_append,List.nil_append])
   all_goals (try (repeat' (first | exact zh | (apply zB;intro _;exact ⟨rfl,rfl⟩) | (apply qz;intro _;exact ⟨rfl,rfl⟩) | with_reducible apply qQ | with_reducible refine qD ⟨rfl,rfl⟩ ?_ | exact qR | with_reducible apply qJ | with_reducible refine qW ⟨rfl,rfl,?_⟩ ?_ | with_reducible apply And.intro | exact qK rfl | exact qK (by assumption) | (refine ⟨⟨?_,rfl,?_,rfl,?_⟩,trivial⟩ <;> first | (simp;done) | (apply qz;intro _;exact ⟨rfl,rfl⟩)) | trivial | rfl | (rw [qo (by omega)]) | omega)))
   simp only [ltP]
   exact ⟨rfl,by decide,rfl,qD ⟨rfl,rfl⟩ qR⟩
  simp only [tZ,↓un_u,simprocAttr,hwi]
  refine ⟨fun h4=>?_,fun h4=>?_⟩
  ·rw [if_pos h4] at hstep
   rw [hbad (by rw [hstep];simp),hstep]
   exact .oA [] []
  ·rw [if_neg (by rw [h4];simp)] at hstep
   refine ⟨i + 1,⟨by omega,hstep⟩,by omega,?_⟩
   exact .oA [(4096,some 4096)] []
 ·have hil:i = s.lists.length:=by omega
  subst hil
  have hE2:s.cols.length = 0∨(qh s 0).kind≠1→schE s = 7:=fun k=>by rw [schE,if_neg (by omega),if_neg (by rw [i2];simp),if_pos k]
  have hE3:¬ (s.cols.length = 0∨(qh s 0).kind≠1)→schE s = Ku s s.cols.length:=fun k=>by rw [schE,if_neg (by omega),if_neg (by rw [i2];simp),if_neg k]
  have hz:((0:Nat):Int) = 0:=rfl
  by_cases h0:s.cols.length = 0
  ·have hn:s.cols = []:=List.length_eq_zero_iff.1 h0
   rw [hE2 (.inl h0)]
   simp only [tZ,↓un_u,simprocAttr,hn,List.length_nil,hz,beq_self_eq_true]
   exact .oA [] []
  ·have h0p:0 < s.cols.length:=by omega
   have e0:((s.cols.length:Int) == 0) = false:=beq_eq_false_iff_ne.2 (by omega)
   have hc0:qh s 0 = s.cols[0]:=by rw [qh,qr h0p]
   simp only [tZ,↓un_u,simprocAttr,e0,qe h0p,bne_iff_ne,bne_eq_false_iff_eq,Bool.false_or]
   refine ⟨by omega,fun h3=>?_,fun h3=>?_⟩
   ·rw [hE2 (.inr (by rw [hc0];exact h3))]
    exact .oA [] []
   have hE4:=hE3 (by rw [hc0];grind)
   refine qw mixm (α:=Nat) [53] (fun i=>i≤s.cols.length∧Ku s i = 0) (fun i=>[(53,vI i)]) (fun i=>[(4096,.arr 2 [schT s] false)]) (fun i=>s.cols.length - i) 0 ⟨by omega,rfl⟩ ?_ fun i hi=>?_
   ·exact .oA [(4096,some 4096)] []
   simp only [tZ,↓un_u,simprocAttr,decide_eq_true_eq,decide_eq_false_iff_not]
   refine ⟨fun h=>?_,fun h=>?_⟩
   ·have hi2:i < s.cols.length:=by omega
    have hwi:=qo (i:=i) (by omega)
    have hstep:Ku s (i + 1) = colE s i:=by rw [Ku,if_neg (by rw [hi.2];simp)]
    refine C1.im (Kx s i hi2 hn hl) (by rfl) (by rfl) ?_
    simp only [tZ,↓un_u,simprocAttr,bne_iff_ne,bne_eq_false_iff_eq,hwi]
    refine ⟨fun h4=>?_,fun h4=>?_⟩
    ·have:=qM6 (s:=s) (i:=i + 1) (by rw [hstep];exact h4) s.cols.length (by omega)
     rw [hE4,this,hstep]
     exact .oA [] []
    ·refine ⟨i + 1,⟨by omega,by rw [hstep];exact h4⟩,by omega,?_⟩
     exact .oA [(4096,some 4096)] []
   ·have hil:i = s.cols.length:=by omega
    rw [hE4,← hil,hi.2]
    exact .oA [] []
end Go.Proofs
