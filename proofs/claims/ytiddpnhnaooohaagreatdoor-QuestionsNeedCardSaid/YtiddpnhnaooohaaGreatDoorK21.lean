/- A part of the proof: trees of Go values, short forms, contracts. -/
import Derived.WalkKit
import Derived.Still
import Derived.MapKept
import GoSem.Builtin.Cap
import Derived.Laws.Externs
import GoSem.Extern.SlicesOverlaps
import Derived.Carry
import Derived.ProofKit
import Derived.OpenShut
import Derived.HandedShaped
import Derived.Lay
import Derived.LaidLaws
import Derived.MakeChecks
import Derived.SevenTiedAt
import Derived.Test.YtiddpnhnaooohaaGreatDoorChecked
import Derived.Test.YtiddpnhnaooohaaGreatDoorK20
set_option linter.unusedSimpArgs false
set_option linter.unusedVariables false
namespace Go.Proofs
open Go Go.TL
set_option maxHeartbeats 4000000
theorem zk3 (q:Qst) (k:Int) (ht:q.terms.length < 4611686018427387904):Spc Tryz.prog Ya [qstT q,vI k] [] (vB (zE3 q k)) []:=by
 refine qd qV0 mixm (by simp) fun e _ hst=>qg ?_
 unfold KU
 refine sW ?_
 refine C2.im (fun _=>qE7 q.terms k ht) (fun _=>rfl) (by rfl) ?_
 refine sW ?_
 rw [show (q.meas == k || q.terms.contains k) = zE3 q k from rfl]
 exact .oA [] []
theorem qG5:∀ (m l:List Pk),(ZS l m).length≤l.length + m.length
 | [],l=>Nat.le_refl _
 | p :: m,l=>by
   have h1:=qG5 m (Zd l p.col p.lev)
   have h2:=ql7 l p.col p.lev
   unfold ZS at h1 ⊢
   rw [List.foldl_cons,List.length_cons]
   omega
theorem zE5 (l m:List Pk) (p:Pk):ZS l (m ++ [p]) = Zd (ZS l m) p.col p.lev:=by rw [ZS,List.foldl_append];rfl
theorem Yz (s:Sch) (c:Cnd):(zM s c).length≤40:=by
 unfold zM
 split
 ·simp
 ·rename_i h
  obtain ⟨hE,k2,k3,k4⟩:=qF8 (Classical.byContradiction h)
  have h1:=qr2 c 41 (by omega) k2
  have h2:=qG3 s (atsC c) []
  simp only [List.length_nil] at h2
  unfold qx1 at h2
  omega
structure QstOk (s:Sch) (q:Qst):Prop where
 sch:schE s = 0
 kind:1≤q.kind∧q.kind≤3
 filt:chkC s q.filt = 0
 dims:q.kind = 1→Ze s q.dims = 0∧(q.meas = -1∨isB s q.meas 3 = true)
 nd:q.dims.length≤3
 terms:q.kind = 2→isB s q.meas 3 = true∧kJ s q.meas q.terms = 0
 nt:q.terms.length≤3
 event:q.kind = 3→isB s q.meas 3 = true∧0≤(qj s q.meas.toNat).low∧chkC s q.event = 0
 d0:q.kind≠1→q.dims = []
 t0:q.kind≠2→q.terms = []
 e0:q.kind≠3→Kq q.event cnd0 = true
theorem qG6 {s:Sch} {q:Qst} (h:qstE s q = 0):QstOk s q:=by
 unfold qstE at h
 split at h
 ·rename_i h1;exact absurd h h1
 rename_i h1
 split at h
 ·cases h
 rename_i h2
 split at h
 ·cases h
 rename_i h3
 split at h
 ·rename_i h4;exact absurd h h4
 rename_i h4
 split at h
 ·rename_i h5;exact absurd h h5
 rename_i h5
 split at h
 ·cases h
 rename_i h6
 have hp:jH s q = 0:=Classical.byContradiction h5
 unfold jH at hp
 have hd:q.kind = 1→Ze s q.dims = 0∧(q.meas = -1∨isB s q.meas 3 = true):=fun k=>by
  rw [if_pos k] at hp
  grind
 have ht:q.kind = 2→isB s q.meas 3 = true∧kJ s q.meas q.terms = 0:=fun k=>by
  rw [if_neg (by omega),if_pos k] at hp
  grind
 have hd0:q.kind≠1→q.dims = []:=fun k=>List.length_eq_zero_iff.1 (by omega)
 have ht0:q.kind≠2→q.terms = []:=fun k=>List.length_eq_zero_iff.1 (by omega)
 refine ⟨Classical.byContradiction h1,by omega,Classical.byContradiction h4,hd,?_,ht,?_,fun k=>?_,hd0,ht0,fun k=>?_⟩
 ·by_cases k:q.kind = 1
  ·have:=(hd k).1
   unfold Ze at this
   grind
  ·rw [hd0 k];simp
 ·by_cases k:q.kind = 2
  ·have:=(ht k).2
   unfold kJ at this
   grind
  ·rw [ht0 k];simp
 ·rw [if_neg (by omega),if_neg (by omega)] at hp
  grind
 ·grind
theorem YQ (s:Sch):∀ (m l:List Pk),(m.foldl (fun l p=>Zd l p.col (kr s p.col p.lev)) l).length≤l.length + m.length
 | [],l=>Nat.le_refl _
 | p :: m,l=>by
   have h1:=YQ s m (Zd l p.col (kr s p.col p.lev))
   have h2:=ql7 l p.col (kr s p.col p.lev)
   rw [List.foldl_cons,List.length_cons]
   omega
theorem qr7 (s:Sch) (q:Qst):∀ (m:List Nat) (l:List Pk),(m.foldl (yu s q) l).length≤l.length + m.length
 | [],l=>Nat.le_refl _
 | k :: m,l=>by
   have h1:=qr7 s q m (yu s q l k)
   have h2:(yu s q l k).length≤l.length + 1:=by
    unfold yu
    split
    ·exact ql7 _ _ _
    ·omega
   rw [List.foldl_cons,List.length_cons]
   omega
def qS1 (s:Sch) (q:Qst):List Pk:=if q.kind = 3 then ZS (zM s q.filt) (zM s q.event) else zM s q.filt
theorem qS2 (s:Sch) (q:Qst):(qS1 s q).length≤80:=by
 have h1:=Yz s q.filt
 have h2:=Yz s q.event
 have h3:=qG5 (zM s q.event) (zM s q.filt)
 unfold qS1
 split <;> omega
theorem qG7 (s:Sch) (q:Qst):(Kr s q).length≤100:=by
 unfold Kr jn9
 split
 ·simp
 ·rename_i h
  have hq:=qG6 (Classical.byContradiction h)
  have h1:=qS2 s q
  unfold qS1 at h1
  have h2:=YQ s q.dims (if q.kind = 3 then ZS (zM s q.filt) (zM s q.event) else zM s q.filt)
  have h3:=qr7 s q (List.range (s.cols.length - 1)) (q.dims.foldl (fun l p=>Zd l p.col (kr s p.col p.lev)) (if q.kind = 3 then ZS (zM s q.filt) (zM s q.event) else zM s q.filt))
  have h4:=(qS hq.sch).nc
  have h5:=hq.nd
  rw [List.length_range] at h3
  omega
theorem qm1 (s:Sch) (hs:yz s) (hL:0 < s.lists.length) (q:Qst):Spc Tryz.prog QO [schT s,qstT q] [] (vPs (Kr s q)) []:=by
 refine qd qI1 mixm (by simp) fun e _ hst=>qg ?_
 unfold Jq
 refine sW ?_
 refine C1.im (Wr s hs hL q) (by rfl) (by rfl) ?_
 simp only [tZ,↓un_u,simprocAttr,bne_iff_ne,bne_eq_false_iff_eq]
 refine ⟨fun h=>?_,fun h=>?_⟩
 ·rw [Kr,if_pos h]
  exact .oA [] []
 have hq:=qG6 h
 have hnc:=(qS hq.sch).nc
 have hnd:=hq.nd
 have hnt:=hq.nt
 have hN:Kr s q = (List.range (s.cols.length - 1)).foldl (yu s q) (q.dims.foldl (fun l p=>Zd l p.col (kr s p.col p.lev)) (qS1 s q)):=by
  rw [Kr,if_neg (by rw [h];simp)];rfl
 have h0:=qS2 s q
 have hQ0:qS1 s q = if q.kind = 3 then ZS (zM s q.filt) (zM s q.event) else zM s q.filt:=rfl
 rw [hN]
 generalize qS1 s q = A at h0 hQ0 ⊢
 refine C1.im (ql8 s hs hL q.filt) (by rfl) (by rfl) ?_
 have hcl:=Yz s q.filt
 generalize zM s q.filt = C at hQ0 hcl ⊢
 simp only [tZ,↓un_u,simprocAttr,beq_iff_eq,beq_eq_false_iff_ne]
 apply mid
 ·intro hmain
  refine ⟨fun h1=>?_,fun h1=>?_⟩
  ·rw [if_pos h1] at hQ0
   refine C1.im (ql8 s hs hL q.event) (by rfl) (by rfl) ?_
   have hel:=Yz s q.event
   generalize zM s q.event = V at hQ0 hel ⊢
   refine sW ?_
   refine qu mixm (α:=Nat) [5,7,20] (fun i=>i≤V.length) (fun i=>[(5,vPs (ZS C (V.take i))),(7,vI i)]) (fun i=>[(4096,.arr 2 [schT s] false),(4100,.arr 17 [qstT q] false)]) (fun i=>V.length - i) 0 (by omega) ?_ fun i hi=>?_
   ·exact .oA [(4096,some 4096),(4100,some 4100)] []
   have hrl:=qG5 (V.take i) C
   rw [List.length_take] at hrl
   refine sD ?_
   refine ⟨fun h3=>?_,fun h3=>?_⟩
   ·have hi2:i < V.length:=by omega
    have hwi:=qh (i:=i) (by omega)
    simp only [tZ,↓un_u,simprocAttr,Int.toNat_natCast,qe hi2]
    refine ⟨by omega,by omega,?_⟩
    refine C1.im (Zg (ZS C (V.take i)) V[i].col V[i].lev (by omega)) (by rfl) (by rfl) ?_
    simp only [tZ,↓un_u,simprocAttr,hwi]
    refine ⟨by kernel_rfl,i + 1,by omega,by omega,?_⟩
    rw [qJ hi2,zE5]
    exact .oA [(4096,some 4096),(4100,some 4100)] []
   ·have hil:i = V.length:=by omega
    subst hil
    rw [List.take_length,← hQ0]
    exact hmain
  ·rw [if_neg h1] at hQ0
   rw [← hQ0]
   exact hmain
 ·clear hQ0
  refine qu mixm (α:=Nat) [5,8] (fun i=>i≤q.dims.length) (fun i=>[(5,vPs ((q.dims.take i).foldl (fun l p=>Zd l p.col (kr s p.col p.lev)) A)),(8,vI i)]) (fun i=>[(4096,.arr 2 [schT s] false),(4100,.arr 17 [qstT q] false)]) (fun i=>q.dims.length - i) 0 (by omega) ?_ fun i hi=>?_
  ·exact .oA [(4096,some 4096),(4100,some 4100)] []
  have hrl:=YQ s (q.dims.take i) A
  rw [List.length_take] at hrl
  refine sD ?_
  refine ⟨fun h3=>?_,fun h3=>?_⟩
  ·have hi2:i < q.dims.length:=by omega
   have hwi:=qh (i:=i) (by omega)
   simp only [tZ,↓un_u,simprocAttr,Int.toNat_natCast,qe hi2]
   refine ⟨by omega,by omega,by omega,?_⟩
   refine C1.im (ql2 s hs q.dims[i].col q.dims[i].lev) (by rfl) (by rfl) ?_
   refine sW ?_
   refine C1.im (Zg _ q.dims[i].col (kr s q.dims[i].col q.dims[i].lev) (by omega)) (by rfl) (by rfl) ?_
   simp only [tZ,↓un_u,simprocAttr,hwi]
   refine ⟨by kernel_rfl,i + 1,by omega,by omega,?_⟩
   rw [qJ hi2,List.foldl_append]
   simp only [List.foldl_cons,List.foldl_nil]
   exact .oA [(4096,some 4096),(4100,some 4100)] []
  ·have hil:i = q.dims.length:=by omega
   subst hil
   rw [List.take_length]
   have hB:=YQ s q.dims A
   generalize q.dims.foldl (fun l p=>Zd l p.col (kr s p.col p.lev)) A = B at hB ⊢
   refine qu mixm (α:=Nat) [5,9] (fun i=>i≤s.cols.length - 1) (fun i=>[(5,vPs ((List.range i).foldl (yu s q) B)),(9,vI ((i + 1:Nat):Int))]) (fun i=>[(4096,.arr 2 [schT s] false),(4100,.arr 17 [qstT q] false)]) (fun i=>s.cols.length - 1 - i) 0 (by omega) ?_ fun i hi=>?_
   ·exact .oA [(4096,some 4096),(4100,some 4100)] []
   have hrl:=qr7 s q (List.range i) B
   rw [List.length_range] at hrl
   have hsu:(List.range (i + 1)).foldl (yu s q) B = yu s q ((List.range i).foldl (yu s q) B) i:=by rw [List.range_succ,List.foldl_append];rfl
   have hwi:=qh (i:=i + 1) (by omega)
   have hU:=zk3 q ((i + 1:Nat):Int) (by omega)
   refine sD ?_
   refine ⟨fun h3=>?_,fun h3=>?_⟩
   ·refine C1.im hU (by rfl) (by rfl) ?_
    refine sW ?_
    refine ⟨fun h4=>?_,fun h4=>?_⟩
    ·have hsu:(List.range (i + 1)).foldl (yu s q) B = Zd ((List.range i).foldl (yu s q) B) ((i + 1:Nat):Int) (kr s ((i + 1:Nat):Int) (finI s ((i + 1:Nat):Int))):=by
      rw [hsu,yu]
      exact if_pos h4
     refine C1.im (jJ s hs ((i + 1:Nat):Int)) (by rfl) (by rfl) ?_
     refine sW ?_
     refine C1.im (ql2 s hs ((i + 1:Nat):Int) (finI s ((i + 1:Nat):Int))) (by rfl) (by rfl) ?_
     refine sW ?_
     refine C1.im (Zg _ ((i + 1:Nat):Int) (kr s ((i + 1:Nat):Int) (finI s ((i + 1:Nat):Int))) (by omega)) (by rfl) (by rfl) ?_
     simp only [tZ,↓un_u,simprocAttr,hwi]
     refine ⟨by kernel_rfl,i + 1,by omega,by omega,?_⟩
     rw [hsu]
     exact .oA [(4096,some 4096),(4100,some 4100)] []
    ·have hsu:(List.range (i + 1)).foldl (yu s q) B = (List.range i).foldl (yu s q) B:=by
      rw [hsu,yu]
      exact if_neg (by show ¬ zE3 q ((i + 1:Nat):Int) = true;rw [h4];simp)
     simp only [tZ,↓un_u,simprocAttr,hwi]
     refine ⟨i + 1,by omega,by omega,?_⟩
     rw [hsu]
     exact .oA [(4096,some 4096),(4100,some 4100)] []
   ·have hil:i = s.cols.length - 1:=by omega
    subst hil
    exact .oA [] []
theorem qG8 (s:Sch) (hs:yz s) (hL:0 < s.lists.length) (q:Qst) (l:List Pk) (hl:l.length < 4611686018427387904):Spc Tryz.prog Zp [schT s,qstT q,vPs l] [] (vB (sufB s q l)) []:=by
 have hnl:=qG7 s q
 refine qd qu5 mixm (by simp) fun e _ hst=>qg ?_
 unfold Qs
 refine sW ?_
 refine C1.im (Wr s hs hL q) (by rfl) (by rfl) ?_
 refine sW ?_
 refine C2.im (fun _=>qX8 s hs l hl) (fun _=>rfl) (by rfl) ?_
 refine sW ?_
 refine C2.im (fun _=>qm1 s hs hL q) (fun _=>rfl) (by rfl) ?_
 refine sW ?_
 refine C2.im (fun _=>qN7 (Kr s q) l (by omega) hl) (fun _=>rfl) (by rfl) ?_
 refine sW ?_
 rw [show (qstE s q == 0 && Jl s l == 0 && covB (Kr s q) l) = sufB s q l from rfl]
 exact .oA [] []
end Go.Proofs
namespace Go.Proofs
open Go Go.TL
def hd (r:List Int):Int:=r.getD 0 0
def putS (row:List Int):List (List Int)×Bool→List Int→List (List Int)×Bool:=fun x r=>
 if hd r = hd row then x
 else if hd r > hd row∧x.2 = false then (x.1 ++ [row] ++ [r],true)
 else (x.1 ++ [r],x.2)
def putR (l:List (List Int)) (row:List Int):List (List Int):=
 let x:=l.foldl (putS row) ([],false)
 if x.2 then x.1 else x.1 ++ [row]
def atR (id:Int) (r:List Int):Bool:=decide (0 < r.length) && (hd r == id)
def jt9 (s:Src) (id:Int):Int:=if s.rows.any (atR id) = true then (s.rows.findIdx (atR id):Int) else -1
def asc2 (l:List Int) (i:Nat):Bool:=decide (i = 0) || decide (l.getD (i - 1) 0 < l.getD i 0)
def jo5 (s:Src):Bool:=(List.range s.rows.length).all fun i=>(rowE s.sch (s.rows.getD i []) == 0) && (decide (i = 0) || decide (hd (s.rows.getD (i - 1) []) < hd (s.rows.getD i [])))
def ju0 (s:Src):Bool:=(List.range s.gone.length).all fun i=>decide (1≤s.gone.getD i 0) && decide (s.gone.getD i 0≤1048575) && asc2 s.gone i && decide (jt9 s (s.gone.getD i 0) < 0)
def srcB (s:Src):Bool:=(schE s.sch == 0) && decide (s.rows.length≤200) && decide (s.gone.length≤300) && decide (0≤s.ver) && decide (s.ver≤300) && jo5 s && ju0 s
end Go.Proofs
namespace Go.Proofs
open Go Go.TL
def AscR (l:List (List Int)):Prop:=l.Pairwise fun a b=>hd a < hd b
end Go.Proofs
namespace Go.Proofs
open Go Go.TL
structure SrcOk (s:Src):Prop where
 sch:schE s.sch = 0
 nr:s.rows.length≤200
 ng:s.gone.length≤300
 ver:0≤s.ver∧s.ver≤300
 rows:∀ r∈s.rows,rowE s.sch r = 0
 asc:AscR s.rows
 gone:∀ g∈s.gone,1≤g∧g≤1048575∧jt9 s g < 0
 gasc:s.gone.Pairwise fun a b=>a < b
end Go.Proofs
namespace Go.Proofs
open Go Go.TL
set_option maxHeartbeats 4000000
open So
end Go.Proofs
namespace Go.Proofs
open Go Go.TL
set_option maxHeartbeats 4000000
open So
end Go.Proofs
namespace Go.Proofs
open Go Go.TL
def ordB (l:List (List Int)):Bool:=(List.range l.length).all fun i=>decide (0 < (l.getD i []).length) && (decide (i = 0) || decide (hd (l.getD (i - 1) []) < hd (l.getD i [])))
def hasK (l:List (List Int)) (k:Int):Bool:=l.any fun r=>hd r == k
def appR (a:List (List Int)) (g:List Int) (rs:List (List Int)):List (List Int):=rs.foldl putR (a.filter fun r=>!g.contains (hd r))
def ascI (l:List Int):Bool:=(List.range l.length).all fun i=>asc2 l i
def appE (a:Ext) (c:Chg):Int:=
 if ordB a.rows = false∨ordB c.rows = false∨ascI c.gone = false∨(c.rows.any fun r=>decide (r.length≠a.picks.length + 1)) = true then 11
 else if (c.gone.any fun k=>!hasK a.rows k) = true then 21 else if (c.gone.any fun k=>hasK c.rows k) = true then 10 else 0
structure ExtOk (x:Ext):Prop where
 ord:ordB x.rows = true
 len:∀ r∈x.rows,r.length = x.picks.length + 1
end Go.Proofs
namespace Go.Proofs
open Go Go.TL
set_option maxRecDepth 4000
set_option maxHeartbeats 8000000
open So
def RwSm (l:List (List Int)):Prop:=l.length≤1000000∧∀ r∈l,r.length * 8≤140737488355328
structure ExtSm (x:Ext):Prop where
 rows:RwSm x.rows
 picks:x.picks.length * 16≤140737488355328
structure ChgSm (c:Chg):Prop where
 rows:RwSm c.rows
 gone:c.gone.length≤1000000
end Go.Proofs
namespace Go.Proofs
open Go Go.TL
set_option maxHeartbeats 8000000
open So
def idxN (n:Int):List Int→Nat
 | []=>0
 | x :: r=>if x = n then 0 else idxN n r + 1
theorem zV0 {n:Int}:∀ {l:List Int} {i:Nat} (h:i < l.length),n∉l.take i→l[i] = n→idxN n l = i
 | [],i,h,_,_=>by simp at h
 | x :: r,0,h,_,hp=>by simp at hp;simp [idxN,hp]
 | x :: r,i + 1,h,h1,hp=>by
   simp only [List.take_succ_cons,List.mem_cons,not_or] at h1
   simp only [idxN]
   rw [if_neg (fun e=>h1.1 e.symm),zV0 (l:=r) (i:=i) (by simpa using h) h1.2 (by simpa using hp)]
def zz6 (l:List Int) (n:Int):Int:=if n∈l then idxN n l else -1
theorem qm2 (l:List Int) (n:Int) (hl:l.length < 4611686018427387904):Spc Tryz.prog wY [vIs l,vI n] [] (vI (zz6 l n)) []:=by
 refine qd qe2 mixm (by simp) fun e _ hst=>qg ?_
 unfold wA
 refine sW ?_
 refine qu mixm (α:=Nat) [8] (fun i=>i≤l.length∧(n∉l.take i)) (fun i=>[(8,vI i)]) (fun i=>[]) (fun i=>l.length - i) 0 ⟨by omega,?_⟩ ?_ fun i hi=>?_
 ·simp
 ·exact .oA [] []
 simp only [tZ,↓un_u,simprocAttr,decide_eq_true_eq,decide_eq_false_iff_not]
 refine ⟨fun h=>?_,fun h=>?_⟩
 ·have hi2:i < l.length:=by omega
  have hwi:=qh (i:=i) (by omega)
  simp only [tZ,↓un_u,simprocAttr,Int.toNat_natCast,qe hi2,hwi,beq_iff_eq,beq_eq_false_iff_ne]
  refine ⟨by omega,fun h3=>?_,fun h3=>⟨i + 1,⟨by omega,?_⟩,by omega,?_⟩⟩
  ·have hm:n∈l:=by rw [h3];exact List.getElem_mem hi2
   rw [zz6,if_pos hm,zV0 hi2 hi.2 h3.symm]
   exact .imR rfl rfl
  ·rw [qJ hi2,List.mem_append]
   rintro (h4 | h4)
   ·exact hi.2 h4
   ·simp at h4;exact h3 h4
  ·exact .oA [] []
 ·have h2:i = l.length:=by omega
  have h3:=hi.2
  rw [h2,List.take_length] at h3
  rw [zz6,if_neg h3]
  exact .imR rfl rfl
theorem Qj (l:List Int) (n:Int) (hl:l.length < 4611686018427387904):Spc Tryz.prog zV [vIs l,vI n] [] (vB (l.contains n)) []:=by
 refine qd WB mixm (by simp) fun e _ hst=>qg ?_
 unfold jQ
 refine sW ?_
 refine C1.im (qm2 l n hl) rfl (by rfl) ?_
 refine sW ?_
 refine .imR ?_ rfl
 unfold zz6
 by_cases h:n∈l
 ·rw [if_pos h,List.contains_iff_mem.2 h];simp
 ·rw [if_neg h]
  cases hc:l.contains n
  ·simp
  ·exact absurd (List.contains_iff_mem.1 hc) h
end Go.Proofs
namespace Go.Proofs
open Go Go.TL
set_option maxRecDepth 4000
set_option maxHeartbeats 8000000
def kiI (s:Sch) (c:Int):Int:=if c < 0∨c≥s.cols.length then 0 else (qj s c.toNat).kind
theorem jk0 {s:Sch} {c k:Int} (hk:k≠0):(kiI s c == k) = isB s c k:=by
 rw [Bool.eq_iff_iff,beq_iff_eq,zw,kiI]
 split
 ·constructor
  ·intro h;omega
  ·intro h;omega
 ·constructor
  ·intro h;exact ⟨by omega,by omega,h⟩
  ·intro h;exact h.2.2
theorem zk4 {s:Sch} {c k:Int} (hk:k≠0):isB s c k = false↔kiI s c≠k:=by rw [← jk0 hk,beq_eq_false_iff_ne]
theorem jo6 {s:Sch} {c k:Int} (hk:k≠0):isB s c k = true↔kiI s c = k:=by rw [← jk0 hk,beq_iff_eq]
theorem zz (s:Sch) (c:Int):Spc Tryz.prog za [schT s,vI c] [] (vI (kiI s c)) []:=by
 refine qd Yq mixm (by simp) fun e _ hst=>qg ?_
 unfold kh
 refine sD ?_
 refine ⟨fun h=>?_,fun h=>?_⟩
 ·rw [kiI,if_pos (by omega)]
  exact .oA [] []
 obtain ⟨i,rfl⟩:=Int.eq_ofNat_of_zero_le (show 0≤c by omega)
 have hi:i < s.cols.length:=by omega
 rw [kiI,if_neg (by omega),Int.toNat_natCast,qj,qk hi]
 simp only [tZ,↓un_u,simprocAttr,Int.toNat_natCast,qe hi]
 refine ⟨by omega,?_⟩
 exact .oA [] []
theorem empC (c:Cnd):((c.op == 0) && (c.col == 0) && (c.code == 0) && (c.lo == 0) && (c.hi == 0) && ((c.kids.length:Int) == 0)) = Kq c cnd0:=by
 rw [zz2]
 show _ = ((c.op == 0) && (c.col == 0) && (c.code == 0) && (c.lo == 0) && (c.hi == 0) && wI c.kids [])
 congr 1
 cases c.kids with
 | nil=>rfl
 | cons x r=>
   rw [wI]
   exact beq_eq_false_iff_ne.2 (by simp;omega)
theorem ZU (c:Cnd):Spc Tryz.prog jz [cnT c] [] (vB (Kq c cnd0)) []:=by
 refine qd qa4 mixm (by simp) fun e _ hst=>qg ?_
 unfold kT
 refine sW ?_
 rw [← empC]
 exact .oA [] []
theorem YA (x y:Pk):Spc Tryz.prog zW [pkT x,.ip (pkT y).cells] [] (vB (x.col == y.col)) []:=by
 refine qd WD mixm (by simp) fun e _ hst=>qg ?_
 unfold jR
 refine sW ?_
 exact .oA [] []
def tabE (s:Sch) (q:Qst):Int:=if Ze s q.dims≠0 then Ze s q.dims else if q.meas≠-1∧isB s q.meas 3 = false then 7 else if 0 < q.terms.length∨Kq q.event cnd0 = false then 11 else 0
theorem qf2 (s:Sch) (hs:yz s) (q:Qst):Spc Tryz.prog wq [schT s,qstT q] [] (vI (tabE s q)) []:=by
 have hT:tabE s q = if Ze s q.dims≠0 then Ze s q.dims else if q.meas≠-1∧isB s q.meas 3 = false then 7 else if 0 < q.terms.length∨Kq q.event cnd0 = false then 11 else 0:=rfl
 have hTD:Ze s q.dims≠0→tabE s q = Ze s q.dims:=fun h=>by rw [hT,if_pos h]
 refine qd YY mixm (by simp) fun e _ hst=>qg ?_
 unfold kQ
 refine sD ?_
 refine ⟨fun h=>?_,fun h=>?_⟩
 ·have:Ze s q.dims = 1:=by rw [Ze,if_pos (by omega)]
  rw [hTD (by rw [this];simp),this]
  exact .oA [] []
 have hD:Ze s q.dims = jd (dimE s q.dims) q.dims.length:=by rw [Ze,if_neg (by omega)]
 generalize tabE s q = E at hT hTD ⊢
 refine qu mixm (α:=Nat) [21] (fun i=>i≤q.dims.length∧(jd (dimE s q.dims) i = 0)) (fun i=>[(21,vI i)]) (fun i=>[(4096,.arr 2 [schT s] false),(4100,.arr 17 [qstT q] false)]) (fun i=>q.dims.length - i) 0 ⟨by omega,?_⟩ ?_ fun i hi=>?_
 ·rfl
 ·exact .oA [(4096,some 4096),(4100,some 4100)] []
 simp only [tZ,↓un_u,simprocAttr,decide_eq_true_eq,decide_eq_false_iff_not]
 refine ⟨fun h=>?_,fun h=>?_⟩
 ·have hi2:i < q.dims.length:=by omega
  have hpi:pkAt q.dims i = q.dims[i]:=by rw [pkAt,qk hi2]
  have hstep:=Zk hi.2 hi2
  have hnext:=kp hi.2
  have hA:dimE s q.dims i = if yr s q.dims[i]≠0 then yr s q.dims[i] else if isB s q.dims[i].col 2 = false then 7 else if ((q.dims.take i).any fun x=>x.col == q.dims[i].col) = true then 10 else 0:=by rw [dimE,hpi]
  rw [← hD] at hstep
  have hbad:dimE s q.dims i≠0→E = dimE s q.dims i:=fun h=>by rw [hTD (by rw [hstep h];exact h),hstep h]
  have hi2:i < q.dims.length:=by omega
  have hwi:=qh (i:=i) (by omega)
  simp only [tZ,↓un_u,simprocAttr,Int.toNat_natCast,qe hi2,hwi]
  refine ⟨by omega,?_⟩
  refine C1.im (qX9 s hs q.dims[i]) (by rfl) (by rfl) ?_
  simp only [tZ,↓un_u,simprocAttr,bne_iff_ne,bne_eq_false_iff_eq]
  refine ⟨fun h3=>?_,fun h3=>?_⟩
  ·rw [if_pos h3] at hA
   rw [hbad (by rw [hA];exact h3),hA]
   exact .oA [] []
  rw [if_neg (by rw [h3];simp)] at hA
  refine C1.im (zz s q.dims[i].col) (by rfl) (by rfl) ?_
  have hki:=zk4 (s:=s) (c:=q.dims[i].col) (k:=2) (by decide)
  simp only [tZ,↓un_u,simprocAttr,bne_iff_ne,bne_eq_false_iff_eq]
  refine ⟨fun h4=>?_,fun h4=>?_⟩
  ·rw [if_pos (hki.2 h4)] at hA
   rw [hbad (by rw [hA];simp),hA]
   exact .oA [] []
  rw [if_neg (fun h=>hki.1 h h4)] at hA
  have hCF:=zS (fun x=>x.col == q.dims[i].col) zW [.ip (pkT q.dims[i]).cells] rfl (q.dims.take i) (fun x _=>YA x q.dims[i]) (by rw [List.length_take];omega)
  refine ⟨by omega,?_⟩
  rw [qc3,qQ7]
  refine C1.lend [24588] hCF ?_ (by rfl) (by rfl) ?_
  ·all_goals (try simp only [tL,simprocAttr,List.map_append,List.map_cons,List.map_nil,List.cons_append,List.nil_append])
   all_goals (try (repeat' (first | exact zb | (apply zN;intro _;exact ⟨rfl,rfl⟩) | (apply qG;intro _;exact ⟨rfl,rfl⟩) | with_reducible apply qV | with_reducible refine qW ⟨rfl,rfl⟩ ?_ | exact zf | with_reducible apply qO | with_reducible refine qM ⟨rfl,rfl,?_⟩ ?_ | with_reducible apply And.intro | exact qQ rfl | exact qQ (by assumption) | (refine ⟨⟨?_,rfl,?_,rfl,?_⟩,trivial⟩ <;> first | (simp;done) | (apply qG;intro _;exact ⟨rfl,rfl⟩)) | trivial | rfl | (rw [qh (by omega)]) | omega)))
   simp only [ltP]
   exact ⟨rfl,by decide,rfl,qW ⟨rfl,rfl⟩ zf⟩
  simp only [tZ,↓un_u,simprocAttr,hwi]
  refine ⟨fun h5=>?_,fun h5=>?_⟩
  ·rw [if_pos h5] at hA
   rw [hbad (by rw [hA];simp),hA]
   exact .oA [] []
  ·rw [if_neg (by rw [h5];simp)] at hA
   refine ⟨i + 1,⟨by omega,by rw [hnext,hA]⟩,by omega,?_⟩
   exact .oA [(4096,some 4096),(4100,some 4100)] []
 ·have hi2:i = q.dims.length:=by omega
  subst hi2
  rw [← hD] at hi
  rw [if_neg (by rw [hi.2];simp)] at hT
  have hk:=zz s q.meas
  refine C2.im (fun _=>hk) (fun _=>rfl) (by rfl) ?_
  have hki:=zk4 (s:=s) (c:=q.meas) (k:=3) (by decide)
  simp only [tZ,↓un_u,simprocAttr,tD,bne_iff_ne,bne_eq_false_iff_eq]
  refine ⟨fun h5=>?_,fun h5=>?_⟩
  ·rw [if_pos (by grind)] at hT
   rw [hT]
   exact .oA [] []
  rw [if_neg (by grind)] at hT
  refine C2.im (fun _=>ZU q.event) (fun _=>rfl) (by rfl) ?_
  simp only [tZ,↓un_u,simprocAttr,tD,gt_iff_lt,Bool.not_eq_true',Bool.not_eq_false']
  refine ⟨fun h6=>?_,fun h6=>?_⟩
  ·rw [if_pos (by grind)] at hT
   rw [hT]
   exact .oA [] []
  ·rw [if_neg (by grind)] at hT
   rw [hT]
   exact .oA [] []
def modE (s:Sch) (q:Qst):Int:=if isB s q.meas 3 = false then 7 else if kJ s q.meas q.terms≠0 then kJ s q.meas q.terms else if 0 < q.dims.length∨Kq q.event cnd0 = false then 11 else 0
theorem qf3 (s:Sch) (q:Qst):Spc Tryz.prog wt [schT s,qstT q] [] (vI (modE s q)) []:=by
 have hT:modE s q = if isB s q.meas 3 = false then 7 else if kJ s q.meas q.terms≠0 then kJ s q.meas q.terms else if 0 < q.dims.length∨Kq q.event cnd0 = false then 11 else 0:=rfl
 generalize modE s q = E at hT ⊢
 have hki:=zk4 (s:=s) (c:=q.meas) (k:=3) (by decide)
 refine qd qa0 mixm (by simp) fun e _ hst=>qg ?_
 unfold kR
 refine sW ?_
 refine C1.im (zz s q.meas) (by rfl) (by rfl) ?_
 simp only [tZ,↓un_u,simprocAttr,tD,bne_iff_ne,bne_eq_false_iff_eq]
 refine ⟨fun h=>?_,fun h=>?_⟩
 ·rw [if_pos (hki.2 h)] at hT
  rw [hT]
  exact .oA [] []
 rw [if_neg (fun k=>hki.1 k h)] at hT
 refine ⟨fun h2=>?_,fun h2=>?_⟩
 ·have:kJ s q.meas q.terms = 1:=by rw [kJ,if_pos (by omega)]
  rw [this,if_pos (by simp)] at hT
  rw [hT]
  exact .oA [] []
 have hD:kJ s q.meas q.terms = jd (qF4 s q.meas q.terms) q.terms.length:=by rw [kJ,if_neg (by omega)]
 have hTD:kJ s q.meas q.terms≠0→E = kJ s q.meas q.terms:=fun h=>by rw [hT,if_pos h]
 refine qu mixm (α:=Nat) [27] (fun i=>i≤q.terms.length∧(jd (qF4 s q.meas q.terms) i = 0)) (fun i=>[(27,vI i)]) (fun i=>[(4096,.arr 2 [schT s] false),(4100,.arr 17 [qstT q] false)]) (fun i=>q.terms.length - i) 0 ⟨by omega,?_⟩ ?_ fun i hi=>?_
 ·rfl
 ·exact .oA [(4096,some 4096),(4100,some 4100)] []
 simp only [tZ,↓un_u,simprocAttr,decide_eq_true_eq,decide_eq_false_iff_not]
 refine ⟨fun h=>?_,fun h=>?_⟩
 ·have hi2:i < q.terms.length:=by omega
  have hpi:q.terms.getD i 0 = q.terms[i]:=qk hi2
  have hstep:=Zk hi.2 hi2
  have hnext:=kp hi.2
  have hA:qF4 s q.meas q.terms i = if isB s q.terms[i] 3 = false then 7 else if q.terms[i] = q.meas∨(q.terms.take i).contains q.terms[i] = true then 10 else 0:=by rw [qF4,hpi]
  rw [← hD] at hstep
  have hbad:qF4 s q.meas q.terms i≠0→E = qF4 s q.meas q.terms i:=fun h=>by rw [hTD (by rw [hstep h];exact h),hstep h]
  have hi2:i < q.terms.length:=by omega
  have hwi:=qh (i:=i) (by omega)
  simp only [tZ,↓un_u,simprocAttr,Int.toNat_natCast,qe hi2,hwi]
  refine ⟨by omega,?_⟩
  refine C1.im (zz s q.terms[i]) (by rfl) (by rfl) ?_
  have hki:=zk4 (s:=s) (c:=q.terms[i]) (k:=3) (by decide)
  simp only [tZ,↓un_u,simprocAttr,bne_iff_ne,bne_eq_false_iff_eq]
  refine ⟨fun h4=>?_,fun h4=>?_⟩
  ·rw [if_pos (hki.2 h4)] at hA
   rw [hbad (by rw [hA];simp),hA]
   exact .oA [] []
  rw [if_neg (fun h=>hki.1 h h4)] at hA
  have hCF:=Qj (q.terms.take i) q.terms[i] (by rw [List.length_take];omega)
  refine ⟨fun _=>by omega,?_⟩
  rw [qc3,qQ7]
  refine C2.im (fun _=>hCF) (fun _=>rfl) (by rfl) ?_
  simp only [tZ,↓un_u,simprocAttr,hwi,tD,beq_iff_eq,beq_eq_false_iff_ne]
  refine ⟨fun h5=>?_,fun h5=>?_⟩
  ·rw [if_pos h5] at hA
   rw [hbad (by rw [hA];simp),hA]
   exact .oA [] []
  ·rw [if_neg (by grind)] at hA
   refine ⟨i + 1,⟨by omega,by rw [hnext,hA]⟩,by omega,?_⟩
   exact .oA [(4096,some 4096),(4100,some 4100)] []
 ·have hi2:i = q.terms.length:=by omega
  subst hi2
  rw [← hD] at hi
  rw [if_neg (by rw [hi.2];simp)] at hT
  refine C2.im (fun _=>ZU q.event) (fun _=>rfl) (by rfl) ?_
  simp only [tZ,↓un_u,simprocAttr,tD,gt_iff_lt,Bool.not_eq_true',Bool.not_eq_false']
  refine ⟨fun h6=>?_,fun h6=>?_⟩
  ·rw [if_pos (by grind)] at hT
   rw [hT]
   exact .oA [] []
  ·rw [if_neg (by grind)] at hT
   rw [hT]
   exact .oA [] []
def curE (s:Sch) (q:Qst):Int:=if isB s q.meas 3 = false then 7 else if (qj s q.meas.toNat).low < 0 then 2 else if chkC s q.event≠0 then chkC s q.event else if 0 < q.dims.length∨0 < q.terms.length then 11 else 0
theorem qf4 (s:Sch) (hs:yz s) (q:Qst):Spc Tryz.prog wu [schT s,qstT q] [] (vI (curE s q)) []:=by
 have hki:=zk4 (s:=s) (c:=q.meas) (k:=3) (by decide)
 refine qd qa2 mixm (by simp) fun e _ hst=>qg ?_
 unfold kS
 refine sW ?_
 refine C1.im (zz s q.meas) (by rfl) (by rfl) ?_
 simp only [tZ,↓un_u,simprocAttr,tD,bne_iff_ne,bne_eq_false_iff_eq]
 refine ⟨fun h=>?_,fun h=>?_⟩
 ·rw [curE,if_pos (hki.2 h)]
  exact .oA [] []
 rw [curE,if_neg (fun k=>hki.1 k h)]
 obtain ⟨b1,b2,b3⟩:=zw.1 ((jo6 (by decide)).2 h)
 have hil:q.meas.toNat < s.cols.length:=by omega
 rw [qj,qk hil]
 simp only [tZ,↓un_u,simprocAttr,qe hil,tD]
 refine ⟨by omega,fun h4=>?_,fun h4=>?_⟩
 ·rw [if_pos h4]
  exact .oA [] []
 rw [if_neg h4]
 refine C1.im (yV s hs q.event) (by rfl) (by rfl) ?_
 simp only [tZ,↓un_u,simprocAttr,bne_iff_ne,bne_eq_false_iff_eq]
 refine ⟨fun h5=>?_,fun h5=>?_⟩
 ·rw [if_pos h5]
  exact .oA [] []
 rw [if_neg (by rw [h5];simp)]
 simp only [tZ,↓un_u,simprocAttr,tD,gt_iff_lt]
 refine ⟨fun h6=>?_,fun h6=>?_⟩
 ·rw [if_pos (by omega)]
  exact .oA [] []
 ·rw [if_neg (by omega)]
  exact .oA [] []
theorem jU (s:Sch) (hs:yz s) (q:Qst):Spc Tryz.prog zm [schT s,qstT q] [] (vI (qstE s q)) []:=by
 refine qd KT mixm (by simp) fun e _ hst=>qg ?_
 unfold jC
 refine sW ?_
 refine C1.im (wg s hs.2.1 hs.1) (by rfl) (by rfl) ?_
 simp only [tZ,↓un_u,simprocAttr,bne_iff_ne,bne_eq_false_iff_eq]
 refine ⟨fun h=>?_,fun h=>?_⟩
 ·rw [qstE,if_pos h]
  exact .oA [] []
 rw [qstE,if_neg (by rw [h];simp)]
 refine C1.im (Jk q.name) (by rfl) (by rfl) ?_
 simp only [tZ,↓un_u,simprocAttr,tD,Bool.not_eq_true',Bool.not_eq_false']
 refine ⟨fun h2=>?_,fun h2=>?_⟩
 ·rw [if_pos h2]
  exact .oA [] []
 rw [if_neg (by rw [h2];simp)]
 refine ⟨fun h3=>?_,fun h3=>?_⟩
 ·rw [if_pos (by omega)]
  exact .oA [] []
 rw [if_neg (by omega)]
 refine C1.im (yV s hs q.filt) (by rfl) (by rfl) ?_
 simp only [tZ,↓un_u,simprocAttr,bne_iff_ne,bne_eq_false_iff_eq,beq_iff_eq,beq_eq_false_iff_ne]
 refine ⟨fun h4=>?_,fun h4=>?_⟩
 ·rw [if_pos h4]
  exact .oA [] []
 rw [if_neg (by rw [h4];simp)]
 refine ⟨fun h5=>?_,fun h5=>⟨fun h6=>?_,fun h6=>?_⟩⟩
 ·refine C1.im (qf2 s hs q) (by rfl) (by rfl) ?_
  rw [show (if jH s q≠0 then jH s q else if (q.kind≠1∧0 < q.dims.length)∨(q.kind≠2∧0 < q.terms.length)∨(q.kind≠3∧Kq q.event cnd0 = false) then 11 else 0) = tabE s q by
   rw [jH,if_pos h5,tabE]
   grind]
  refine sW ?_
  exact .oA [] []
 ·refine C1.im (qf3 s q) (by rfl) (by rfl) ?_
  rw [show (if jH s q≠0 then jH s q else if (q.kind≠1∧0 < q.dims.length)∨(q.kind≠2∧0 < q.terms.length)∨(q.kind≠3∧Kq q.event cnd0 = false) then 11 else 0) = modE s q by
   rw [jH,if_neg h5,if_pos h6,modE]
   grind]
  refine sW ?_
  exact .oA [] []
 ·refine C1.im (qf4 s hs q) (by rfl) (by rfl) ?_
  rw [show (if jH s q≠0 then jH s q else if (q.kind≠1∧0 < q.dims.length)∨(q.kind≠2∧0 < q.terms.length)∨(q.kind≠3∧Kq q.event cnd0 = false) then 11 else 0) = curE s q by
   rw [jH,if_neg h5,if_neg h6,curE]
   grind]
  refine sW ?_
  exact .oA [] []
end Go.Proofs
namespace Go.Proofs
open Go Go.TL
set_option maxRecDepth 4000
set_option maxHeartbeats 8000000
def usB (q:Qst) (k:Int):Bool:=decide (k > 0) && zE3 q k
theorem Ws (q:Qst) (k:Int) (ht:q.terms.length < 4611686018427387904):Spc Tryz.prog wi [qstT q,vI k] [] (vB (usB q k)) []:=by
 refine qd qp0 mixm (by simp) fun e _ hst=>qg ?_
 unfold yL
 refine sW ?_
 refine C2.im (fun _=>Qj q.terms k ht) (fun _=>rfl) (by rfl) ?_
 refine sW ?_
 rw [show (decide (k > 0) && ((q.meas == k) || q.terms.contains k)) = usB q k from rfl]
 exact .oA [] []
def cnsL (q:Qst):List Cnd:=if q.kind = 3 then [q.filt,q.event] else [q.filt]
theorem Kw (q:Qst):Spc Tryz.prog kA [qstT q] [] (vCs (cnsL q)) []:=by
 refine qd qi8 mixm (by simp) fun e _ hst=>qg ?_
 unfold yh
 simp only [tZ,↓un_u,simprocAttr,beq_iff_eq,beq_eq_false_iff_ne]
 refine ⟨fun h=>?_,fun h=>?_⟩
 ·rw [cnsL,if_pos h]
  show Qm [] _ _ (.sl 6 [cndT q.filt,cndT q.event]) []
  rw [zj,zj]
  exact .oA [] [12304]
 ·rw [cnsL,if_neg h]
  show Qm [] _ _ (.sl 6 [cndT q.filt]) []
  rw [zj]
  exact .oA [] [16392]
def canB (s:Sch) (c v:Int):Bool:=decide (1≤c) && decide (c < s.cols.length) && kZ s c.toNat v
theorem jd3 {s:Sch} (hE:schE s = 0) {i:Nat} (h0:0 < i) (hi:i < s.cols.length) (v:Int):((qY1 s i (finI s i) v).2 && ((qY1 s i (finI s i) v).1 == v)) = kZ s i v:=by
 have hok:=qS hE
 have hk:=qX (hok.cs i hi)
 have h1:=hk.2.2.1 h0
 by_cases h2:(qj s i).kind = 2
 ·rw [qY1,if_neg (by omega)]
  have hself:∀ l∈qH s i,upC (qD s i) l (finI s i) = l:=fun l hl=>by
   have h3:=qf1 hE h0 hi h2 hl
   have h4:=Ko h2 (hok.cdl hi h2).2 hl
   have h5:0≤finI s i:=by
    obtain ⟨_,d2⟩:=hok.cdl hi h2
    rw [finI,if_neg (by omega),Int.toNat_natCast,if_pos h2,qy0 d2];omega
   rw [qK,if_neg (by rw [Bool.not_eq_false,QJ];omega),Int.toNat_natCast,if_pos h2,if_neg (by rw [h4];simp)] at h3
   exact h3
  cases hf:(qH s i).find? fun l=>upC (qD s i) l (finI s i) == v with
  | none=>
    rw [List.find?_eq_none] at hf
    show false = _
    symm
    cases hh:kZ s i v with
    | false=>rfl
    | true=>
      rw [kZ,if_neg (by omega),if_pos h2,Bool.and_eq_true,QJ,beq_iff_eq] at hh
      obtain ⟨⟨g1,g2⟩,g3⟩:=hh
      obtain ⟨c,rfl⟩:=Int.eq_ofNat_of_zero_le g1
      obtain ⟨_,d2⟩:=hok.cdl hi h2
      rw [lvlC,if_neg (not_or.2 ⟨fun h=>h d2,by omega⟩),Int.toNat_natCast] at g3
      have hm:=(Kt hok hi h2).2 ⟨c,rfl,by omega,g3⟩
      have:=hf _ hm
      rw [hself _ hm] at this
      simp at this
  | some l=>
    have h3:=List.mem_of_find?_eq_some hf
    have h4:=List.find?_some hf
    rw [hself l h3,beq_iff_eq] at h4
    subst h4
    show (true && (l == l)) = _
    rw [Ko h2 (hok.cdl hi h2).2 h3]
    simp
 ·have h3:(qj s i).kind = 3:=by omega
  have hm:=hk.2.2.2.2 h3
  have hwl:1≤(qj s i).widths.length:=by unfold measE at hm;grind
  have hf:finI s i = (qj s i).widths.length:=by rw [finI,if_neg (by omega),Int.toNat_natCast,if_neg h2]
  obtain ⟨_,_,_,_,w5,w6,w7,w8⟩:=hok.wid hi h0 h2 (lev:=(qj s i).widths.length) (by omega)
  have hS:qY1 s i (qj s i).widths.length v = if 0 < ((qj s i).widths.length:Int)∧v = wC then (v,(qj s i).opt) else ((qq8 (qj s i) (qj s i).widths.length v).1,(qq8 (qj s i) (qj s i).widths.length v).2.2):=by rw [qY1,if_pos h3]
  have hH:kZ s i v = (((qj s i).opt && (v == wC)) || inB v (qj s i).low (qj s i).high):=by rw [kZ,if_neg (by omega),if_neg h2]
  rw [hf,hS,hH]
  generalize qj s i = x at w5 w6 w7 w8 hwl ⊢
  by_cases hv:v = wC
  ·subst hv
   rw [if_pos ⟨by omega,rfl⟩,show inB wC x.low x.high = false from ql1.2 (.inl (by unfold wC;omega))]
   simp
  ·rw [if_neg (fun h=>hv h.2),beq_eq_false_iff_ne.2 hv,Bool.and_false,Bool.false_or,qq8,if_neg (by omega)]
   by_cases hr:v < -2000000∨v > 1000000
   ·rw [if_pos hr,show inB v x.low x.high = false from ql1.2 (by omega)]
    rfl
   ·rw [if_neg hr,w8]
    have:qz v 1 * 1 = v:=by unfold qz;simp
    dsimp only
    rw [this,beq_self_eq_true,Bool.true_and,Bool.eq_iff_iff,Bool.and_eq_true,decide_eq_true_eq,beq_iff_eq,QJ]
    omega
theorem YB (s:Sch) (hE:schE s = 0) (c v:Int):Spc Tryz.prog wQ [schT s,vI c,vI v] [] (vB (canB s c v)) []:=by
 have hok:=qS hE
 refine qd qu7 mixm (by simp) fun e _ hst=>qg ?_
 unfold Qt
 refine sD ?_
 refine ⟨fun h=>?_,fun h=>?_⟩
 ·rw [show canB s c v = false by
   unfold canB
   rw [show (decide (1≤c) && decide (c < s.cols.length)) = false by rw [Bool.and_eq_false_iff,decide_eq_false_iff_not,decide_eq_false_iff_not];omega]
   rfl]
  exact .oA [] []
 obtain ⟨i,rfl⟩:=Int.eq_ofNat_of_zero_le (show 0≤c by omega)
 have hi:i < s.cols.length:=by omega
 rw [show canB s i v = kZ s i v by unfold canB;rw [decide_eq_true (by omega),decide_eq_true (by omega),Int.toNat_natCast];rfl]
 rw [← jd3 hE (by omega) hi]
 refine C1.im (yv s hok.sm i) (by rfl) (by rfl) ?_
 refine sW ?_
 have hf0:0≤finI s i:=by
  rw [finI,if_neg (by omega),Int.toNat_natCast]
  split
  ·rename_i h2
   obtain ⟨_,d2⟩:=hok.cdl hi h2
   rw [qy0 d2];omega
  ·omega
 refine C1.im (qY2 s hE i hi (by omega) (finI s i) v ⟨hf0,by omega⟩) (by rfl) (by rfl) ?_
 refine sW ?_
 repeat (first | refine ⟨by omega,?_⟩ | refine ⟨by kernel_rfl,?_⟩)
 exact .oA [] []
def jd4 (s:Sch) (q:Qst) (k a b:Int):Bool:=(usB q k && (a != b)) || (q.dims.any fun d=>(d.col == k) && (qK s k d.lev a != qK s k d.lev b)) || ((cnsL q).any fun c=>(atsC c).any fun x=>(x.col == k) && (jT s x a != jT s x b))
theorem jd5 {s:Sch} {q:Qst} (h:qstE s q = 0):schE s = 0∧(∀ c∈cnsL q,chkC s c = 0)∧q.dims.length≤3∧q.terms.length≤3:=by
 unfold qstE at h
 split at h
 ·rename_i h1;exact absurd h h1
 rename_i h1
 split at h
 ·cases h
 split at h
 ·cases h
 split at h
 ·rename_i h4;exact absurd h h4
 rename_i h4
 split at h
 ·rename_i h5;exact absurd h h5
 rename_i h5
 split at h
 ·cases h
 rename_i h6
 refine ⟨Classical.byContradiction h1,fun c hc=>?_,?_,?_⟩
 ·unfold cnsL at hc
  split at hc
  ·rename_i h7
   rcases List.mem_cons.1 hc with e | hc
   ·rw [e];exact Classical.byContradiction h4
   ·rw [List.mem_singleton.1 hc]
    refine Classical.byContradiction fun k=>h5 ?_
    rw [jH,if_neg (by omega),if_neg (by omega)]
    split
    ·simp
    ·split
     ·simp
     ·exact k
  ·rw [List.mem_singleton.1 hc];exact Classical.byContradiction h4
 ·by_cases h7:q.kind = 1
  ·refine Classical.byContradiction fun k=>h5 ?_
   rw [jH,if_pos h7,if_pos] <;> rw [Ze,if_pos (by omega)] <;> simp
  ·refine Classical.byContradiction fun k=>h6 (.inl ⟨h7,by omega⟩)
 ·by_cases h7:q.kind = 2
  ·refine Classical.byContradiction fun k=>h5 ?_
   rw [jH,if_neg (by omega),if_pos h7]
   split
   ·simp
   ·rw [kJ,if_pos (by omega)];simp
  ·refine Classical.byContradiction fun k=>h6 (.inr (.inl ⟨h7,by omega⟩))
end Go.Proofs
namespace Go.Proofs
open Go Go.TL
set_option maxRecDepth 4000
set_option maxHeartbeats 8000000
def mxl:List Pk→Int→Int
 | [],_=>0
 | p :: r,k=>if p.col = k then max p.lev (mxl r k) else mxl r k
theorem qf5:∀ (l:List Pk) (k:Int),0≤mxl l k
 | [],_=>Int.le_refl _
 | p :: r,k=>by
   have:=qf5 r k
   rw [mxl]
   split <;> omega
theorem qZ2:∀ (a b:List Pk) (k:Int),mxl (a ++ b) k = max (mxl a k) (mxl b k)
 | [],b,k=>by
   have:=qf5 b k
   rw [List.nil_append,mxl];omega
 | p :: r,b,k=>by
   have:=qZ2 r b k
   rw [List.cons_append,mxl,mxl,this]
   split <;> omega
theorem jd6 (l:List Pk) (p:Pk) (k:Int):mxl (l ++ [p]) k = if p.col = k then max (mxl l k) p.lev else mxl l k:=by
 have:=qf5 l k
 rw [qZ2,mxl,mxl]
 split <;> omega
theorem qm3:∀ {l:List Pk} {k:Int},(∀ p∈l,p.col≠k)→mxl l k = 0
 | [],_,_=>rfl
 | p :: r,k,h=>by
   rw [mxl,if_neg (h p (by simp)),qm3 fun x hx=>h x (List.mem_cons_of_mem _ hx)]
theorem zz7 {f:Nat→Int} (hf:∀ k,0≤f k):∀ {n:Nat} (k:Nat),mxl (canF f n) k = if k < n then f k else 0
 | 0,k=>by rw [if_neg (by omega)];rfl
 | n + 1,k=>by
   have ih:=zz7 hf (n:=n) k
   have hk:=hf k
   have hn:=hf n
   rw [canF,qZ2,ih]
   by_cases e:n = k
   ·subst e
    rw [if_neg (show ¬ n < n by omega),if_pos (show n < n + 1 by omega)]
    split
    ·have:mxl [(⟨(n:Nat),f n⟩:Pk)] n = max (f n) 0:=by rw [mxl,if_pos rfl];rfl
     rw [this];omega
    ·rw [mxl];omega
   ·have h0:mxl (if 0 < f n then [(⟨n,f n⟩:Pk)] else []) k = 0:=qm3 fun p hp=>by
     split at hp
     ·rw [List.mem_singleton.1 hp];dsimp only;omega
     ·simp at hp
    rw [h0]
    by_cases h:k < n
    ·rw [if_pos h,if_pos (by omega)];omega
    ·rw [if_neg h,if_neg (by omega)];omega
theorem qr8 {n:Nat}:∀ (l:List Pk) {f:Nat→Int},(∀ k,0≤f k)→(∀ p∈l,0≤p.col∧p.col < n)→ZS (canF f n) l = canF (fun k=>max (f k) (mxl l k)) n
 | [],f,hf,_=>by
   show canF f n = _
   exact Kv fun k _=>by have:=hf k;rw [mxl];omega
 | p :: r,f,hf,h=>by
   obtain ⟨h1,h2⟩:=h p (by simp)
   obtain ⟨c,hc⟩:=Int.eq_ofNat_of_zero_le h1
   have e:ZS (canF f n) (p :: r) = ZS (Zd (canF f n) p.col p.lev) r:=rfl
   rw [e,hc,qS0 hf (by omega),qr8 r (fun k=>by have:=hf k;unfold upd;split <;> omega) fun x hx=>h x (List.mem_cons_of_mem _ hx)]
   refine Kv fun k _=>?_
   have:=hf k
   have h3:=qf5 r k
   unfold upd
   rw [mxl,hc]
   by_cases e:k = c
   ·subst e
    rw [if_pos rfl,if_pos rfl];omega
   ·rw [if_neg e,if_neg (by omega)]
theorem zE6 (n:Nat):canF (fun _=>0) n = []:=qG4 fun _ _=>Int.le_refl _
theorem zV1 {n:Nat} {l:List Pk} (h:∀ p∈l,0≤p.col∧p.col < n):ZS [] l = canF (fun k=>mxl l k) n:=by
 rw [← zE6 n,qr8 l (fun _=>Int.le_refl _) h]
 exact Kv fun k _=>by have:=qf5 l k;omega
theorem qG9 (a l m:List Pk):ZS a (l ++ m) = ZS (ZS a l) m:=List.foldl_append
theorem zk5 {α:Type} (f:α→Pk) (m:List α):∀ l,ZS l (m.map f) = m.foldl (fun l x=>Zd l (f x).col (f x).lev) l:=by
 induction m with
 | nil=>intro l;rfl
 | cons x r ih=>intro l;exact ih _
def atP (s:Sch) (c:Cnd):List Pk:=(atsC c).map fun a=>⟨a.col,decN s a⟩
theorem zp5 {s:Sch} {c:Cnd} (h:chkC s c = 0):zM s c = ZS [] (atP s c):=by
 rw [zM,if_neg (by rw [h];simp),atP,zk5]
theorem qr9 {s:Sch} {c:Cnd} (h:chkC s c = 0):zM s c = canF (fun k=>mxl (atP s c) k) s.cols.length∧∀ p∈atP s c,1≤p.col∧p.col < s.cols.length:=by
 obtain ⟨hE,k2,k3,k4⟩:=qF8 h
 have hb:∀ p∈atP s c,1≤p.col∧p.col < s.cols.length:=fun p hp=>by
  obtain ⟨a,ha,rfl⟩:=List.mem_map.1 hp
  obtain ⟨hnd,hia⟩:=zz1 c k4 a ha
  obtain ⟨n1,n2,n3⟩:=qG2 hE hnd hia
  obtain ⟨_,c1,c2,_⟩:=yU (s:=s) (c:=a.col) (by omega)
  exact ⟨c1,c2⟩
 refine ⟨?_,hb⟩
 rw [zp5 h]
 exact zV1 fun p hp=>by have:=hb p hp;omega
theorem jd7 {s:Sch} {c:Cnd} (h:chkC s c = 0):∀ p∈zM s c,1≤p.col∧p.col < s.cols.length:=fun p hp=>by
 obtain ⟨h1,h2⟩:=qr9 h
 rw [h1,zz5] at hp
 obtain ⟨k,k1,k2,rfl⟩:=hp
 refine ⟨?_,by dsimp only;omega⟩
 dsimp only
 by_cases e:k = 0
 ·subst e
  rw [qm3 fun q hq=>by have:=h2 q hq;omega] at k2
  omega
 ·omega
theorem zV2 {s:Sch} {c:Cnd} (h:chkC s c = 0) (k:Nat):mxl (zM s c) k = mxl (atP s c) k:=by
 obtain ⟨h1,h2⟩:=qr9 h
 rw [h1,zz7 fun k=>qf5 _ _]
 split
 ·rfl
 ·exact (qm3 fun q hq=>by have:=h2 q hq;omega).symm
def dmP (s:Sch) (q:Qst):List Pk:=q.dims.map fun d=>⟨d.col,kr s d.col d.lev⟩
def usP (s:Sch) (q:Qst) (n:Nat):List Pk:=((List.range n).filter fun k:Nat=>usB q k).map fun k:Nat=>⟨k,kr s k (finI s k)⟩
theorem qZ3 (s:Sch) (q:Qst) (n:Nat):usP s q (n + 1) = usP s q n ++ if usB q n = true then [⟨n,kr s n (finI s n)⟩] else []:=by
 rw [usP,List.range_succ,List.filter_append,List.map_append,← usP]
 congr 1
 by_cases h:usB q n = true
 ·rw [if_pos h,List.filter_cons_of_pos (p:=fun k:Nat=>usB q k) h];rfl
 ·rw [if_neg h,List.filter_cons_of_neg (p:=fun k:Nat=>usB q k) h];rfl
theorem zz8 (s:Sch) (q:Qst) (l:List Pk):∀ n:Nat,(List.range n).foldl (yu s q) l = ZS l (usP s q (n + 1))
 | 0=>by
   show l = _
   have h0:usB q (0:Nat) = false:=by simp [usB]
   rw [qZ3,h0,if_neg (by simp)];rfl
 | n + 1=>by
   rw [List.range_succ,List.foldl_append,zz8 s q l n,qZ3 _ _ (n + 1),qG9]
   show yu s q _ n = _
   have h:usB q ((n + 1:Nat):Int) = zE3 q ((n:Int) + 1):=by
    unfold usB
    rw [decide_eq_true (by omega),Bool.true_and];rfl
   rw [yu,h]
   split <;> rfl
def evP (s:Sch) (q:Qst):List Pk:=if q.kind = 3 then zM s q.event else []
theorem zp6 {s:Sch} {q:Qst} (h:qstE s q = 0):Kr s q = ZS (zM s q.filt) (evP s q ++ dmP s q ++ usP s q s.cols.length):=by
 have hq:=qG6 h
 have hnc:=(qS hq.sch).nc
 rw [Kr,if_neg (by rw [h];simp),jn9,zz8,show s.cols.length - 1 + 1 = s.cols.length by omega,qG9,qG9,dmP,zk5,evP]
 congr 2
 split <;> rfl
end Go.Proofs
namespace Go.Proofs
open Go Go.TL
set_option maxRecDepth 4000
set_option maxHeartbeats 8000000
theorem qx2 (s:Sch) (hok:SchOk s) (q:Qst) (hd:q.dims.length≤3) (ht:q.terms.length≤3) (hc:∀ c∈cnsL q,chkC s c = 0) (k a b:Int):Spc Tryz.prog Qo [schT s,qstT q,vI k,vI a,vI b] [] (vB (jd4 s q k a b)) []:=by
 have hs:=hok.sm
 have hT:jd4 s q k a b = ((usB q k && (a != b)) || (q.dims.any fun d=>(d.col == k) && (qK s k d.lev a != qK s k d.lev b)) || ((cnsL q).any fun c=>(atsC c).any fun x=>(x.col == k) && (jT s x a != jT s x b))):=rfl
 have hcl:(cnsL q).length≤2:=by unfold cnsL;split <;> simp
 rw [hT]
 refine qd qo6 mixm (by simp) fun e _ hst=>qg ?_
 unfold yJ
 refine sW ?_
 refine C1.im (Ws q k (by omega)) (by rfl) (by rfl) ?_
 refine sW ?_
 generalize (usB q k && (a != b)) = U
 refine ⟨fun h=>?_,fun h=>?_⟩
 ·rw [h]
  exact .oA [] []
 rw [h,Bool.false_or]
 refine qu mixm (α:=Nat) [28] (fun i=>i≤q.dims.length∧((q.dims.take i).any fun d=>(d.col == k) && (qK s k d.lev a != qK s k d.lev b)) = false) (fun i=>[(28,vI i)]) (fun i=>[(4096,.arr 2 [schT s] false),(4100,.arr 17 [qstT q] false)]) (fun i=>q.dims.length - i) 0 ⟨by omega,rfl⟩ ?_ fun i hi=>?_
 ·exact .oA [(4096,some 4096),(4100,some 4100)] []
 refine sD ?_
 refine ⟨fun h3=>?_,fun h3=>?_⟩
 ·have hi2:i < q.dims.length:=by omega
  have hwi:=qh (i:=i) (by omega)
  simp only [tZ,↓un_u,simprocAttr,Int.toNat_natCast,qe hi2]
  refine ⟨by omega,?_⟩
  have hC:=fun v=>qF6 s hs k q.dims[i].lev v
  refine C2.im (fun _=>hC a) (fun _=>rfl) (by rfl) ?_
  refine sW ?_
  refine C2.im (fun _=>hC b) (fun _=>rfl) (by rfl) ?_
  simp only [tZ,↓un_u,simprocAttr,hwi]
  repeat (first | refine ⟨by omega,?_⟩ | refine ⟨by kernel_rfl,?_⟩)
  refine ⟨fun h4=>?_,fun h4=>?_⟩
  ·rw [qB7 hi2 h4,Bool.true_or]
   exact .oA [] []
  ·refine ⟨i + 1,⟨by omega,ju hi2 hi.2 h4⟩,by omega,?_⟩
   exact .oA [(4096,some 4096),(4100,some 4100)] []
 ·have hil:i = q.dims.length:=by omega
  subst hil
  have hi2:=hi.2
  rw [List.take_length] at hi2
  rw [hi2,Bool.false_or]
  refine C1.im (Kw q) (by rfl) (by rfl) ?_
  generalize cnsL q = L at hc hcl ⊢
  refine sW ?_
  refine qu mixm (α:=Nat) [55] (fun i=>i≤L.length∧((L.take i).any fun c=>(atsC c).any fun x=>(x.col == k) && (jT s x a != jT s x b)) = false) (fun i=>[(55,vI i)]) (fun i=>[(4096,.arr 2 [schT s] false)]) (fun i=>L.length - i) 0 ⟨by omega,rfl⟩ ?_ fun i hi=>?_
  ·exact .oA [(4096,some 4096)] []
  refine sD ?_
  refine ⟨fun h4=>?_,fun h4=>?_⟩
  ·have hi2:i < L.length:=by omega
   have hwi:=qh (i:=i) (by omega)
   obtain ⟨_,k2,_,k4⟩:=qF8 (hc _ (List.getElem_mem hi2))
   have hal:=qr2 L[i] 41 (by omega) k2
   have hao:=zz1 L[i] k4
   have hhit:(((atsC L[i]).any fun x=>(x.col == k) && (jT s x a != jT s x b)) = true)→(L.any fun c=>(atsC c).any fun x=>(x.col == k) && (jT s x a != jT s x b)) = true:=fun h=>qB7 hi2 h
   have hgo:(((atsC L[i]).any fun x=>(x.col == k) && (jT s x a != jT s x b)) = false)→((L.take (i + 1)).any fun c=>(atsC c).any fun x=>(x.col == k) && (jT s x a != jT s x b)) = false:=fun h=>ju hi2 hi.2 h
   simp only [tZ,↓un_u,simprocAttr,Int.toNat_natCast,qe hi2,zj]
   refine ⟨by omega,?_⟩
   refine C1.im (Ku L[i] 41 (by omega) (by omega) k2) (by rfl) (by rfl) ?_
   generalize atsC L[i] = A at hal hao hhit hgo ⊢
   refine sW ?_
   refine qu mixm (α:=Nat) [62] (fun j=>j≤A.length∧((A.take j).any fun x=>(x.col == k) && (jT s x a != jT s x b)) = false) (fun j=>[(62,vI j)]) (fun j=>[(4096,.arr 2 [schT s] false)]) (fun j=>A.length - j) 0 ⟨by omega,rfl⟩ ?_ fun j hj=>?_
   ·exact .oA [(4096,some 4096)] []
   refine sD ?_
   refine ⟨fun h5=>?_,fun h5=>?_⟩
   ·have hj2:j < A.length:=by omega
    have hwj:=qh (i:=j) (by omega)
    obtain ⟨hnd,ha⟩:=hao _ (List.getElem_mem hj2)
    have hAt:=Wp s hok A[j] hnd ha
    simp only [tZ,↓un_u,simprocAttr,Int.toNat_natCast,qe hj2,zj]
    refine ⟨by omega,?_⟩
    refine C2.im (fun _=>hAt a) (fun _=>rfl) (by rfl) ?_
    refine sW ?_
    refine C2.im (fun _=>hAt b) (fun _=>rfl) (by rfl) ?_
    simp only [tZ,↓un_u,simprocAttr,hwj]
    repeat (first | refine ⟨by omega,?_⟩ | refine ⟨by kernel_rfl,?_⟩)
    refine ⟨fun h6=>?_,fun h6=>?_⟩
    ·rw [hhit (qB7 hj2 h6)]
     exact .oA [] []
    ·refine ⟨j + 1,⟨by omega,ju hj2 hj.2 h6⟩,by omega,?_⟩
     exact .oA [(4096,some 4096)] []
   ·have hjl:j = A.length:=by omega
    subst hjl
    have hj2:=hj.2
    rw [List.take_length] at hj2
    simp only [tZ,↓un_u,simprocAttr,hwi]
    refine ⟨i + 1,⟨by omega,hgo hj2⟩,by omega,?_⟩
    exact .oA [(4096,some 4096)] []
  ·have hil:i = L.length:=by omega
   subst hil
   have hi2:=hi.2
   rw [List.take_length] at hi2
   rw [hi2]
   exact .oA [] []
def qS3 (s:Sch) (q:Qst) (k a b:Int):Bool:=(qstE s q == 0) && canB s k a && canB s k b && jd4 s q k a b
theorem qs0 (s:Sch) (hs:yz s) (q:Qst) (k a b:Int):Spc Tryz.prog yD [schT s,qstT q,vI k,vI a,vI b] [] (vB (qS3 s q k a b)) []:=by
 refine qd qh5 mixm (by simp) fun e _ hst=>qg ?_
 unfold yb
 refine sW ?_
 refine C1.im (jU s hs q) (by rfl) (by rfl) ?_
 by_cases h0:qstE s q = 0
 ·obtain ⟨hE,hc,hd,ht⟩:=jd5 h0
  simp only [tZ,↓un_u,simprocAttr,h0,beq_self_eq_true]
  refine C2.im (fun _=>YB s hE k a) (fun _=>rfl) (by rfl) ?_
  refine sW ?_
  refine C2.im (fun _=>YB s hE k b) (fun _=>rfl) (by rfl) ?_
  refine sW ?_
  refine C2.im (fun _=>qx2 s (qS hE) q hd ht hc k a b) (fun _=>rfl) (by rfl) ?_
  refine sW ?_
  rw [show qS3 s q k a b = (canB s k a && canB s k b && jd4 s q k a b) by rw [qS3,h0];simp]
  exact .oA [] []
 ·have e:(qstE s q == 0) = false:=beq_eq_false_iff_ne.2 h0
  rw [show qS3 s q k a b = false by rw [qS3,e];rfl]
  simp only [tZ,↓un_u,simprocAttr,e]
  refine C2.no (by simp) ?_
  refine sW ?_
  refine C2.no (by simp) ?_
  refine sW ?_
  refine C2.no (by simp) ?_
  refine sW ?_
  exact .oA [] []
end Go.Proofs
namespace Go.Proofs
open Go Go.TL
set_option maxRecDepth 4000
set_option maxHeartbeats 8000000
end Go.Proofs
