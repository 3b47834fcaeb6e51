/- A part of the proof: trees of Go values, short forms, contracts. -/
import Derived.WalkKit
import Derived.Still
import Derived.MapKept
import GoSem.Builtin.Cap
import Derived.Laws.Externs
import GoSem.Extern.SlicesOverlaps
import Derived.Carry
import Derived.ProofKit
import Derived.OpenShut
import Derived.HandedShaped
import Derived.Lay
import Derived.LaidLaws
import Derived.MakeChecks
import Derived.SevenTiedAt
import Derived.Test.YtpmgddadeedmbaaGreatDoorChecked
import Derived.Test.YtpmgddadeedmbaaGreatDoorK15
set_option linter.unusedSimpArgs false
set_option linter.unusedVariables false
namespace Go.Proofs
open Go Go.TL
theorem SchOk.sm {s:Sch} (h:SchOk s):Js s:=by
 have h1:=h.nl
 have h2:=h.nc
 refine ⟨by omega,by omega,fun l hl=>?_⟩
 obtain ⟨i,hi,rfl⟩:=List.getElem_of_mem hl
 have h3:=h.ls i hi
 rw [qh hi] at h3
 have:=(zr h3).2.2
 omega
theorem qB3 {l:CodL} : -1≤zh l∧zh l≤60:=by
 unfold zh
 split
 ·omega
 ·rename_i h
  obtain ⟨hp,h1,h2⟩:=zr (Classical.byContradiction h)
  have:=qq2 hp (l.codes.length - 1) (by omega)
  omega
theorem YP (s:Sch) (hs:Js s) (c:Int):Spc Tryz.prog Qk [schT s,vI c] [] (vI (finI s c)) []:=by
 have hs2:=hs.2.1
 refine qd qy5 mixm (by simp) fun e _ hst=>qk ?_
 unfold Zu
 refine sW ?_
 refine C1.im (qO2 s hs) (by rfl) (by rfl) ?_
 simp only [tZ,↓un_u,simprocAttr,tD,bne_iff_ne,bne_eq_false_iff_eq]
 refine ⟨fun h=>?_,fun h=>?_⟩
 ·rw [finI,if_pos (by omega)]
  exact .oA [] []
 have hok:=qW h.1.1
 obtain ⟨i,rfl⟩:=Int.eq_ofNat_of_zero_le (show 0≤c by omega)
 have hi:i < s.cols.length:=by omega
 have hat:qg s i = s.cols[i]:=by rw [qg,qh hi]
 have hk:=ze (hok.cs i hi)
 have hcd:=fun e=>hok.cdl hi e
 have hcl:qE s i = s.lists.getD s.cols[i].list.toNat default:=by rw [qE,hat]
 rw [hat] at hk hcd
 rw [hcl] at hcd
 rw [finI,if_neg (by omega),Int.toNat_natCast,hcl,hat]
 simp only [tZ,↓un_u,simprocAttr,Int.toNat_natCast,qe hi]
 generalize s.cols[i] = x at hk hcd ⊢
 simp only [tZ,↓un_u,simprocAttr,beq_iff_eq,beq_eq_false_iff_ne]
 refine ⟨by omega,fun h2=>?_,fun h2=>?_⟩
 ·obtain ⟨d1,d2⟩:=hcd h2
  obtain ⟨d3,d4⟩:=hk.2.2.2.1 h2
  have hgl:s.lists.getD x.list.toNat default = s.lists[x.list.toNat]:=qh d1
  rw [if_pos h2]
  rw [hgl] at d2 ⊢
  obtain ⟨_,d5,d6⟩:=zr d2
  simp only [tZ,↓un_u,simprocAttr,qe d1]
  generalize s.lists[x.list.toNat] = l at d2 d5 d6 ⊢
  have hlv:=qB3 (l:=l)
  have hw2:IntKind.i64.wrap (zh l - 1) = zh l - 1:=IntWalk.i64_in _ (by omega)
  refine ⟨by omega,?_⟩
  refine C1.im (qG3 l (by omega)) (by rfl) (by rfl) ?_
  simp only [tZ,↓un_u,simprocAttr,hw2]
  exact .oA [] []
 ·rw [if_neg h2]
  exact .oA [] []
theorem zT2 {a b:Int} (hb:0 < b):qD a b = if a.tmod b < 0 then a.tdiv b - 1 else a.tdiv b:=by
 have h1:=Int.mul_tdiv_add_tmod a b
 have h2:=Int.tmod_lt_of_pos a hb
 have h3:=Int.lt_tmod_of_pos a hb
 unfold qD
 rw [Int.fdiv_eq_ediv_of_nonneg _ (by omega)]
 split
 ·refine ((Int.ediv_emod_unique (r:=a.tmod b + b) hb).2 ⟨?_,by omega,by omega⟩).1
  rw [Int.mul_sub];omega
 ·refine ((Int.ediv_emod_unique (r:=a.tmod b) hb).2 ⟨by omega,by omega,by omega⟩).1
end Go.Proofs
namespace Go.Proofs
open Go Go.TL
namespace Cnd
mutual
theorem ind' {p:Cnd→Prop} (h:∀ c,(∀ k∈c.kids,p k)→p c):∀ c,p c
 | .mk _ _ _ _ _ ks=>h _ (inds h ks)
theorem inds {p:Cnd→Prop} (h:∀ c,(∀ k∈c.kids,p k)→p c):∀ ks:List Cnd,∀ k∈ks,p k
 | [],_,hk=>absurd hk (by simp)
 | x :: r,k,hk=>by
   rcases List.mem_cons.1 hk with e | hk
   ·rw [e];exact ind' h x
   ·exact inds h r k hk
end
end Cnd
mutual
def cntC:Cnd→Int→Int
 | .mk _ _ _ _ _ ks,m=>yu ks m 1
def yu:List Cnd→Int→Int→Int
 | [],_,n=>n
 | k :: r,m,n=>if n < m then yu r m (n + cntC k (m - n)) else n
end
theorem qc6 (c:Cnd) (m:Int):cntC c m = yu c.kids m 1:=by cases c;rw [cntC];rfl
mutual
def depC:Cnd→Nat
 | .mk _ _ _ _ _ ks=>wF ks + 1
def wF:List Cnd→Nat
 | []=>0
 | k :: r=>max (depC k) (wF r)
end
theorem qB4 (c:Cnd):depC c = wF c.kids + 1:=by cases c;rw [depC];rfl
def isB (s:Sch) (col kind:Int):Bool:=decide (0≤col) && decide (col < s.cols.length) && ((qg s col.toNat).kind == kind)
def arC (op:Int):Nat:=if op = 5∨op = 6 then 2 else if op = 7 then 1 else 0
def ndE (s:Sch) (c:Cnd):Int:=
 if c.op < 1∨7 < c.op then 4
 else if c.kids.length≠arC c.op∨(c.op≠2∧c.op≠3∧c.op≠4∧c.col≠0)∨(c.op≠2∧c.code≠0)∨(c.op≠3∧(c.lo≠0∨c.hi≠0)) then 11
 else if (c.op = 2∧isB s c.col 2 = false)∨(c.op = 3∧isB s c.col 3 = false)∨(c.op = 4∧(isB s c.col 3 = false∨(qg s c.col.toNat).opt = false)) then 7
 else if c.op = 2∧(c.code < 0∨c.code≥(qE s c.col.toNat).codes.length) then 6
 else if c.op = 3∧(c.lo < -1000000∨c.hi > 1000000∨c.lo > c.hi) then 2 else 0
mutual
def nodE (s:Sch):Cnd→Int
 | .mk op col code lo hi ks=>if ndE s (.mk op col code lo hi ks)≠0 then ndE s (.mk op col code lo hi ks) else QT s ks
def QT (s:Sch):List Cnd→Int
 | []=>0
 | k :: r=>if nodE s k≠0 then nodE s k else QT s r
end
theorem zf0 (s:Sch) (c:Cnd):nodE s c = if ndE s c≠0 then ndE s c else QT s c.kids:=by cases c;rw [nodE];rfl
def chkC (s:Sch) (c:Cnd):Int:=if schE s≠0 then schE s else if cntC c 41 > 40 then 1 else if depC c > 10 then 22 else nodE s c
theorem qZ1 {s:Sch}:∀ {l:List Cnd},QT s l = 0→∀ k∈l,nodE s k = 0
 | [],_,k,hk=>absurd hk (by simp)
 | x :: r,h,k,hk=>by
   rw [QT] at h
   split at h
   ·rename_i h1;exact absurd h h1
   ·rename_i h1
    rcases List.mem_cons.1 hk with e | hk
    ·rw [e];exact Classical.byContradiction h1
    ·exact qZ1 h k hk
theorem jf4 {s:Sch} {c:Cnd} (h:nodE s c = 0):ndE s c = 0∧∀ k∈c.kids,nodE s k = 0:=by
 rw [zf0] at h
 split at h
 ·rename_i h1;exact absurd h h1
 ·rename_i h1
  exact ⟨Classical.byContradiction h1,qZ1 h⟩
theorem jd {s:Sch} {col kind:Int}:isB s col kind = true↔0≤col∧col < s.cols.length∧(qg s col.toNat).kind = kind:=by
 unfold isB
 simp only [Bool.and_eq_true,decide_eq_true_eq,beq_iff_eq,and_assoc]
structure NdOk (s:Sch) (c:Cnd):Prop where
 op:1≤c.op∧c.op≤7
 nk:c.kids.length = arC c.op
 under:c.op = 2→isB s c.col 2 = true∧0≤c.code∧c.code < (qE s c.col.toNat).codes.length
 between:c.op = 3→isB s c.col 3 = true∧-1000000≤c.lo∧c.hi≤1000000∧c.lo≤c.hi
 miss:c.op = 4→isB s c.col 3 = true∧(qg s c.col.toNat).opt = true
theorem ja9 {s:Sch} {c:Cnd} (h:ndE s c = 0):NdOk s c:=by
 unfold ndE at h
 split at h
 ·cases h
 rename_i h1
 split at h
 ·cases h
 rename_i h2
 split at h
 ·cases h
 rename_i h3
 split at h
 ·cases h
 rename_i h4
 split at h
 ·cases h
 rename_i h5
 refine ⟨by omega,Classical.byContradiction fun e=>h2 (.inl e),fun e=>⟨?_,by omega,by omega⟩,fun e=>⟨?_,by omega,by omega,by omega⟩,fun e=>⟨?_,?_⟩⟩
 ·cases e2:isB s c.col 2 with
  | true=>rfl
  | false=>exact absurd (.inl ⟨e,e2⟩) h3
 ·cases e2:isB s c.col 3 with
  | true=>rfl
  | false=>exact absurd (.inr (.inl ⟨e,e2⟩)) h3
 ·cases e2:isB s c.col 3 with
  | true=>rfl
  | false=>exact absurd (.inr (.inr ⟨e,.inl e2⟩)) h3
 ·cases e2:(qg s c.col.toNat).opt with
  | true=>rfl
  | false=>exact absurd (.inr (.inr ⟨e,.inr e2⟩)) h3
def isAt (c:Cnd):Bool:=(c.op == 2) || (c.op == 3) || (c.op == 4)
def tf (b:Bool):Int:=if b then 1 else -1
def kZ (s:Sch) (c:Cnd) (v:Int):Int:=
 if c.op = 2 then tf (qq3 (qE s c.col.toNat) v c.code)
 else if c.op = 3 then (if v = qc5 then 0 else tf (decide (c.lo≤v) && decide (v≤c.hi)))
 else if c.op = 4 then tf (v == qc5) else -1
def jn6 (op:Int) (ks:List Int):Int:=if op = 7 then - ks.getD 0 0 else if op = 5 then min (ks.getD 0 0) (ks.getD 1 0) else if op = 6 then max (ks.getD 0 0) (ks.getD 1 0) else 1
mutual
def evC (s:Sch) (row:List Int):Cnd→Int
 | .mk op col code lo hi ks=>if isAt (.mk op col code lo hi ks) = true then kZ s (.mk op col code lo hi ks) (row.getD col.toNat 0) else jn6 op (evCs s row ks)
def evCs (s:Sch) (row:List Int):List Cnd→List Int
 | []=>[]
 | k :: r=>evC s row k :: evCs s row r
end
def jn7 (s:Sch) (c:Cnd) (row:List Int):Int:=if chkC s c≠0∨rowE s row≠0 then 0 else evC s row c
mutual
def atsC:Cnd→List Cnd
 | .mk op col code lo hi ks=>if isAt (.mk op col code lo hi ks) = true then [.mk op col code lo hi ks] else JK ks
def JK:List Cnd→List Cnd
 | []=>[]
 | k :: r=>atsC k ++ JK r
end
theorem qO3 (c:Cnd):atsC c = if isAt c = true then [c] else JK c.kids:=by cases c;rw [atsC];rfl
theorem qn9:∀ (l:List Cnd) (k:Cnd),JK (l ++ [k]) = JK l ++ atsC k
 | [],k=>by simp [JK]
 | x :: r,k=>by simp [JK,qn9 r k]
theorem zp2 {s:Sch}:∀ c,nodE s c = 0→∀ a∈atsC c,NdOk s a∧isAt a = true:=by
 refine Cnd.ind' fun c ih h a ha=>?_
 obtain ⟨h1,h2⟩:=jf4 h
 rw [qO3] at ha
 split at ha
 ·rename_i h3
  rw [List.mem_singleton] at ha
  rw [ha]
  exact ⟨ja9 h1,h3⟩
 ·have key:∀ l:List Cnd,(∀ k∈l,k∈c.kids)→a∈JK l→NdOk s a∧isAt a = true:=by
   intro l
   induction l with
   | nil=>intro _ h;simp [JK] at h
   | cons k r ihl=>
     intro hk h
     rw [JK,List.mem_append] at h
     rcases h with h | h
     ·exact ih k (hk k (by simp)) (h2 k (hk k (by simp))) a h
     ·exact ihl (fun x hx=>hk x (List.mem_cons_of_mem _ hx)) h
  exact key c.kids (fun k hk=>hk) ha
def qB5 (n:Nat) (p:Nat→Nat→Bool):Bool:=(List.range n).all fun i=>(List.range i).all fun k=>p i k
theorem zT3 {p:Nat→Bool} {n:Nat}:(List.range (n + 1)).all p = ((List.range n).all p && p n):=by rw [List.range_succ,List.all_append];simp
theorem jb0 {p:Nat→Bool} {n i:Nat} (h:i < n) (hp:p i = false):(List.range n).all p = false:=List.all_eq_false.2 ⟨i,List.mem_range.2 h,by rw [hp];simp⟩
theorem zu1 {p:Nat→Nat→Bool} {n:Nat}:qB5 (n + 1) p = (qB5 n p && (List.range n).all (p n)):=zT3
theorem zT4 {p:Nat→Nat→Bool} {n i k:Nat} (h:i < n) (hk:k < i) (hp:p i k = false):qB5 n p = false:=jb0 h (jb0 hk hp)
def decP (s:Sch) (c:Cnd) (lev:Nat) (i k:Nat):Bool:=
 !((qK s c.col lev ((qJ s c.col.toNat).getD i 0) == qK s c.col lev ((qJ s c.col.toNat).getD k 0)) && !(kZ s c ((qJ s c.col.toNat).getD i 0) == kZ s c ((qJ s c.col.toNat).getD k 0)))
def decB (s:Sch) (c:Cnd) (lev:Nat):Bool:=
 if c.op = 2 then qB5 (qJ s c.col.toNat).length (decP s c lev)
 else if c.op = 4 then decide (0 < lev)
 else
  let x:=qg s c.col.toNat
  let first:=decide (x.low < c.lo) && decide (c.lo≤x.high)
  let behind:=decide (x.low≤c.hi) && decide (c.hi < x.high)
  if lev = 0 then !x.opt && !first && !behind
  else (!first || (c.lo.tmod (zm x lev) == 0)) && (!behind || ((c.hi + 1).tmod (zm x lev) == 0))
def KG (p:Nat→Bool):Nat→Nat→Nat
 | 0,n=>n
 | f + 1,n=>if p n = true then n else KG p f (n + 1)
theorem qc7 {p:Nat→Bool} {N:Nat} (h:p N = true):∀ (f n:Nat),n≤N→N - n≤f→p (KG p f n) = true∧KG p f n≤N∧n≤KG p f n∧∀ m,n≤m→m < KG p f n→p m = false
 | 0,n,h1,h2=>by
   have:n = N:=by omega
   subst this
   exact ⟨h,Nat.le_refl _,Nat.le_refl _,fun m h3 h4=>by rw [KG] at h4;omega⟩
 | f + 1,n,h1,h2=>by
   rw [KG]
   split
   ·rename_i hp
    exact ⟨hp,h1,Nat.le_refl _,fun m h3 h4=>by omega⟩
   ·rename_i hp
    have hn:n≠N:=fun e=>hp (e ▸ h)
    obtain ⟨a,b,c,d⟩:=qc7 h f (n + 1) (by omega) (by omega)
    refine ⟨a,b,by omega,fun m h3 h4=>?_⟩
    by_cases e:m = n
    ·rw [e];simpa using hp
    ·exact d m (by omega) h4
def decN (s:Sch) (c:Cnd):Nat:=KG (decB s c) 64 0
def qG5 (col lev:Int):List Pk×Bool→Pk→List Pk×Bool:=fun x p=>
 let y:=if p.col > col∧x.2 = false then (x.1 ++ [⟨col,lev⟩],true) else x
 if p.col = col then (y.1 ++ [⟨p.col,max p.lev lev⟩],true) else (y.1 ++ [p],y.2)
def YD (l:List Pk) (col lev:Int):List Pk:=
 let x:=l.foldl (qG5 col lev) ([],decide (lev≤0))
 if x.2 then x.1 else x.1 ++ [⟨col,lev⟩]
def jO (s:Sch) (c:Cnd):List Pk:=if chkC s c≠0 then [] else (atsC c).foldl (fun l a=>YD l a.col (decN s a)) []
def covB (a b:List Pk):Bool:=a.all fun x=>b.any fun y=>(y.col == x.col) && decide (y.lev≥x.lev)
mutual
def qc8:Cnd→Cnd→Bool
 | .mk a1 a2 a3 a4 a5 ks,.mk b1 b2 b3 b4 b5 ls=>(a1 == b1) && (a2 == b2) && (a3 == b3) && (a4 == b4) && (a5 == b5) && qZ2 ks ls
def qZ2:List Cnd→List Cnd→Bool
 | [],[]=>true
 | k :: r,l :: t=>qc8 k l && qZ2 r t
 | [],_ :: _=>false
 | _ :: _,[]=>false
end
theorem zT5 (a b:Cnd):qc8 a b = ((a.op == b.op) && (a.col == b.col) && (a.code == b.code) && (a.lo == b.lo) && (a.hi == b.hi) && qZ2 a.kids b.kids):=by cases a;cases b;rw [qc8];rfl
theorem qB6:∀ c,∀ m,1≤m→1≤cntC c m∧cntC c m≤m:=by
 refine Cnd.ind' fun c ih m hm=>?_
 rw [qc6]
 have key:∀ l:List Cnd,(∀ k∈l,k∈c.kids)→∀ n,1≤n→n≤m→1≤yu l m n∧yu l m n≤m:=by
  intro l
  induction l with
  | nil=>intro _ n h1 h2;rw [yu];exact ⟨h1,h2⟩
  | cons k r ihl=>
    intro hk n h1 h2
    rw [yu]
    split
    ·have:=ih k (hk k (by simp)) (m - n) (by omega)
     exact ihl (fun x hx=>hk x (List.mem_cons_of_mem _ hx)) _ (by omega) (by omega)
    ·exact ⟨h1,h2⟩
 exact key c.kids (fun k hk=>hk) 1 (by omega) hm
theorem qO4:∀ (l:List Cnd) (m n:Int),n≤m→n≤yu l m n
 | [],m,n,_=>by rw [yu];omega
 | k :: r,m,n,h=>by
   rw [yu]
   split
   ·have:=qB6 k (m - n) (by omega)
    have:=qO4 r m (n + cntC k (m - n)) (by omega)
    omega
   ·omega
theorem jf5:∀ c,∀ m,1≤m→cntC c m < m→(depC c:Int)≤cntC c m:=by
 refine Cnd.ind' fun c ih m hm h=>?_
 rw [qc6] at h ⊢
 rw [qB4]
 have key:∀ l:List Cnd,(∀ k∈l,k∈c.kids)→∀ n,1≤n→n≤m→yu l m n < m→n + wF l≤yu l m n:=by
  intro l
  induction l with
  | nil=>intro _ n h1 h2 _;rw [yu,wF];omega
  | cons k r ihl=>
    intro hk n h1 h2 h3
    rw [yu] at h3 ⊢
    rw [wF]
    split at h3
    ·rename_i h4
     rw [if_pos h4]
     have c1:=qB6 k (m - n) (by omega)
     have c2:=qO4 r m (n + cntC k (m - n)) (by omega)
     have c3:=ih k (hk k (by simp)) (m - n) (by omega) (by omega)
     have c4:=ihl (fun x hx=>hk x (List.mem_cons_of_mem _ hx)) (n + cntC k (m - n)) (by omega) (by omega) h3
     omega
    ·omega
 have:=key c.kids (fun k hk=>hk) 1 (by omega) (by omega) h
 omega
end Go.Proofs
namespace Go.Proofs
open Go Go.TL
def zO (f:Nat→Int):Nat→Int
 | 0=>0
 | n + 1=>if zO f n≠0 then zO f n else f n
theorem qZ3 {f:Nat→Int} {i:Nat} (h:zO f i≠0):∀ n,i≤n→zO f n = zO f i:=by
 intro n hn
 induction n with
 | zero=>have:i = 0:=by omega
         rw [this]
 | succ n ih=>
   by_cases e:i = n + 1
   ·rw [e]
   ·have:=ih (by omega)
    rw [zO,this,if_pos h]
theorem JL {f:Nat→Int}:∀ {n:Nat},zO f n = 0→∀ i,i < n→f i = 0
 | 0,_,i,h=>by omega
 | n + 1,h,i,hi=>by
   rw [zO] at h
   split at h
   ·rename_i h2;exact absurd h h2
   ·rename_i h2
    by_cases e:i = n
    ·rw [e];exact h
    ·exact JL (Classical.byContradiction h2) i (by omega)
theorem JM {f:Nat→Int}:∀ {n:Nat},(∀ i,i < n→f i = 0)→zO f n = 0
 | 0,_=>rfl
 | n + 1,h=>by
   rw [zO,JM fun i hi=>h i (by omega),if_neg (by simp)]
   exact h n (by omega)
theorem Qd {f:Nat→Int} {n:Nat} (h:zO f n = 0):zO f (n + 1) = f n:=by rw [zO,if_neg (by rw [h];simp)]
theorem Yh {f:Nat→Int} {i n:Nat} (h:zO f i = 0) (hi:i < n) (hf:f i≠0):zO f n = f i:=by
 rw [qZ3 (i:=i + 1) (by rw [Qd h];exact hf) n (by omega),Qd h]
def Qu (s:Sch) (p:Pk):Int:=if schE s≠0 then schE s else if p.col < 1∨p.col≥s.cols.length then 7 else if inB p.lev 0 (finI s p.col) = false then 8 else 0
abbrev pkAt (l:List Pk) (i:Nat):Pk:=l.getD i default
def qK3 (s:Sch) (l:List Pk) (i:Nat):Int:=if Qu s (pkAt l i)≠0 then Qu s (pkAt l i) else if 0 < i∧(pkAt l i).col≤(pkAt l (i - 1)).col then 10 else 0
def yC (s:Sch) (l:List Pk):Int:=if schE s≠0 then schE s else zO (qK3 s l) l.length
def dimE (s:Sch) (l:List Pk) (i:Nat):Int:=if Qu s (pkAt l i)≠0 then Qu s (pkAt l i) else if isB s (pkAt l i).col 2 = false then 7 else if ((l.take i).any fun x=>x.col == (pkAt l i).col) = true then 10 else 0
def JN (s:Sch) (l:List Pk):Int:=if l.length < 1∨l.length > 3 then 1 else zO (dimE s l) l.length
def qZ4 (s:Sch) (m:Int) (l:List Int) (i:Nat):Int:=if isB s (l.getD i 0) 3 = false then 7 else if l.getD i 0 = m∨(l.take i).contains (l.getD i 0) = true then 10 else 0
def yD (s:Sch) (m:Int) (l:List Int):Int:=if l.length < 1∨l.length > 3 then 1 else zO (qZ4 s m l) l.length
def yv (s:Sch) (q:Qst):Int:=
 if q.kind = 1 then (if JN s q.dims≠0 then JN s q.dims else if q.meas≠-1∧isB s q.meas 3 = false then 7 else 0)
 else if q.kind = 2 then (if isB s q.meas 3 = false then 7 else yD s q.meas q.terms)
 else if isB s q.meas 3 = false then 7 else if (qg s q.meas.toNat).low < 0 then 2 else chkC s q.event
def qstE (s:Sch) (q:Qst):Int:=
 if schE s≠0 then schE s else if jb q.name = false then 3 else if q.kind < 1∨3 < q.kind then 4
 else if chkC s q.filt≠0 then chkC s q.filt else if yv s q≠0 then yv s q
 else if (q.kind≠1∧0 < q.dims.length)∨(q.kind≠2∧0 < q.terms.length)∨(q.kind≠3∧qc8 q.event cnd0 = false) then 11 else 0
abbrev qAt (l:List Qst) (i:Nat):Qst:=l.getD i default
def qsE (s:Sch) (l:List Qst) (i:Nat):Int:=if qstE s (qAt l i)≠0 then qstE s (qAt l i) else if ((l.take i).any fun x=>eqB x.name (qAt l i).name) = true then 10 else 0
def smpE (x:Smp):Int:=if x.of < 1∨x.of > 1000∨x.part < 1∨x.part > x.of∨x.seed < 0∨x.seed > 1099511627776 then 2 else 0
def dclE (s:Sch) (d:Dcl):Int:=
 if schE s≠0 then schE s else if jb d.proj = false∨jb d.src = false then 3 else if chkC s d.coh≠0 then chkC s d.coh
 else if smpE d.smp≠0 then 2 else if d.qs.length < 1∨d.qs.length > 8 then 1 else zO (qsE s d.qs) d.qs.length
theorem qo0 {s:Sch} {d:Dcl} (h:dclE s d = 0):schE s = 0∧jb d.proj = true∧jb d.src = true∧chkC s d.coh = 0∧smpE d.smp = 0∧1≤d.qs.length∧d.qs.length≤8∧∀ i,i < d.qs.length→qstE s (qAt d.qs i) = 0:=by
 unfold dclE at h
 split at h
 ·rename_i h1;exact absurd h h1
 rename_i h1
 split at h
 ·cases h
 rename_i h2
 split at h
 ·rename_i h3;exact absurd h h3
 rename_i h3
 split at h
 ·cases h
 rename_i h4
 split at h
 ·cases h
 rename_i h5
 refine ⟨Classical.byContradiction h1,?_,?_,Classical.byContradiction h3,Classical.byContradiction h4,by omega,by omega,fun i hi=>?_⟩
 ·cases e:jb d.proj with
  | true=>rfl
  | false=>exact absurd (.inl e) h2
 ·cases e:jb d.src with
  | true=>rfl
  | false=>exact absurd (.inr e) h2
 ·have:=JL h i hi
  unfold qsE at this
  split at this
  ·rename_i h6;exact absurd this h6
  ·rename_i h6;exact Classical.byContradiction h6
theorem qj0 {s:Sch} {l:List Pk} (h:yC s l = 0):schE s = 0∧(∀ p∈l,Qu s p = 0)∧l.Pairwise fun a b=>a.col < b.col:=by
 unfold yC at h
 split at h
 ·rename_i h1;exact absurd h h1
 rename_i h1
 have key:∀ i,i < l.length→Qu s (pkAt l i) = 0∧¬ (0 < i∧(pkAt l i).col≤(pkAt l (i - 1)).col):=fun i hi=>by
  have:=JL h i hi
  unfold qK3 at this
  split at this
  ·rename_i h2;exact absurd this h2
  rename_i h2
  split at this
  ·cases this
  ·rename_i h3;exact ⟨Classical.byContradiction h2,h3⟩
 refine ⟨Classical.byContradiction h1,fun p hp=>?_,?_⟩
 ·obtain ⟨i,hi,rfl⟩:=List.getElem_of_mem hp
  have:=(key i hi).1
  rw [pkAt,qh hi] at this
  exact this
 ·rw [List.pairwise_iff_getElem]
  have k2:∀ (d i:Nat) (hj:i + d + 1 < l.length),(l[i]'(by omega)).col < l[i + d + 1].col:=by
   intro d
   induction d with
   | zero=>
     intro i hj
     have:=(key (i + 1) (by omega)).2
     rw [pkAt,pkAt,qh (by omega),qh (by omega)] at this
     simp at this
     simpa using this
   | succ d ih=>
     intro i hj
     have h1:=ih i (by omega)
     have h2:=(key (i + d + 1 + 1) (by omega)).2
     rw [pkAt,pkAt,qh (by omega),qh (by omega)] at h2
     simp only [Nat.add_sub_cancel] at h2
     have e:i + (d + 1) + 1 = i + d + 1 + 1:=by omega
     simp only [e]
     omega
  intro i j hi hj hij
  have:=k2 (j - i - 1) i (by omega)
  have e:i + (j - i - 1) + 1 = j:=by omega
  simp only [e] at this
  exact this
theorem qu3 {s:Sch} {p:Pk} (h:Qu s p = 0):schE s = 0∧1≤p.col∧p.col < s.cols.length∧0≤p.lev∧p.lev≤finI s p.col:=by
 unfold Qu at h
 split at h
 ·rename_i h1;exact absurd h h1
 rename_i h1
 split at h
 ·cases h
 rename_i h2
 split at h
 ·cases h
 rename_i h3
 rw [Bool.not_eq_false,inB,Bool.and_eq_true,decide_eq_true_eq,decide_eq_true_eq] at h3
 exact ⟨Classical.byContradiction h1,by omega,by omega,h3.1,h3.2⟩
end Go.Proofs
namespace Go.Proofs
open Go Go.TL
def divM (high w wo:Int):Nat→Int→Bool
 | 0,_=>true
 | k + 1,f=>if f > high then true else if f.tmod wo≠0 then false else divM high w wo k (f + w)
def divP (s:Sch) (col:Nat) (L:List Int) (other lev:Nat) (i k:Nat):Bool:=
 !(!(qK s col lev (L.getD i 0) == qK s col lev (L.getD k 0)) && (qK s col other (L.getD i 0) == qK s col other (L.getD k 0)))
def divB (s:Sch) (col other lev:Nat):Bool:=
 if lev = 0∨lev≤other then true
 else if (qg s col).kind = 2 then qB5 (qJ s col).length (divP s col (qJ s col) other lev)
 else
  let x:=qg s col
  let w:=zm x lev
  let first:=(qD x.low w + 1) * w
  if other = 0 then !x.opt && decide (first > x.high)
  else divM x.high w (zm x other) 2 first
def yw (s:Sch) (col lev:Int):Int:=if inB lev 0 (finI s col) = false then -1 else KG (fun n=>divB s col.toNat n lev.toNat) 64 0
def jf6 (q:Qst) (k:Int):Bool:=(q.meas == k) || q.terms.contains k
def Jt (l m:List Pk):List Pk:=m.foldl (fun l p=>YD l p.col p.lev) l
def qq4 (s:Sch) (q:Qst):List Pk→Nat→List Pk:=fun l k=>if jf6 q (k + 1) = true then YD l (k + 1) (yw s (k + 1) (finI s (k + 1))) else l
def jf7 (s:Sch) (q:Qst) (l:List Pk):List Pk:=(List.range (s.cols.length - 1)).foldl (qq4 s q) l
def wL (s:Sch) (q:Qst):List Pk:=if qstE s q≠0 then [] else
 jf7 s q (q.dims.foldl (fun l p=>YD l p.col (yw s p.col p.lev)) (if q.kind = 3 then Jt (jO s q.filt) (jO s q.event) else jO s q.filt))
def sufB (s:Sch) (q:Qst) (l:List Pk):Bool:=(qstE s q == 0) && (yC s l == 0) && covB (wL s q) l
def jl (s:Sch) (d:Dcl):List Pk:=if dclE s d≠0 then [] else d.qs.foldl (fun l q=>Jt l (wL s q)) []
def qZ5 (s:Sch) (d:Dcl) (l:List Pk):Int:=if dclE s d≠0 then dclE s d else if yC s l≠0 then yC s l else zO (fun i=>if sufB s (qAt d.qs i) l = true then 0 else 23) d.qs.length
end Go.Proofs
namespace Go.Proofs
open Go Go.TL
theorem Ku {s:Sch} {c:Int} (h:0≤finI s c):schE s = 0∧1≤c∧c < s.cols.length∧finI s c = (if (qg s c.toNat).kind = 2 then zh (qE s c.toNat) - 1 else (qg s c.toNat).widths.length):=by
 unfold finI at h ⊢
 split at h
 ·omega
 ·rename_i h1
  rw [if_neg h1]
  exact ⟨by omega,by omega,by omega,rfl⟩
theorem ZX {n lo hi:Int}:inB n lo hi = true↔lo≤n∧n≤hi:=by simp [inB]
theorem qB7 {n lo hi:Int}:inB n lo hi = false↔n < lo∨hi < n:=by
 rw [← Bool.not_eq_true,ZX];omega
theorem SchOk.wid {s:Sch} (h:SchOk s) {i:Nat} (hi:i < s.cols.length) (h0:0 < i) (hk:(qg s i).kind≠2) {lev:Int} (hl:1≤lev∧lev≤(qg s i).widths.length) :
 1≤zm (qg s i) lev∧zm (qg s i) lev≤1000000∧(qg s i).kind = 3∧(qg s i).widths.length≤4∧-1000000≤(qg s i).low∧(qg s i).high≤1000000∧(qg s i).low≤(qg s i).high∧zm (qg s i) (qg s i).widths.length = 1:=by
 have hk2:=ze (h.cs i hi)
 have hk3:(qg s i).kind = 3:=by have:=hk2.2.2.1 h0;omega
 have hm:=hk2.2.2.2.2 hk3
 generalize qg s i = c at hl hm hk3 ⊢
 unfold measE at hm
 split at hm
 ·cases hm
 rename_i h1
 split at hm
 ·cases hm
 rename_i h2
 split at hm
 ·cases hm
 rename_i h3
 rw [Bool.not_eq_false] at h3
 have hw:∀ j,j < c.widths.length→wdOk c.widths j = true:=fun j hj=>List.all_eq_true.1 h3 j (List.mem_range.2 hj)
 have e1:inB c.low (-1000000) 1000000 = true:=by grind
 have e2:inB c.high (-1000000) 1000000 = true:=by grind
 rw [ZX] at e1 e2
 have hn:((c.widths.length:Int) - lev).toNat < c.widths.length:=by omega
 have hp:=qZ0 (ws:=c.widths) hw _ hn
 have h0:=hw 0 (by omega)
 rw [wdOk,if_pos rfl,beq_iff_eq] at h0
 have hmax:c.widths.getD ((c.widths.length:Int) - lev).toNat 0≤1000000:=by
  have:=hw _ hn
  unfold wdOk at this
  split at this
  ·rename_i e;rw [e,h0];omega
  ·simp only [Bool.and_eq_true,decide_eq_true_eq] at this;omega
 refine ⟨hp,hmax,hk3,by omega,by omega,by omega,by omega,?_⟩
 rw [zm,show ((c.widths.length:Int) - c.widths.length).toNat = 0 by omega,h0]
theorem qB8 {v w:Int} (hw:0 < w):v - w < qD v w * w∧qD v w * w≤v:=by
 unfold qD
 rw [Int.fdiv_eq_ediv_of_nonneg _ (by omega),Int.mul_comm]
 have h1:=Int.mul_ediv_add_emod v w
 have h2:=Int.emod_nonneg v (b:=w) (by omega)
 have h3:=Int.emod_lt_of_pos v hw
 omega
theorem qu4 {x y:Pk}:eqPk x y = true↔x = y:=by
 cases x;cases y
 simp [eqPk]
theorem qo1 (a b:List Pk) (ha:a.length < 4611686018427387904):Spc Tryz.prog yI [vPs a,vPs b] [] (vB (qA8 a b)) []:=by
 refine qd qf5 mixm (by simp) fun e _ hst=>qk ?_
 unfold yd
 simp only [tZ,↓un_u,simprocAttr,bne_iff_ne,bne_eq_false_iff_eq]
 refine ⟨fun h=>?_,fun h=>?_⟩
 ·rw [qA8,zo4 (by omega)]
  exact .oA [] []
 have hl:a.length = b.length:=by omega
 refine qy mixm (α:=Nat) [5] (fun i=>i≤a.length∧(qA8 (a.take i) (b.take i) = true)) (fun i=>[(5,vI i)]) (fun i=>[]) (fun i=>a.length - i) 0 ⟨by omega,?_⟩ ?_ fun i hi=>?_
 ·rfl
 ·exact .oA [] []
 simp only [tZ,↓un_u,simprocAttr,decide_eq_true_eq,decide_eq_false_iff_not]
 refine ⟨fun h=>?_,fun h=>?_⟩
 ·have hib:i < b.length:=by omega
  have hi2:i < a.length:=by omega
  have hwi:=qj (i:=i) (by omega)
  simp only [tZ,↓un_u,simprocAttr,Int.toNat_natCast,qe hi2,hwi,qe hib]
  rw [show (a[i].col == b[i].col && a[i].lev == b[i].lev) = eqPk a[i] b[i] from rfl]
  refine ⟨by omega,by omega,by kernel_rfl,fun h3=>?_,fun h3=>⟨i + 1,⟨by omega,?_⟩,by omega,?_⟩⟩
  ·rw [qA8,zd8 (i:=i) hl (by omega) h3]
   exact .oA [] []
  ·rw [qA8,qK1 hi2 hib,← qA8,hi.2]
   simpa using h3
  ·exact .oA [] []
 ·have hi2:i = a.length:=by omega
  subst hi2
  have h3:=hi.2
  rw [List.take_length,List.take_of_length_le (by omega)] at h3
  rw [h3]
  exact .oA [] []
end Go.Proofs
namespace Go.Proofs
open Go Go.TL
theorem zu2 {s:Sch} (h:SchOk s) {i:Nat} (hi:i < s.cols.length) (h2:(qg s i).kind = 2):(qJ s i).length≤60:=by
 obtain ⟨d1,d2⟩:=h.cdl hi h2
 obtain ⟨_,d5,d6⟩:=zr d2
 unfold qJ atL
 rw [if_neg (by rw [d2];simp),List.length_map]
 have:=List.length_filter_le (fun i=>(dep (qE s i).codes i:Int) == zh (qE s i) - 1) (List.range (qE s i).codes.length)
 refine Nat.le_trans (List.length_filter_le _ _) ?_
 rw [List.length_range];exact d6
theorem zp3 (s:Sch) (i lev:Nat):divB s i lev lev = true:=by unfold divB;rw [if_pos (by omega)]
theorem WN {s:Sch} {c:Int} (h:schE s = 0):finI s c≤59:=by
 by_cases h0:0≤finI s c
 ·obtain ⟨_,h1,h2,h3⟩:=Ku h0
  rw [h3]
  split
  ·have:=qB3 (l:=qE s c.toNat);omega
  ·rename_i h4
   have hok:=qW h
   by_cases e:(qg s c.toNat).widths.length = 0
   ·omega
   ·have:=hok.wid (i:=c.toNat) (by omega) (by omega) h4 (lev:=1) (by omega)
    omega
 ·omega
end Go.Proofs
namespace Go.Proofs
open Go Go.TL
abbrev cnT (c:Cnd):T:=.agg [vI c.op,vI c.col,vI c.code,vI c.lo,vI c.hi,vCs c.kids]
theorem zT6 (c:Cnd):(cndT c).cells.length = 6∧imL (cndT c).cells = true:=by rw [kg];exact ⟨rfl,rfl⟩
theorem zK2 {α:Type} {l:List α} {i:Nat} (h:i < l.length):l.drop i = l[i] :: l.drop (i + 1):=List.drop_eq_getElem_cons h
theorem qK4:∀ (l:List Cnd) (k:Cnd),wF (l ++ [k]) = max (wF l) (depC k)
 | [],k=>by simp [wF]
 | x :: r,k=>by rw [List.cons_append,wF,qK4 r k,wF];omega
theorem qK5:∀ (l:List Cnd) (i:Nat),wF (l.take i)≤wF l
 | [],i=>by simp
 | x :: r,0=>by simp [wF]
 | x :: r,i + 1=>by rw [List.take_succ_cons,wF,wF];have:=qK5 r i;omega
theorem qO5:∀ {l:List Cnd} {m n:Int},n≤m→yu l m n < m→n + l.length≤yu l m n∧∀ k∈l,∃ m',1≤m'∧m'≤m - n∧cntC k m' < m'
 | [],m,n,_,h=>by rw [yu];simp
 | x :: r,m,n,h1,h=>by
   rw [yu] at h ⊢
   split at h
   ·rename_i h2
    rw [if_pos h2]
    have h3:=qB6 x (m - n) (by omega)
    obtain ⟨h4,h5⟩:=qO5 (l:=r) (by omega) h
    refine ⟨by rw [List.length_cons];omega,fun k hk=>?_⟩
    rcases List.mem_cons.1 hk with e | hk
    ·subst e
     exact ⟨m - n,by omega,by omega,by omega⟩
    ·obtain ⟨m',a,b,c⟩:=h5 k hk
     exact ⟨m',a,by omega,c⟩
   ·omega
end Go.Proofs
namespace Go.Proofs
open Go Go.TL
set_option maxRecDepth 4000
set_option maxHeartbeats 8000000
theorem qB9:∀ {s:Sch} {l:List Cnd} {i:Nat} (h:i < l.length),QT s (l.take i) = 0→nodE s l[i]≠0→QT s l = nodE s l[i]
 | s,x :: r,0,h,_,h2=>by
   have h2:nodE s x≠0:=h2
   rw [QT,if_pos h2];rfl
 | s,x :: r,i + 1,h,h1,h2=>by
   rw [List.take_succ_cons,QT] at h1
   split at h1
   ·rename_i h3;exact absurd h1 h3
   ·rename_i h3
    rw [QT,if_neg h3]
    exact qB9 (l:=r) (i:=i) (by simpa using h) h1 h2
theorem qK6:∀ {s:Sch} {l:List Cnd} {k:Cnd},QT s l = 0→nodE s k = 0→QT s (l ++ [k]) = 0
 | s,[],k,_,h=>by simp [QT,h]
 | s,x :: r,k,h1,h2=>by
   rw [QT] at h1
   split at h1
   ·rename_i h3;exact absurd h1 h3
   ·rename_i h3
    rw [List.cons_append,QT,if_neg h3]
    exact qK6 h1 h2
end Go.Proofs
namespace Go.Proofs
open Go Go.TL
set_option maxHeartbeats 4000000
theorem qo2 {s:Sch} {c:Cnd} (h:chkC s c = 0):schE s = 0∧cntC c 41 < 41∧depC c≤10∧nodE s c = 0:=by
 unfold chkC at h
 split at h
 ·rename_i h1;exact absurd h h1
 rename_i h1
 split at h
 ·cases h
 rename_i h2
 split at h
 ·cases h
 rename_i h3
 exact ⟨Classical.byContradiction h1,by omega,by omega,h⟩
theorem qO6:∀ c m,1≤m→cntC c m < m→((atsC c).length:Int)≤cntC c m:=by
 refine Cnd.ind' fun c ih m hm h=>?_
 have hc:=qB6 c m hm
 rw [qO3]
 split
 ·simp;omega
 ·rw [qc6] at h ⊢
  have key:∀ l:List Cnd,(∀ k∈l,k∈c.kids)→∀ n,1≤n→n≤m→yu l m n < m→n + (JK l).length≤yu l m n:=by
   intro l
   induction l with
   | nil=>intro _ n h1 h2 _;rw [yu,JK];simp
   | cons k r ihl=>
     intro hk n h1 h2 h3
     rw [yu] at h3 ⊢
     rw [JK,List.length_append]
     split at h3
     ·rename_i h4
      rw [if_pos h4]
      have c1:=qB6 k (m - n) (by omega)
      have c2:=qO4 r m (n + cntC k (m - n)) (by omega)
      have c3:=ih k (hk k (by simp)) (m - n) (by omega) (by omega)
      have c4:=ihl (fun x hx=>hk x (List.mem_cons_of_mem _ hx)) (n + cntC k (m - n)) (by omega) (by omega) h3
      omega
     ·omega
  have:=key c.kids (fun k hk=>hk) 1 (by omega) hm h
  omega
theorem Kv:∀ (l:List Cnd) (i:Nat),(JK (l.take i)).length≤(JK l).length
 | [],i=>by simp
 | x :: r,0=>by simp [JK]
 | x :: r,i + 1=>by rw [List.take_succ_cons,JK,JK,List.length_append,List.length_append];have:=Kv r i;omega
theorem zK3 (l:List Cnd):ImXs 6 (l.map cndT):=qA zT6 l
theorem zK4 {st:Sto} {ρ:Ren} {B:List Nat} (l:List Cnd):ltXs st ρ B 6 (l.map cndT) (l.map cndT):=Qr (zK3 l)
end Go.Proofs
namespace Go.Proofs
open Go Go.TL
set_option maxHeartbeats 4000000
theorem qZ6 (col lev:Int):∀ (l:List Pk) (x:List Pk×Bool),(l.foldl (qG5 col lev) x).1.length + (if (l.foldl (qG5 col lev) x).2 = true then 0 else 1)≤x.1.length + (if x.2 = true then 0 else 1) + l.length
 | [],x=>Nat.le_refl _
 | p :: r,x=>by
   have h:=qZ6 col lev r (qG5 col lev x p)
   have h2:(qG5 col lev x p).1.length + (if (qG5 col lev x p).2 = true then 0 else 1)≤x.1.length + (if x.2 = true then 0 else 1) + 1:=by
    unfold qG5
    obtain ⟨a,b⟩:=x
    dsimp only
    split <;> split <;> cases b <;> simp_all <;> omega
   rw [List.foldl_cons,List.length_cons]
   omega
theorem qj1 (l:List Pk) (col lev:Int):(YD l col lev).length≤l.length + 1:=by
 have h:=qZ6 col lev l ([],decide (lev≤0))
 unfold YD
 dsimp only at h ⊢
 split
 ·simp_all
  split at h <;> omega
 ·rename_i k
  rw [if_neg k] at h
  rw [List.length_append]
  simp at h ⊢
  split at h <;> omega
inductive SmC:Cnd→Prop
 | mk (c:Cnd) (h1:c.kids.length < 4611686018427387904) (h2:∀ k∈c.kids,SmC k):SmC c
end Go.Proofs
namespace Go.Proofs
open Go Go.TL
set_option maxHeartbeats 4000000
theorem qc9 {s:Sch} (hE:schE s = 0) {i:Nat} (h1:0 < i) (h2:i < s.cols.length) (hk:(qg s i).kind = 2) {v:Int} (hv:v∈qJ s i):qK s i (finI s i) v = v:=by
 have hok:=qW hE
 obtain ⟨d1,d2⟩:=hok.cdl h2 hk
 have hf:finI s i = zh (qE s i) - 1:=by
  rw [finI,if_neg (by omega),Int.toNat_natCast,if_pos hk]
 have hh:=JJ hk d2 hv
 obtain ⟨j,j1,j2,rfl⟩:=(zK0 d2).1 hv
 rw [qK,if_neg,Int.toNat_natCast,if_pos hk,if_neg (by rw [hh];simp),upC,if_neg,hf,← j2,Int.toNat_natCast,Int.toNat_natCast,zK1 (by omega)]
 ·rw [hf,← j2,Int.toNat_natCast];omega
 ·rw [Bool.not_eq_false,ZX,hf,← j2];omega
theorem jf8 {s:Sch} (hE:schE s = 0) {c:Cnd} (hnd:NdOk s c) (ha:isAt c = true):0≤finI s c.col∧decB s c (finI s c.col).toNat = true:=by
 have hok:=qW hE
 have hlv:∀ k,isB s c.col k = true→2≤k→∃ i:Nat,c.col = i∧0 < i∧i < s.cols.length∧(qg s i).kind = k:=fun k hb hk=>by
  obtain ⟨b1,b2,b3⟩:=jd.1 hb
  obtain ⟨i,hci⟩:=Int.eq_ofNat_of_zero_le b1
  rw [hci,Int.toNat_natCast] at b3
  refine ⟨i,hci,?_,by omega,b3⟩
  refine Nat.pos_of_ne_zero fun e=>?_
  subst e
  have:=hok.c0
  omega
 have hm:∀ i:Nat,0 < i→i < s.cols.length→(qg s i).kind = 3→finI s i = (qg s i).widths.length∧1≤(qg s i).widths.length:=fun i h1 h2 h3=>by
  refine ⟨by rw [finI,if_neg (by omega),Int.toNat_natCast,if_neg (by omega)],?_⟩
  have:=(ze (hok.cs i h2)).2.2.2.2 h3
  unfold measE at this
  grind
 have hop:c.op = 2∨c.op = 3∨c.op = 4:=by
  unfold isAt at ha
  simp only [Bool.or_eq_true,beq_iff_eq] at ha
  omega
 rcases hop with h | h | h
 ·obtain ⟨i,hci,h1,h2,hk⟩:=hlv 2 (hnd.under h).1 (by omega)
  obtain ⟨d1,d2⟩:=hok.cdl h2 hk
  have hf:finI s i = zh (qE s i) - 1:=by
   rw [finI,if_neg (by omega),Int.toNat_natCast,if_pos hk]
  have hf0:0≤finI s i:=by rw [hf,zp0 d2];omega
  rw [hci]
  refine ⟨hf0,?_⟩
  rw [decB,if_pos h,hci,Int.toNat_natCast,qB5,List.all_eq_true]
  intro j hj
  rw [List.mem_range] at hj
  rw [List.all_eq_true]
  intro k hk2
  rw [List.mem_range] at hk2
  have e:(((finI s i).toNat:Nat):Int) = finI s i:=by omega
  rw [decP,hci,Int.toNat_natCast,e,qh hj,qh (by omega),qc9 hE h1 h2 hk (List.getElem_mem _),qc9 hE h1 h2 hk (List.getElem_mem _)]
  grind
 ·obtain ⟨i,hci,h1,h2,hk⟩:=hlv 3 (hnd.between h).1 (by omega)
  obtain ⟨m1,m2⟩:=hm i h1 h2 hk
  have hw:=hok.wid h2 h1 (by omega) (lev:=(qg s i).widths.length) (by omega)
  rw [hci,m1]
  refine ⟨by omega,?_⟩
  rw [decB,if_neg (by omega),if_neg (by omega),hci,Int.toNat_natCast,Int.toNat_natCast]
  dsimp only
  rw [if_neg (by omega),hw.2.2.2.2.2.2.2]
  simp
 ·obtain ⟨i,hci,h1,h2,hk⟩:=hlv 3 (hnd.miss h).1 (by omega)
  obtain ⟨m1,m2⟩:=hm i h1 h2 hk
  rw [hci,m1]
  refine ⟨by omega,?_⟩
  rw [decB,if_neg (by omega),if_pos h,Int.toNat_natCast]
  exact decide_eq_true (by omega)
theorem qC0 {s:Sch} (hE:schE s = 0) {c:Cnd} (hnd:NdOk s c) (ha:isAt c = true):(decN s c:Int)≤finI s c.col∧decB s c (decN s c) = true∧(∀ m,m < decN s c→decB s c m = false):=by
 obtain ⟨h1,h2⟩:=jf8 hE hnd ha
 have h3:=WN (c:=c.col) hE
 obtain ⟨a,b,_,d⟩:=qc7 h2 64 0 (by omega) (by omega)
 unfold decN
 exact ⟨by omega,a,fun m hm=>d m (by omega) hm⟩
def qZ7 (s:Sch):List Pk→Cnd→List Pk:=fun l a=>YD l a.col (decN s a)
theorem qZ8 (s:Sch):∀ (L:List Cnd) (l:List Pk),(L.foldl (qZ7 s) l).length≤l.length + L.length
 | [],l=>Nat.le_refl _
 | a :: L,l=>by
   have h1:=qZ8 s L (qZ7 s l a)
   have h2:=qj1 l a.col (decN s a)
   rw [List.foldl_cons,List.length_cons]
   unfold qZ7 at h1 ⊢
   omega
end Go.Proofs
namespace Go.Proofs
open Go Go.TL
set_option maxHeartbeats 4000000
end Go.Proofs
namespace Go.Proofs
open Go Go.TL
set_option maxHeartbeats 4000000
theorem qC1:∀ (m l:List Pk),(Jt l m).length≤l.length + m.length
 | [],l=>Nat.le_refl _
 | p :: m,l=>by
   have h1:=qC1 m (YD l p.col p.lev)
   have h2:=qj1 l p.col p.lev
   unfold Jt at h1 ⊢
   rw [List.foldl_cons,List.length_cons]
   omega
theorem qC2 (s:Sch) (c:Cnd):(jO s c).length≤40:=by
 unfold jO
 split
 ·simp
 ·rename_i h
  obtain ⟨hE,k2,k3,k4⟩:=qo2 (Classical.byContradiction h)
  have h1:=qO6 c 41 (by omega) k2
  have h2:=qZ8 s (atsC c) []
  simp only [List.length_nil] at h2
  unfold qZ7 at h2
  omega
structure QstOk (s:Sch) (q:Qst):Prop where
 sch:schE s = 0
 kind:1≤q.kind∧q.kind≤3
 filt:chkC s q.filt = 0
 dims:q.kind = 1→JN s q.dims = 0∧(q.meas = -1∨isB s q.meas 3 = true)
 nd:q.dims.length≤3
 terms:q.kind = 2→isB s q.meas 3 = true∧yD s q.meas q.terms = 0
 nt:q.terms.length≤3
 event:q.kind = 3→isB s q.meas 3 = true∧0≤(qg s q.meas.toNat).low∧chkC s q.event = 0
 d0:q.kind≠1→q.dims = []
 t0:q.kind≠2→q.terms = []
 e0:q.kind≠3→qc8 q.event cnd0 = true
theorem WO {s:Sch} {q:Qst} (h:qstE s q = 0):QstOk s q:=by
 unfold qstE at h
 split at h
 ·rename_i h1;exact absurd h h1
 rename_i h1
 split at h
 ·cases h
 rename_i h2
 split at h
 ·cases h
 rename_i h3
 split at h
 ·rename_i h4;exact absurd h h4
 rename_i h4
 split at h
 ·rename_i h5;exact absurd h h5
 rename_i h5
 split at h
 ·cases h
 rename_i h6
 have hp:yv s q = 0:=Classical.byContradiction h5
 unfold yv at hp
 have hd:q.kind = 1→JN s q.dims = 0∧(q.meas = -1∨isB s q.meas 3 = true):=fun k=>by
  rw [if_pos k] at hp
  grind
 have ht:q.kind = 2→isB s q.meas 3 = true∧yD s q.meas q.terms = 0:=fun k=>by
  rw [if_neg (by omega),if_pos k] at hp
  grind
 have hd0:q.kind≠1→q.dims = []:=fun k=>List.length_eq_zero_iff.1 (by omega)
 have ht0:q.kind≠2→q.terms = []:=fun k=>List.length_eq_zero_iff.1 (by omega)
 refine ⟨Classical.byContradiction h1,by omega,Classical.byContradiction h4,hd,?_,ht,?_,fun k=>?_,hd0,ht0,fun k=>?_⟩
 ·by_cases k:q.kind = 1
  ·have:=(hd k).1
   unfold JN at this
   grind
  ·rw [hd0 k];simp
 ·by_cases k:q.kind = 2
  ·have:=(ht k).2
   unfold yD at this
   grind
  ·rw [ht0 k];simp
 ·rw [if_neg (by omega),if_neg (by omega)] at hp
  grind
 ·grind
theorem qK7 (s:Sch):∀ (m l:List Pk),(m.foldl (fun l p=>YD l p.col (yw s p.col p.lev)) l).length≤l.length + m.length
 | [],l=>Nat.le_refl _
 | p :: m,l=>by
   have h1:=qK7 s m (YD l p.col (yw s p.col p.lev))
   have h2:=qj1 l p.col (yw s p.col p.lev)
   rw [List.foldl_cons,List.length_cons]
   omega
theorem qK8 (s:Sch) (q:Qst):∀ (m:List Nat) (l:List Pk),(m.foldl (qq4 s q) l).length≤l.length + m.length
 | [],l=>Nat.le_refl _
 | k :: m,l=>by
   have h1:=qK8 s q m (qq4 s q l k)
   have h2:(qq4 s q l k).length≤l.length + 1:=by
    unfold qq4
    split
    ·exact qj1 _ _ _
    ·omega
   rw [List.foldl_cons,List.length_cons]
   omega
def zK5 (s:Sch) (q:Qst):List Pk:=if q.kind = 3 then Jt (jO s q.filt) (jO s q.event) else jO s q.filt
theorem zu3 (s:Sch) (q:Qst):(zK5 s q).length≤80:=by
 have h1:=qC2 s q.filt
 have h2:=qC2 s q.event
 have h3:=qC1 (jO s q.event) (jO s q.filt)
 unfold zK5
 split <;> omega
theorem qC3 (s:Sch) (q:Qst):(wL s q).length≤100:=by
 unfold wL jf7
 split
 ·simp
 ·rename_i h
  have hq:=WO (Classical.byContradiction h)
  have h1:=zu3 s q
  unfold zK5 at h1
  have h2:=qK7 s q.dims (if q.kind = 3 then Jt (jO s q.filt) (jO s q.event) else jO s q.filt)
  have h3:=qK8 s q (List.range (s.cols.length - 1)) (q.dims.foldl (fun l p=>YD l p.col (yw s p.col p.lev)) (if q.kind = 3 then Jt (jO s q.filt) (jO s q.event) else jO s q.filt))
  have h4:=(qW hq.sch).nc
  have h5:=hq.nd
  rw [List.length_range] at h3
  omega
def zT7 (s:Sch):List Pk→Qst→List Pk:=fun l q=>Jt l (wL s q)
theorem qZ9 (s:Sch):∀ (m:List Qst) (l:List Pk),(m.foldl (zT7 s) l).length≤l.length + 100 * m.length
 | [],l=>Nat.le_refl _
 | q :: m,l=>by
   have h1:=qZ9 s m (zT7 s l q)
   have h2:=qC1 (wL s q) l
   have h3:=qC3 s q
   rw [List.foldl_cons,List.length_cons]
   unfold zT7 at h1 ⊢
   omega
theorem qC4 (s:Sch) (d:Dcl):(jl s d).length≤800:=by
 unfold jl
 split
 ·simp
 ·rename_i h
  have hd:=qo0 (Classical.byContradiction h)
  have:=qZ9 s d.qs []
  simp only [List.length_nil] at this
  unfold zT7 at this
  omega
end Go.Proofs
namespace Go.Proofs
open Go Go.TL
def hd (r:List Int):Int:=r.getD 0 0
def putS (row:List Int):List (List Int)×Bool→List Int→List (List Int)×Bool:=fun x r=>
 if hd r = hd row then x
 else if hd r > hd row∧x.2 = false then (x.1 ++ [row] ++ [r],true)
 else (x.1 ++ [r],x.2)
def putR (l:List (List Int)) (row:List Int):List (List Int):=
 let x:=l.foldl (putS row) ([],false)
 if x.2 then x.1 else x.1 ++ [row]
def atR (id:Int) (r:List Int):Bool:=decide (0 < r.length) && (hd r == id)
def jl2 (s:Src) (id:Int):Int:=if s.rows.any (atR id) = true then (s.rows.findIdx (atR id):Int) else -1
def asc2 (l:List Int) (i:Nat):Bool:=decide (i = 0) || decide (l.getD (i - 1) 0 < l.getD i 0)
def jf9 (s:Src):Bool:=(List.range s.rows.length).all fun i=>(rowE s.sch (s.rows.getD i []) == 0) && (decide (i = 0) || decide (hd (s.rows.getD (i - 1) []) < hd (s.rows.getD i [])))
def jl3 (s:Src):Bool:=(List.range s.gone.length).all fun i=>decide (1≤s.gone.getD i 0) && decide (s.gone.getD i 0≤1048575) && asc2 s.gone i && decide (jl2 s (s.gone.getD i 0) < 0)
def srcB (s:Src):Bool:=(schE s.sch == 0) && decide (s.rows.length≤200) && decide (s.gone.length≤300) && decide (0≤s.ver) && decide (s.ver≤300) && jf9 s && jl3 s
end Go.Proofs
namespace Go.Proofs
open Go Go.TL
def AscR (l:List (List Int)):Prop:=l.Pairwise fun a b=>hd a < hd b
end Go.Proofs
namespace Go.Proofs
open Go Go.TL
structure SrcOk (s:Src):Prop where
 sch:schE s.sch = 0
 nr:s.rows.length≤200
 ng:s.gone.length≤300
 ver:0≤s.ver∧s.ver≤300
 rows:∀ r∈s.rows,rowE s.sch r = 0
 asc:AscR s.rows
 gone:∀ g∈s.gone,1≤g∧g≤1048575∧jl2 s g < 0
 gasc:s.gone.Pairwise fun a b=>a < b
end Go.Proofs
namespace Go.Proofs
open Go Go.TL
set_option maxHeartbeats 4000000
open So
end Go.Proofs
namespace Go.Proofs
open Go Go.TL
set_option maxHeartbeats 4000000
open So
end Go.Proofs
namespace Go.Proofs
open Go Go.TL
set_option maxRecDepth 4000
def iter {α:Type} (f:α→α):Nat→α→α
 | 0,x=>x
 | n + 1,x=>f (iter f n x)
def tie (p:Int×Int):Int:=p.1 * 1024 + p.2
def cut (n:Int):Int×Int:=(n / 1024,n % 1024)
end Go.Proofs
namespace Go.Proofs
open Go Go.TL
set_option maxHeartbeats 4000000
open So
def drw0 (seed id:Int):Int:=IntKind.u64.wrap (IntKind.u64.wrap (IntKind.u64.wrap (IntKind.u64.wrap seed * 2654435761) + IntKind.u64.wrap (IntKind.u64.wrap id * 40503)) + 97)
def drwA (h:Int):Int:=IntKind.u64.wrap (IntKind.u64.wrap (h * 6364136223846793005) + 1442695040888963407)
def drwX (h:Int):Int:=xorI .u64 (drwA h) (shrI .u64 (drwA h) 29)
def drwI (seed id:Int):Int:=IntKind.i64.wrap (shrI .u64 (iter drwX 3 (drw0 seed id)) 32)
def inS (x:Smp) (id:Int):Bool:=(smpE x == 0) && decide (1≤id) && decide (id≤1048575) && decide ((drwI x.seed id).tmod x.of < x.part)
def ownP (s:Src) (d:Dcl) (r:List Int):Bool:=(jn7 s.sch d.coh r == 1) && inS d.smp (hd r)
def ownR (s:Src) (d:Dcl):List (List Int):=if srcB s = false∨dclE s.sch d≠0 then [] else s.rows.filter (ownP s d)
def ownS (s:Src) (d:Dcl):List Int:=(ownR s d).map hd
end Go.Proofs
namespace Go.Proofs
open Go Go.TL
set_option maxHeartbeats 4000000
def buildE (s:Src) (d:Dcl) (l:List Pk) (k:Int):Int:=if srcB s = false then 13 else if qZ5 s.sch d l≠0 then qZ5 s.sch d l else if k < 0∨k≥1152921504606846976 then 2 else 0
end Go.Proofs
namespace Go.Proofs
open Go Go.TL
set_option maxRecDepth 4000
set_option maxHeartbeats 4000000
def d36:ByteArray:=⟨#[48,49,50,51,52,53,54,55,56,57,97,98,99,100,101,102,103,104,105,106,107,108,109,110,111,112,113,114,115,116,117,118,119,120,121,122]⟩
theorem qK9 {a b:ByteArray} (h:a.data.toList = b.data.toList):a = b:=by
 cases a;cases b
 exact congrArg ByteArray.mk (Array.ext' h)
def dgS (n:Nat):ByteArray:=⟨#[dgt n]⟩
theorem jl4 (n:Nat) (h:n < 10):d36.extract n (n + 1) = dgS n:=by
 have:((List.range 10).all fun n=>(d36.extract n (n + 1)).data.toList == (dgS n).data.toList) = true:=by decide +kernel
 exact qK9 (eq_of_beq (List.all_eq_true.1 this n (List.mem_range.2 h)))
theorem qj2 (c:UInt8) (n:Nat):(⟨#[c]⟩:ByteArray) ++ dgS n = ⟨#[c,dgt n]⟩:=by
 apply qK9
 rw [ByteArray.toList_data_append]
 rfl
theorem jg0 (n:Nat) (h:n < 10):Spc Tryz.prog ju [vI n] [] (vS (dgS n)) []:=by
 have h1:=qj (i:=n) (by omega)
 have z1:d36.size = 36:=rfl
 refine qd Jp mixm (by simp) fun e _ hst=>qk ?_
 unfold jk
 simp only [tZ,↓un_u,simprocAttr,tD,h1,Int.toNat_natCast]
 refine ⟨fun h2=>?_,fun h2=>by omega⟩
 refine ⟨?_,?_⟩
 ·show (0≤(n:Int)∧(n:Int)≤((n + 1:Nat):Int)∧((n + 1:Nat):Int)≤(d36.size:Int))
  omega
 ·show Zp [] (vS (d36.extract n (n + 1))) [] (vS (dgS n)) []
  rw [jl4 n (by omega)]
  exact .oA [] []
theorem qj3 (n:Nat) (h:n < 10):Spc Tryz.prog jf [vI n] [] (vS (dgS n)) []:=by
 have h1:Spc Tryz.prog zA [vI n,vI 10] [] (vS (dgS n)) []:=by
  have e1:decide (0≤(n:Int)) = true:=decide_eq_true (by omega)
  have e2:decide ((n:Int) < 100) = true:=decide_eq_true (by omega)
  refine qd QL mixm (by simp) fun e _ hst=>qk ?_
  unfold zt
  simp only [tZ,↓un_u,simprocAttr,beq_self_eq_true,e1,e2,Bool.true_and]
  refine C1.im (jg0 n h) (by rfl) (by rfl) ?_
  refine sW ?_
  exact .oA [] []
 have h2:Spc Tryz.prog jG [vI n] [] (vS (dgS n)) []:=by
  refine qd JF mixm (by simp) fun e _ hst=>qk ?_
  unfold jx
  refine sW ?_
  refine C1.im h1 (by rfl) (by rfl) ?_
  refine sW ?_
  exact .oA [] []
 refine qd qy7 mixm (by simp) fun e _ hst=>qk ?_
 unfold Zv
 refine sW ?_
 refine C1.im h2 (by rfl) (by rfl) ?_
 refine sW ?_
 exact .oA [] []
def oneB (l:List UInt8) (a:Nat) (n:Int):Bool:=(nx l a n).1 == n - 1
theorem wq (l:List UInt8) (a:Nat) (n:Int) (hl:l.length≤400) (ha:a≤l.length) (hn:0≤n∧n≤1000000):Spc Tryz.prog qX [.ptr 0 1 0 0,vI n] [(0,oC l a)] (vB (oneB l a n)) [(0,oC l (nx l a n).2)]:=by
 have hw:IntKind.i64.wrap (n - 1) = n - 1:=IntWalk.i64_in _ (by omega)
 refine qd qm2 mixm (by simp) fun e _ hst=>qk ?_
 unfold yP
 refine sW ?_
 refine C1.draw 0 l a _ (jA l a n hl ha hn.2) rfl rfl rfl ?_
 simp only [tZ,↓un_u,simprocAttr,hw]
 rw [show ((nx l a n).1 == n - 1) = oneB l a n from rfl]
 exact .oA [(0,some 0)] []
theorem yx (l:List UInt8) (a:Nat) (n:Int) (hl:l.length≤400) (ha:a≤l.length) (hn:1≤n∧n≤1000000) :
 ∃ v b,0≤v∧v < n∧b≤l.length∧Spc Tryz.prog qu [.ptr 0 1 0 0,vI n] [(0,oC l a)] (vI v) [(0,oC l b)]:=
 ⟨_,_,(Qj l a n hn.1).1,(Qj l a n hn.1).2,qq9 l a n ha,jA l a n hl ha hn.2⟩
theorem WQ (l:List UInt8) (a:Nat) (lo hi:Int) (hl:l.length≤400) (ha:a≤l.length) (hlo : -1000000≤lo∧lo≤1000000) (hhi:lo≤hi∧hi≤lo + 100000) :
 ∃ v b,lo≤v∧v≤hi∧b≤l.length∧Spc Tryz.prog qH [.ptr 0 1 0 0,vI lo,vI hi] [(0,oC l a)] (vI v) [(0,oC l b)]:=by
 have r:=Qj l a (hi - lo + 1) (by omega)
 exact ⟨_,_,by omega,by omega,qq9 l a (hi - lo + 1) ha,ja l a lo hi hl ha hlo hhi⟩
theorem zT8 (l:List UInt8) (a:Nat) (n:Int) (hl:l.length≤400) (ha:a≤l.length) (hn:0≤n∧n≤1000000) :
 ∃ o b,b≤l.length∧Spc Tryz.prog qX [.ptr 0 1 0 0,vI n] [(0,oC l a)] (vB o) [(0,oC l b)]:=
 ⟨_,_,qq9 l a n ha,wq l a n hl ha hn⟩
theorem jg1 (m:Nat) (h:m < 4):wTab.getD m []∈wTab:=by rw [qh (by exact h)];exact List.getElem_mem _
theorem QV (n:Nat) (l:List UInt8) (a:Nat) (hl:l.length≤400) (ha:a≤l.length) :
 ∃ r:Col×Nat,(DrM n r.1∧r.2≤l.length)∧Spc Tryz.prog kO [.ptr 0 1 0 0,vS ⟨#[109,dgt n]⟩] [(0,oC l a)] (colT r.1) [(0,oC l r.2)]:=by
 have h1:=ja l a (-4) 2 hl ha (by omega) (by omega)
 have r1:=Qj l a (2 - -4 + 1) (by omega)
 have b1:=qq9 l a (2 - -4 + 1) ha
 generalize nx l a (2 - -4 + 1) = x1 at h1 r1 b1
 have h2:=jA l x1.2 4 hl b1 (by omega)
 have r2:=Qj l x1.2 4 (by omega)
 have b2:=qq9 l x1.2 4 b1
 generalize nx l x1.2 4 = x2 at h2 r2 b2
 have h3:=wq l x2.2 3 hl b2 (by omega)
 have b3:=qq9 l x2.2 3 b2
 generalize (nx l x2.2 3).2 = a3 at h3 b3
 generalize oneB l x2.2 3 = o at h3
 have h4:=jA l a3 45 hl b3 (by omega)
 have r4:=Qj l a3 45 (by omega)
 have b4:=qq9 l a3 45 b3
 generalize nx l a3 45 = x4 at h4 r4 b4
 refine ⟨(⟨⟨#[109,dgt n]⟩,3,0,-4 + x1.1,-4 + x1.1 + x4.1,wTab.getD x2.1.toNat [],o⟩,x4.2),⟨⟨rfl,rfl,rfl,by dsimp only;omega,by dsimp only;omega,jg1 _ (by omega)⟩,b4⟩,?_⟩
 obtain ⟨m,hm⟩:=Int.eq_ofNat_of_zero_le r2.1
 have hw:IntKind.i64.wrap (-4 + x1.1 + x4.1) = -4 + x1.1 + x4.1:=IntWalk.i64_in _ (by omega)
 refine qd Ww mixm (by simp) fun e _ hst=>qk ?_
 unfold ku
 refine sW ?_
 refine C1.draw 0 l a _ h1 rfl rfl rfl ?_
 refine sW ?_
 refine C1.draw 0 l x1.2 _ h2 rfl rfl rfl ?_
 rw [hm] at r2 ⊢
 rw [Int.toNat_natCast]
 have hm4:m = 0∨m = 1∨m = 2∨m = 3:=by omega
 have k0:wTab.getD 0 [] = [1]:=rfl
 have k1:wTab.getD 1 [] = [1,5]:=rfl
 have k2:wTab.getD 2 [] = [1,5,20]:=rfl
 have k3:wTab.getD 3 [] = [1,2,4,12]:=rfl
 rcases hm4 with e | e | e | e
 all_goals (
  subst e
  simp only [tZ,↓un_u,simprocAttr,Int.toNat_natCast,k0,k1,k2,k3]
  repeat (refine ⟨by omega,?_⟩)
  refine C1.draw 0 l x2.2 _ h3 rfl rfl rfl ?_
  refine sW ?_
  refine ⟨by kernel_rfl,?_⟩
  refine C1.draw 0 l a3 _ h4 rfl rfl rfl ?_
  simp only [tZ,↓un_u,simprocAttr,hw]
  refine ⟨by kernel_rfl,?_⟩
  )
 ·exact .oA [(0,some 0)] [8204]
 ·exact .oA [(0,some 0)] [8208]
 ·exact .oA [(0,some 0)] [8212]
 ·exact .oA [(0,some 0)] [8216]
def addN (i:Nat):Nat→List Cod→List Cod
 | 0,cs=>cs
 | k + 1,cs=>addN i k (addL cs i)
theorem qC5 (i:Nat):∀ (k:Nat) (cs:List Cod),(List.range k).foldl (fun cs _=>addL cs i) cs = addN i k cs:=by
 have key:∀ (m:List Nat) (cs:List Cod),m.foldl (fun cs _=>addL cs i) cs = addN i m.length cs:=by
  intro m
  induction m with
  | nil=>intro cs;rfl
  | cons x m ih=>intro cs;rw [List.foldl_cons,ih];rfl
 intro k cs
 rw [key,List.length_range]
theorem za0:∀ (ns:List Nat) (cs:List Cod) (i n:Nat),lefL cs i (ns ++ [n]) = addN (i + ns.length) n (lefL cs i ns)
 | [],cs,i,n=>by rw [List.nil_append,lefL,lefL,qC5];rfl
 | x :: r,cs,i,n=>by rw [List.cons_append,lefL,lefL,za0 r _ (i + 1) n,List.length_cons,show i + 1 + r.length = i + (r.length + 1) by omega]
theorem zp4 (i:Nat):∀ (k:Nat) (cs:List Cod),(addN i k cs).length = cs.length + k
 | 0,cs=>rfl
 | k + 1,cs=>by rw [addN,zp4 i k,addL,List.length_append];simp;omega
theorem zp5:∀ (ns:List Nat) (cs:List Cod) (i:Nat),(∀ x∈ns,x = 1∨x = 2)→cs.length + ns.length≤(lefL cs i ns).length∧(lefL cs i ns).length≤cs.length + 2 * ns.length
 | [],cs,i,_=>by rw [lefL];simp
 | x :: r,cs,i,h=>by
   have h1:=zp5 r ((List.range x).foldl (fun cs _=>addL cs i) cs) (i + 1) fun y hy=>h y (List.mem_cons_of_mem _ hy)
   rw [qC5,zp4] at h1
   rw [lefL,qC5,List.length_cons]
   have:=h x (by simp)
   omega
theorem JO (nm:ByteArray) (hnm:nm = qY5∨nm = qY6) (l:List UInt8) (a:Nat) (hl:l.length≤400) (ha:a≤l.length) :
 ∃ r:CodL×Nat,(DrL nm r.1∧r.2≤l.length)∧Spc Tryz.prog kF [.ptr 0 1 0 0,vS nm] [(0,oC l a)] (cdlT r.1) [(0,oC l r.2)]:=by
 have h1:=ja l a 1 3 hl ha (by omega) (by omega)
 have r1:=Qj l a (3 - 1 + 1) (by omega)
 have b1:=qq9 l a (3 - 1 + 1) ha
 generalize nx l a (3 - 1 + 1) = x1 at h1 r1 b1
 obtain ⟨K,hK⟩:=Int.eq_ofNat_of_zero_le (show 0≤1 + x1.1 by omega)
 rw [hK] at h1
 have hK3:1≤K∧K≤3:=by omega
 refine zV qg2 mixm (fun r:CodL×Nat=>cdlT r.1) (fun r=>[(0,oC l r.2)]) (by simp) ?_
 unfold yg
 refine sW ?_
 refine XE.mp (fun _ _=>C1.draw 0 l a _ h1 rfl rfl rfl) ?_
 refine sW ?_
 have hk0:(Wa 0).map codT = [.agg [vS ⟨#[116,111,112]⟩,vI (-1)]]:=rfl
 have hkl:∀ i,(Wa i).length = i + 1:=fun i=>by simp [Wa]
 have hks:∀ i,Wa (i + 1) = Wa i ++ [kidC i]:=fun i=>by rw [Wa,List.range_succ,List.map_append];rfl
 refine XE.loopF mixm [7] (fun i:Nat=>i≤K) (fun i=>[(7,vI i)]) (fun i=>[(0,oC l x1.2),(4096,.arr 2 [cdlT default] false),(8200,.arr 2 ((Wa i).map codT) false),(8208,.arr 2 [.agg [vS nm,.asl 8200 (i + 1)]] false)]) (fun i=>K - i) 0 (by omega) (fun e ⟨_,hst⟩=>?_) fun T' i hi ih=>?_
 ·simp only [hk0]
  exact .oA [(0,some 0),(4096,some 4096),(8200,some 8200),(8208,some 8208)] []
 simp only [tZ,↓un_u,simprocAttr,decide_eq_true_eq,decide_eq_false_iff_not]
 refine XE.brN (fun h=>?_) (fun h=>?_)
 ·have hwi:=qj (i:=i) (by omega)
  refine XE.mp (fun _ _=>C1.im (qj3 i (by omega)) (by rfl) (by rfl)) ?_
  simp only [tZ,↓un_u,simprocAttr,hwi]
  refine XE.sd (show 1 + 1≤9223372036854775807 by omega) (XE.sd ⟨hkl i,by omega⟩ (XE.sd (hkl i) (XE.sd (by kernel_rfl) ?_)))
  refine XE.next ih (i + 1) (by omega) (by omega) fun e ⟨_,hst⟩=>?_
  rw [qj2,hks]
  exact .oA [(0,some 0),(4096,some 4096),(8200,some 8200),(8208,some 8208)] []
 ·have hiK:i = K:=by omega
  subst hiK
  have h2:=wq l x1.2 2 hl b1 (by omega)
  have b2:=qq9 l x1.2 2 b1
  generalize (nx l x1.2 2).2 = a2 at h2 b2
  generalize oneB l x1.2 2 = o at h2
  refine XE.mp (fun _ _=>C1.draw 0 l x1.2 _ h2 rfl rfl rfl) ?_
  refine sW ?_
  refine XE.brB (fun h3=>?_) (fun h3=>?_)
  ·refine XE.fin (⟨nm,Wa i⟩,a2) ⟨⟨rfl,(zJ7 hnm hK3).1,by rw [hkl];omega⟩,b2⟩ fun e ⟨_,hst⟩=>?_
   have hkli:=hkl i
   refine ⟨hkl i,?_⟩
   exact .oA [(0,some 0)] [8200]
  ·refine XE.loopF mixm [8] (fun y:List Nat×Nat=>y.1.length≤i∧(∀ x∈y.1,x = 1∨x = 2)∧y.2≤l.length) (fun y=>[(8,vI y.1.length)]) (fun y=>[(0,oC l y.2),(4096,.arr 2 [cdlT default] false),(8200,.arr 2 ((lefL (Wa i) 0 y.1).map codT) false),(8208,.arr 2 [.agg [vS nm,.asl 8200 (lefL (Wa i) 0 y.1).length]] false)]) (fun y=>i - y.1.length) ([],a2) ⟨by simp,by simp,b2⟩ (fun e ⟨_,hst⟩=>?_) fun T2 y hy ih2=>?_
   ·have hkli:=hkl i
    simp only [lefL]
    refine .of [(0,some 0),(4096,some 4096),(8200,some 8200),(8208,some 8208)] [] rfl (by first | rfl | (rw [hst];rfl)) ?_ ?_
    all_goals (try simp only [tL,simprocAttr,List.map_append,List.map_cons,List.map_nil,List.cons_append,List.nil_append,hkl])
    all_goals (try (repeat' (first | exact qY | (apply zy;intro _;exact ⟨rfl,rfl⟩) | (apply qA;intro _;exact ⟨rfl,rfl⟩) | with_reducible apply qR | with_reducible refine qG ⟨rfl,rfl⟩ ?_ | exact qV | with_reducible apply qM | with_reducible refine qO ⟨rfl,rfl,?_⟩ ?_ | with_reducible apply And.intro | exact qQ rfl | exact qQ (by assumption) | (refine ⟨⟨?_,rfl,?_,rfl,?_⟩,trivial⟩ <;> first | (simp;done) | (apply qA;intro _;exact ⟨rfl,rfl⟩)) | trivial | rfl | (rw [qj (by omega)]) | omega)))
   obtain ⟨ns,a3⟩:=y
   obtain ⟨y1,y2,y3⟩:=hy
   dsimp only at y1 y2 y3
   have hll:=zp5 ns (Wa i) 0 y2
   rw [hkl] at hll
   simp only [tZ,↓un_u,simprocAttr,decide_eq_true_eq,decide_eq_false_iff_not]
   refine XE.brN (fun h4=>?_) (fun h4=>?_)
   ·have h5:=ja l a3 1 2 hl y3 (by omega) (by omega)
    have r5:=Qj l a3 (2 - 1 + 1) (by omega)
    have b5:=qq9 l a3 (2 - 1 + 1) y3
    generalize nx l a3 (2 - 1 + 1) = x5 at h5 r5 b5
    obtain ⟨M,hM⟩:=Int.eq_ofNat_of_zero_le (show 0≤1 + x5.1 by omega)
    rw [hM] at h5
    have hsn:=za0 ns (Wa i) 0 M
    rw [Nat.zero_add] at hsn
    refine XE.mp (fun _ _=>C1.draw 0 l a3 _ h5 rfl rfl rfl) ?_
    refine sW ?_
    generalize lefL (Wa i) 0 ns = cs at hll hsn ⊢
    refine XE.loopF mixm [9] (fun z:Nat×List Cod=>addN ns.length z.1 z.2 = addN ns.length M cs∧z.2.length + z.1 = cs.length + M) (fun z=>[(9,vI z.1)]) (fun z=>[(0,oC l x5.2),(4096,.arr 2 [cdlT default] false),(8200,.arr 2 (z.2.map codT) false),(8208,.arr 2 [.agg [vS nm,.asl 8200 z.2.length]] false)]) (fun z=>z.1) (M,cs) ⟨rfl,rfl⟩ (fun e ⟨_,hst⟩=>?_) fun T3 z hz ih3=>?_
    ·exact .oA [(0,some 0),(4096,some 4096),(8200,some 8200),(8208,some 8208)] []
    obtain ⟨k,ds⟩:=z
    obtain ⟨z1,z2⟩:=hz
    dsimp only at z1 z2
    simp only [tZ,↓un_u,simprocAttr,decide_eq_true_eq,decide_eq_false_iff_not]
    refine XE.brN (fun h6=>?_) (fun h6=>?_)
    ·have hwn:=qj (i:=ns.length) (by omega)
     have hwk:=wQ (i:=k) (by omega) (by omega)
     have hw1:IntKind.i64.wrap (1 + (ns.length:Int)) = 1 + (ns.length:Int):=IntWalk.i64_in _ (by omega)
     refine XE.mp (fun _ _=>C1.im (qj3 ds.length (by omega)) (by rfl) (by rfl)) ?_
     simp only [tZ,↓un_u,simprocAttr,hwk,hw1]
     refine XE.sd (show 1 + 1≤9223372036854775807 by omega) (XE.sd (by omega) (XE.sd (by kernel_rfl) ?_))
     refine XE.next ih3 (k - 1,addL ds ns.length) ⟨?_,by dsimp only;rw [addL,List.length_append];simp;omega⟩ (by dsimp only;omega) fun e ⟨_,hst⟩=>?_
     ·dsimp only
      rw [← z1]
      obtain ⟨j,rfl⟩:∃ j,k = j + 1:=⟨k - 1,by omega⟩
      rfl
     ·rw [qj2]
      have e1:addL ds ns.length = ds ++ [⟨⟨#[108,dgt ds.length]⟩,1 + (ns.length:Int)⟩]:=rfl
      rw [e1]
      exact .oA [(0,some 0),(4096,some 4096),(8200,some 8200),(8208,some 8208)] []
    ·have hk0:k = 0:=by omega
     subst hk0
     have hwn:=qj (i:=ns.length) (by omega)
     rw [addN,← hsn] at z1
     simp only [tZ,↓un_u,simprocAttr,hwn]
     refine XE.next ih2 (ns ++ [M],x5.2) ⟨by simp;omega,fun x hx=>?_,b5⟩ (by simp;omega) fun e ⟨_,hst⟩=>?_
     ·rcases List.mem_append.1 hx with hx | hx
      ·exact y2 x hx
      ·rw [List.mem_singleton.1 hx];omega
     ·simp only [z1,List.length_append,List.length_cons,List.length_nil]
      rw [← z1]
      exact .oA [(0,some 0),(4096,some 4096),(8200,some 8200),(8208,some 8208)] []
   ·have hni:ns.length = i:=by omega
    have hok:=(zJ7 hnm hK3).2 ns hni y2
    refine XE.fin (⟨nm,lefL (Wa i) 0 ns⟩,a3) ⟨⟨rfl,hok,by dsimp only;omega⟩,y3⟩ fun e ⟨_,hst⟩=>?_
    exact .oA [(0,some 0)] [8200]
end Go.Proofs
