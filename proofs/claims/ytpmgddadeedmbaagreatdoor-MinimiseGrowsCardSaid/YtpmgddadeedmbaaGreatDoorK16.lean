/- A part of the proof: trees of Go values, short forms, contracts. -/
import Derived.WalkKit
import Derived.Still
import Derived.MapKept
import GoSem.Builtin.Cap
import Derived.Laws.Externs
import GoSem.Extern.SlicesOverlaps
import Derived.Carry
import Derived.ProofKit
import Derived.OpenShut
import Derived.HandedShaped
import Derived.Lay
import Derived.LaidLaws
import Derived.MakeChecks
import Derived.SevenTiedAt
import Derived.Test.YtpmgddadeedmbaaGreatDoorChecked
import Derived.Test.YtpmgddadeedmbaaGreatDoorK15
set_option linter.unusedSimpArgs false
set_option linter.unusedVariables false
namespace Go.Proofs
open Go Go.TL
theorem SchOk.sm {s:Sch} (h:SchOk s):Ze s:=by
 have h1:=h.nl
 have h2:=h.nc
 refine ⟨by omega,by omega,fun l hl=>?_⟩
 obtain ⟨i,hi,rfl⟩:=List.getElem_of_mem hl
 have h3:=h.ls i hi
 rw [qk hi] at h3
 have:=(zw h3).2.2
 omega
theorem qF2 {l:CodL} : -1≤zi l∧zi l≤60:=by
 unfold zi
 split
 ·omega
 ·rename_i h
  obtain ⟨hp,h1,h2⟩:=zw (Classical.byContradiction h)
  have:=qt9 hp (l.codes.length - 1) (by omega)
  omega
theorem qc1 (s:Sch) (hs:Ze s) (c:Int):Spc Tryz.prog Qu [schT s,vI c] [] (vI (finI s c)) []:=by
 have hs2:=hs.2.1
 refine qd qC5 mixm (by simp) fun e _ hst=>qg ?_
 unfold ZI
 refine sW ?_
 refine C1.im (yG s hs) (by rfl) (by rfl) ?_
 simp only [tZ,↓un_u,simprocAttr,tD,bne_iff_ne,bne_eq_false_iff_eq]
 refine ⟨fun h=>?_,fun h=>?_⟩
 ·rw [finI,if_pos (by omega)]
  exact .oA [] []
 have hok:=qZ h.1.1
 obtain ⟨i,rfl⟩:=Int.eq_ofNat_of_zero_le (show 0≤c by omega)
 have hi:i < s.cols.length:=by omega
 have hat:qj s i = s.cols[i]:=by rw [qj,qk hi]
 have hk:=zf (hok.cs i hi)
 have hcd:=fun e=>hok.cdl hi e
 have hcl:qM s i = s.lists.getD s.cols[i].list.toNat default:=by rw [qM,hat]
 rw [hat] at hk hcd
 rw [hcl] at hcd
 rw [finI,if_neg (by omega),Int.toNat_natCast,hcl,hat]
 simp only [tZ,↓un_u,simprocAttr,Int.toNat_natCast,qe hi]
 generalize s.cols[i] = x at hk hcd ⊢
 simp only [tZ,↓un_u,simprocAttr,beq_iff_eq,beq_eq_false_iff_ne]
 refine ⟨by omega,fun h2=>?_,fun h2=>?_⟩
 ·obtain ⟨d1,d2⟩:=hcd h2
  obtain ⟨d3,d4⟩:=hk.2.2.2.1 h2
  have hgl:s.lists.getD x.list.toNat default = s.lists[x.list.toNat]:=qk d1
  rw [if_pos h2]
  rw [hgl] at d2 ⊢
  obtain ⟨_,d5,d6⟩:=zw d2
  simp only [tZ,↓un_u,simprocAttr,qe d1]
  generalize s.lists[x.list.toNat] = l at d2 d5 d6 ⊢
  have hlv:=qF2 (l:=l)
  have hw2:IntKind.i64.wrap (zi l - 1) = zi l - 1:=IntWalk.i64_in _ (by omega)
  refine ⟨by omega,?_⟩
  refine C1.im (qL1 l (by omega)) (by rfl) (by rfl) ?_
  simp only [tZ,↓un_u,simprocAttr,hw2]
  exact .oA [] []
 ·rw [if_neg h2]
  exact .oA [] []
theorem ja8 {a b:Int} (hb:0 < b):qK a b = if a.tmod b < 0 then a.tdiv b - 1 else a.tdiv b:=by
 have h1:=Int.mul_tdiv_add_tmod a b
 have h2:=Int.tmod_lt_of_pos a hb
 have h3:=Int.lt_tmod_of_pos a hb
 unfold qK
 rw [Int.fdiv_eq_ediv_of_nonneg _ (by omega)]
 split
 ·refine ((Int.ediv_emod_unique (r:=a.tmod b + b) hb).2 ⟨?_,by omega,by omega⟩).1
  rw [Int.mul_sub];omega
 ·refine ((Int.ediv_emod_unique (r:=a.tmod b) hb).2 ⟨by omega,by omega,by omega⟩).1
end Go.Proofs
namespace Go.Proofs
open Go Go.TL
namespace Cnd
mutual
theorem ind' {p:Cnd→Prop} (h:∀ c,(∀ k∈c.kids,p k)→p c):∀ c,p c
 | .mk _ _ _ _ _ ks=>h _ (inds h ks)
theorem inds {p:Cnd→Prop} (h:∀ c,(∀ k∈c.kids,p k)→p c):∀ ks:List Cnd,∀ k∈ks,p k
 | [],_,hk=>absurd hk (by simp)
 | x :: r,k,hk=>by
   rcases List.mem_cons.1 hk with e | hk
   ·rw [e];exact ind' h x
   ·exact inds h r k hk
end
end Cnd
mutual
def cntC:Cnd→Int→Int
 | .mk _ _ _ _ _ ks,m=>kJ ks m 1
def kJ:List Cnd→Int→Int→Int
 | [],_,n=>n
 | k :: r,m,n=>if n < m then kJ r m (n + cntC k (m - n)) else n
end
theorem Wa (c:Cnd) (m:Int):cntC c m = kJ c.kids m 1:=by cases c;rw [cntC];rfl
mutual
def depC:Cnd→Nat
 | .mk _ _ _ _ _ ks=>jV ks + 1
def jV:List Cnd→Nat
 | []=>0
 | k :: r=>max (depC k) (jV r)
end
theorem qr4 (c:Cnd):depC c = jV c.kids + 1:=by cases c;rw [depC];rfl
def isB (s:Sch) (col kind:Int):Bool:=decide (0≤col) && decide (col < s.cols.length) && ((qj s col.toNat).kind == kind)
def arC (op:Int):Nat:=if op = 5∨op = 6 then 2 else if op = 7 then 1 else 0
def ndE (s:Sch) (c:Cnd):Int:=
 if c.op < 1∨7 < c.op then 4
 else if c.kids.length≠arC c.op∨(c.op≠2∧c.op≠3∧c.op≠4∧c.col≠0)∨(c.op≠2∧c.code≠0)∨(c.op≠3∧(c.lo≠0∨c.hi≠0)) then 11
 else if (c.op = 2∧isB s c.col 2 = false)∨(c.op = 3∧isB s c.col 3 = false)∨(c.op = 4∧(isB s c.col 3 = false∨(qj s c.col.toNat).opt = false)) then 7
 else if c.op = 2∧(c.code < 0∨c.code≥(qM s c.col.toNat).codes.length) then 6
 else if c.op = 3∧(c.lo < -1000000∨c.hi > 1000000∨c.lo > c.hi) then 2 else 0
mutual
def nodE (s:Sch):Cnd→Int
 | .mk op col code lo hi ks=>if ndE s (.mk op col code lo hi ks)≠0 then ndE s (.mk op col code lo hi ks) else yM s ks
def yM (s:Sch):List Cnd→Int
 | []=>0
 | k :: r=>if nodE s k≠0 then nodE s k else yM s r
end
theorem qT6 (s:Sch) (c:Cnd):nodE s c = if ndE s c≠0 then ndE s c else yM s c.kids:=by cases c;rw [nodE];rfl
def chkC (s:Sch) (c:Cnd):Int:=if schE s≠0 then schE s else if cntC c 41 > 40 then 1 else if depC c > 10 then 22 else nodE s c
theorem zf6 {s:Sch}:∀ {l:List Cnd},yM s l = 0→∀ k∈l,nodE s k = 0
 | [],_,k,hk=>absurd hk (by simp)
 | x :: r,h,k,hk=>by
   rw [yM] at h
   split at h
   ·rename_i h1;exact absurd h h1
   ·rename_i h1
    rcases List.mem_cons.1 hk with e | hk
    ·rw [e];exact Classical.byContradiction h1
    ·exact zf6 h k hk
theorem jn3 {s:Sch} {c:Cnd} (h:nodE s c = 0):ndE s c = 0∧∀ k∈c.kids,nodE s k = 0:=by
 rw [qT6] at h
 split at h
 ·rename_i h1;exact absurd h h1
 ·rename_i h1
  exact ⟨Classical.byContradiction h1,zf6 h⟩
theorem zP {s:Sch} {col kind:Int}:isB s col kind = true↔0≤col∧col < s.cols.length∧(qj s col.toNat).kind = kind:=by
 unfold isB
 simp only [Bool.and_eq_true,decide_eq_true_eq,beq_iff_eq,and_assoc]
structure NdOk (s:Sch) (c:Cnd):Prop where
 op:1≤c.op∧c.op≤7
 nk:c.kids.length = arC c.op
 under:c.op = 2→isB s c.col 2 = true∧0≤c.code∧c.code < (qM s c.col.toNat).codes.length
 between:c.op = 3→isB s c.col 3 = true∧-1000000≤c.lo∧c.hi≤1000000∧c.lo≤c.hi
 miss:c.op = 4→isB s c.col 3 = true∧(qj s c.col.toNat).opt = true
theorem ji7 {s:Sch} {c:Cnd} (h:ndE s c = 0):NdOk s c:=by
 unfold ndE at h
 split at h
 ·cases h
 rename_i h1
 split at h
 ·cases h
 rename_i h2
 split at h
 ·cases h
 rename_i h3
 split at h
 ·cases h
 rename_i h4
 split at h
 ·cases h
 rename_i h5
 refine ⟨by omega,Classical.byContradiction fun e=>h2 (.inl e),fun e=>⟨?_,by omega,by omega⟩,fun e=>⟨?_,by omega,by omega,by omega⟩,fun e=>⟨?_,?_⟩⟩
 ·cases e2:isB s c.col 2 with
  | true=>rfl
  | false=>exact absurd (.inl ⟨e,e2⟩) h3
 ·cases e2:isB s c.col 3 with
  | true=>rfl
  | false=>exact absurd (.inr (.inl ⟨e,e2⟩)) h3
 ·cases e2:isB s c.col 3 with
  | true=>rfl
  | false=>exact absurd (.inr (.inr ⟨e,.inl e2⟩)) h3
 ·cases e2:(qj s c.col.toNat).opt with
  | true=>rfl
  | false=>exact absurd (.inr (.inr ⟨e,.inr e2⟩)) h3
def isAt (c:Cnd):Bool:=(c.op == 2) || (c.op == 3) || (c.op == 4)
def tf (b:Bool):Int:=if b then 1 else -1
def wt (s:Sch) (c:Cnd) (v:Int):Int:=
 if c.op = 2 then tf (qu0 (qM s c.col.toNat) v c.code)
 else if c.op = 3 then (if v = qf5 then 0 else tf (decide (c.lo≤v) && decide (v≤c.hi)))
 else if c.op = 4 then tf (v == qf5) else -1
def jv5 (op:Int) (ks:List Int):Int:=if op = 7 then - ks.getD 0 0 else if op = 5 then min (ks.getD 0 0) (ks.getD 1 0) else if op = 6 then max (ks.getD 0 0) (ks.getD 1 0) else 1
mutual
def evC (s:Sch) (row:List Int):Cnd→Int
 | .mk op col code lo hi ks=>if isAt (.mk op col code lo hi ks) = true then wt s (.mk op col code lo hi ks) (row.getD col.toNat 0) else jv5 op (evCs s row ks)
def evCs (s:Sch) (row:List Int):List Cnd→List Int
 | []=>[]
 | k :: r=>evC s row k :: evCs s row r
end
def jv6 (s:Sch) (c:Cnd) (row:List Int):Int:=if chkC s c≠0∨rowE s row≠0 then 0 else evC s row c
mutual
def atsC:Cnd→List Cnd
 | .mk op col code lo hi ks=>if isAt (.mk op col code lo hi ks) = true then [.mk op col code lo hi ks] else Kk ks
def Kk:List Cnd→List Cnd
 | []=>[]
 | k :: r=>atsC k ++ Kk r
end
theorem qT7 (c:Cnd):atsC c = if isAt c = true then [c] else Kk c.kids:=by cases c;rw [atsC];rfl
theorem qr5:∀ (l:List Cnd) (k:Cnd),Kk (l ++ [k]) = Kk l ++ atsC k
 | [],k=>by simp [Kk]
 | x :: r,k=>by simp [Kk,qr5 r k]
theorem zw3 {s:Sch}:∀ c,nodE s c = 0→∀ a∈atsC c,NdOk s a∧isAt a = true:=by
 refine Cnd.ind' fun c ih h a ha=>?_
 obtain ⟨h1,h2⟩:=jn3 h
 rw [qT7] at ha
 split at ha
 ·rename_i h3
  rw [List.mem_singleton] at ha
  rw [ha]
  exact ⟨ji7 h1,h3⟩
 ·have key:∀ l:List Cnd,(∀ k∈l,k∈c.kids)→a∈Kk l→NdOk s a∧isAt a = true:=by
   intro l
   induction l with
   | nil=>intro _ h;simp [Kk] at h
   | cons k r ihl=>
     intro hk h
     rw [Kk,List.mem_append] at h
     rcases h with h | h
     ·exact ih k (hk k (by simp)) (h2 k (hk k (by simp))) a h
     ·exact ihl (fun x hx=>hk x (List.mem_cons_of_mem _ hx)) h
  exact key c.kids (fun k hk=>hk) ha
def qF3 (n:Nat) (p:Nat→Nat→Bool):Bool:=(List.range n).all fun i=>(List.range i).all fun k=>p i k
theorem ja9 {p:Nat→Bool} {n:Nat}:(List.range (n + 1)).all p = ((List.range n).all p && p n):=by rw [List.range_succ,List.all_append];simp
theorem ji8 {p:Nat→Bool} {n i:Nat} (h:i < n) (hp:p i = false):(List.range n).all p = false:=List.all_eq_false.2 ⟨i,List.mem_range.2 h,by rw [hp];simp⟩
theorem zB3 {p:Nat→Nat→Bool} {n:Nat}:qF3 (n + 1) p = (qF3 n p && (List.range n).all (p n)):=ja9
theorem jb0 {p:Nat→Nat→Bool} {n i k:Nat} (h:i < n) (hk:k < i) (hp:p i k = false):qF3 n p = false:=ji8 h (ji8 hk hp)
def decP (s:Sch) (c:Cnd) (lev:Nat) (i k:Nat):Bool:=
 !((qT s c.col lev ((qS s c.col.toNat).getD i 0) == qT s c.col lev ((qS s c.col.toNat).getD k 0)) && !(wt s c ((qS s c.col.toNat).getD i 0) == wt s c ((qS s c.col.toNat).getD k 0)))
def decB (s:Sch) (c:Cnd) (lev:Nat):Bool:=
 if c.op = 2 then qF3 (qS s c.col.toNat).length (decP s c lev)
 else if c.op = 4 then decide (0 < lev)
 else
  let x:=qj s c.col.toNat
  let first:=decide (x.low < c.lo) && decide (c.lo≤x.high)
  let behind:=decide (x.low≤c.hi) && decide (c.hi < x.high)
  if lev = 0 then !x.opt && !first && !behind
  else (!first || (c.lo.tmod (zm x lev) == 0)) && (!behind || ((c.hi + 1).tmod (zm x lev) == 0))
def Wm (p:Nat→Bool):Nat→Nat→Nat
 | 0,n=>n
 | f + 1,n=>if p n = true then n else Wm p f (n + 1)
theorem qf6 {p:Nat→Bool} {N:Nat} (h:p N = true):∀ (f n:Nat),n≤N→N - n≤f→p (Wm p f n) = true∧Wm p f n≤N∧n≤Wm p f n∧∀ m,n≤m→m < Wm p f n→p m = false
 | 0,n,h1,h2=>by
   have:n = N:=by omega
   subst this
   exact ⟨h,Nat.le_refl _,Nat.le_refl _,fun m h3 h4=>by rw [Wm] at h4;omega⟩
 | f + 1,n,h1,h2=>by
   rw [Wm]
   split
   ·rename_i hp
    exact ⟨hp,h1,Nat.le_refl _,fun m h3 h4=>by omega⟩
   ·rename_i hp
    have hn:n≠N:=fun e=>hp (e ▸ h)
    obtain ⟨a,b,c,d⟩:=qf6 h f (n + 1) (by omega) (by omega)
    refine ⟨a,b,by omega,fun m h3 h4=>?_⟩
    by_cases e:m = n
    ·rw [e];simpa using hp
    ·exact d m (by omega) h4
def decN (s:Sch) (c:Cnd):Nat:=Wm (decB s c) 64 0
def qL3 (col lev:Int):List Pk×Bool→Pk→List Pk×Bool:=fun x p=>
 let y:=if p.col > col∧x.2 = false then (x.1 ++ [⟨col,lev⟩],true) else x
 if p.col = col then (y.1 ++ [⟨p.col,max p.lev lev⟩],true) else (y.1 ++ [p],y.2)
def qa9 (l:List Pk) (col lev:Int):List Pk:=
 let x:=l.foldl (qL3 col lev) ([],decide (lev≤0))
 if x.2 then x.1 else x.1 ++ [⟨col,lev⟩]
def jS (s:Sch) (c:Cnd):List Pk:=if chkC s c≠0 then [] else (atsC c).foldl (fun l a=>qa9 l a.col (decN s a)) []
def covB (a b:List Pk):Bool:=a.all fun x=>b.any fun y=>(y.col == x.col) && decide (y.lev≥x.lev)
mutual
def Kl:Cnd→Cnd→Bool
 | .mk a1 a2 a3 a4 a5 ks,.mk b1 b2 b3 b4 b5 ls=>(a1 == b1) && (a2 == b2) && (a3 == b3) && (a4 == b4) && (a5 == b5) && wT ks ls
def wT:List Cnd→List Cnd→Bool
 | [],[]=>true
 | k :: r,l :: t=>Kl k l && wT r t
 | [],_ :: _=>false
 | _ :: _,[]=>false
end
theorem zw4 (a b:Cnd):Kl a b = ((a.op == b.op) && (a.col == b.col) && (a.code == b.code) && (a.lo == b.lo) && (a.hi == b.hi) && wT a.kids b.kids):=by cases a;cases b;rw [Kl];rfl
theorem qu2:∀ c,∀ m,1≤m→1≤cntC c m∧cntC c m≤m:=by
 refine Cnd.ind' fun c ih m hm=>?_
 rw [Wa]
 have key:∀ l:List Cnd,(∀ k∈l,k∈c.kids)→∀ n,1≤n→n≤m→1≤kJ l m n∧kJ l m n≤m:=by
  intro l
  induction l with
  | nil=>intro _ n h1 h2;rw [kJ];exact ⟨h1,h2⟩
  | cons k r ihl=>
    intro hk n h1 h2
    rw [kJ]
    split
    ·have:=ih k (hk k (by simp)) (m - n) (by omega)
     exact ihl (fun x hx=>hk x (List.mem_cons_of_mem _ hx)) _ (by omega) (by omega)
    ·exact ⟨h1,h2⟩
 exact key c.kids (fun k hk=>hk) 1 (by omega) hm
theorem qT8:∀ (l:List Cnd) (m n:Int),n≤m→n≤kJ l m n
 | [],m,n,_=>by rw [kJ];omega
 | k :: r,m,n,h=>by
   rw [kJ]
   split
   ·have:=qu2 k (m - n) (by omega)
    have:=qT8 r m (n + cntC k (m - n)) (by omega)
    omega
   ·omega
theorem zR4:∀ c,∀ m,1≤m→cntC c m < m→(depC c:Int)≤cntC c m:=by
 refine Cnd.ind' fun c ih m hm h=>?_
 rw [Wa] at h ⊢
 rw [qr4]
 have key:∀ l:List Cnd,(∀ k∈l,k∈c.kids)→∀ n,1≤n→n≤m→kJ l m n < m→n + jV l≤kJ l m n:=by
  intro l
  induction l with
  | nil=>intro _ n h1 h2 _;rw [kJ,jV];omega
  | cons k r ihl=>
    intro hk n h1 h2 h3
    rw [kJ] at h3 ⊢
    rw [jV]
    split at h3
    ·rename_i h4
     rw [if_pos h4]
     have c1:=qu2 k (m - n) (by omega)
     have c2:=qT8 r m (n + cntC k (m - n)) (by omega)
     have c3:=ih k (hk k (by simp)) (m - n) (by omega) (by omega)
     have c4:=ihl (fun x hx=>hk x (List.mem_cons_of_mem _ hx)) (n + cntC k (m - n)) (by omega) (by omega) h3
     omega
    ·omega
 have:=key c.kids (fun k hk=>hk) 1 (by omega) (by omega) h
 omega
end Go.Proofs
namespace Go.Proofs
open Go Go.TL
def zx (f:Nat→Int):Nat→Int
 | 0=>0
 | n + 1=>if zx f n≠0 then zx f n else f n
theorem zf7 {f:Nat→Int} {i:Nat} (h:zx f i≠0):∀ n,i≤n→zx f n = zx f i:=by
 intro n hn
 induction n with
 | zero=>have:i = 0:=by omega
         rw [this]
 | succ n ih=>
   by_cases e:i = n + 1
   ·rw [e]
   ·have:=ih (by omega)
    rw [zx,this,if_pos h]
theorem Zw {f:Nat→Int}:∀ {n:Nat},zx f n = 0→∀ i,i < n→f i = 0
 | 0,_,i,h=>by omega
 | n + 1,h,i,hi=>by
   rw [zx] at h
   split at h
   ·rename_i h2;exact absurd h h2
   ·rename_i h2
    by_cases e:i = n
    ·rw [e];exact h
    ·exact Zw (Classical.byContradiction h2) i (by omega)
theorem Km {f:Nat→Int}:∀ {n:Nat},(∀ i,i < n→f i = 0)→zx f n = 0
 | 0,_=>rfl
 | n + 1,h=>by
   rw [zx,Km fun i hi=>h i (by omega),if_neg (by simp)]
   exact h n (by omega)
theorem jT {f:Nat→Int} {n:Nat} (h:zx f n = 0):zx f (n + 1) = f n:=by rw [zx,if_neg (by rw [h];simp)]
theorem Qn {f:Nat→Int} {i n:Nat} (h:zx f i = 0) (hi:i < n) (hf:f i≠0):zx f n = f i:=by
 rw [zf7 (i:=i + 1) (by rw [jT h];exact hf) n (by omega),jT h]
def QC (s:Sch) (p:Pk):Int:=if schE s≠0 then schE s else if p.col < 1∨p.col≥s.cols.length then 7 else if inB p.lev 0 (finI s p.col) = false then 8 else 0
abbrev pkAt (l:List Pk) (i:Nat):Pk:=l.getD i default
def zf8 (s:Sch) (l:List Pk) (i:Nat):Int:=if QC s (pkAt l i)≠0 then QC s (pkAt l i) else if 0 < i∧(pkAt l i).col≤(pkAt l (i - 1)).col then 10 else 0
def qm1 (s:Sch) (l:List Pk):Int:=if schE s≠0 then schE s else zx (zf8 s l) l.length
def dimE (s:Sch) (l:List Pk) (i:Nat):Int:=if QC s (pkAt l i)≠0 then QC s (pkAt l i) else if isB s (pkAt l i).col 2 = false then 7 else if ((l.take i).any fun x=>x.col == (pkAt l i).col) = true then 10 else 0
def ZZ (s:Sch) (l:List Pk):Int:=if l.length < 1∨l.length > 3 then 1 else zx (dimE s l) l.length
def qF4 (s:Sch) (m:Int) (l:List Int) (i:Nat):Int:=if isB s (l.getD i 0) 3 = false then 7 else if l.getD i 0 = m∨(l.take i).contains (l.getD i 0) = true then 10 else 0
def ww (s:Sch) (m:Int) (l:List Int):Int:=if l.length < 1∨l.length > 3 then 1 else zx (qF4 s m l) l.length
def kW (s:Sch) (q:Qst):Int:=
 if q.kind = 1 then (if ZZ s q.dims≠0 then ZZ s q.dims else if q.meas≠-1∧isB s q.meas 3 = false then 7 else 0)
 else if q.kind = 2 then (if isB s q.meas 3 = false then 7 else ww s q.meas q.terms)
 else if isB s q.meas 3 = false then 7 else if (qj s q.meas.toNat).low < 0 then 2 else chkC s q.event
def qstE (s:Sch) (q:Qst):Int:=
 if schE s≠0 then schE s else if jh q.name = false then 3 else if q.kind < 1∨3 < q.kind then 4
 else if chkC s q.filt≠0 then chkC s q.filt else if kW s q≠0 then kW s q
 else if (q.kind≠1∧0 < q.dims.length)∨(q.kind≠2∧0 < q.terms.length)∨(q.kind≠3∧Kl q.event cnd0 = false) then 11 else 0
abbrev qAt (l:List Qst) (i:Nat):Qst:=l.getD i default
def qsE (s:Sch) (l:List Qst) (i:Nat):Int:=if qstE s (qAt l i)≠0 then qstE s (qAt l i) else if ((l.take i).any fun x=>eqB x.name (qAt l i).name) = true then 10 else 0
def smpE (x:Smp):Int:=if x.of < 1∨x.of > 1000∨x.part < 1∨x.part > x.of∨x.seed < 0∨x.seed > 1099511627776 then 2 else 0
def dclE (s:Sch) (d:Dcl):Int:=
 if schE s≠0 then schE s else if jh d.proj = false∨jh d.src = false then 3 else if chkC s d.coh≠0 then chkC s d.coh
 else if smpE d.smp≠0 then 2 else if d.qs.length < 1∨d.qs.length > 8 then 1 else zx (qsE s d.qs) d.qs.length
theorem Yx {s:Sch} {d:Dcl} (h:dclE s d = 0):schE s = 0∧jh d.proj = true∧jh d.src = true∧chkC s d.coh = 0∧smpE d.smp = 0∧1≤d.qs.length∧d.qs.length≤8∧∀ i,i < d.qs.length→qstE s (qAt d.qs i) = 0:=by
 unfold dclE at h
 split at h
 ·rename_i h1;exact absurd h h1
 rename_i h1
 split at h
 ·cases h
 rename_i h2
 split at h
 ·rename_i h3;exact absurd h h3
 rename_i h3
 split at h
 ·cases h
 rename_i h4
 split at h
 ·cases h
 rename_i h5
 refine ⟨Classical.byContradiction h1,?_,?_,Classical.byContradiction h3,Classical.byContradiction h4,by omega,by omega,fun i hi=>?_⟩
 ·cases e:jh d.proj with
  | true=>rfl
  | false=>exact absurd (.inl e) h2
 ·cases e:jh d.src with
  | true=>rfl
  | false=>exact absurd (.inr e) h2
 ·have:=Zw h i hi
  unfold qsE at this
  split at this
  ·rename_i h6;exact absurd this h6
  ·rename_i h6;exact Classical.byContradiction h6
theorem zR5 {s:Sch} {l:List Pk} (h:qm1 s l = 0):schE s = 0∧(∀ p∈l,QC s p = 0)∧l.Pairwise fun a b=>a.col < b.col:=by
 unfold qm1 at h
 split at h
 ·rename_i h1;exact absurd h h1
 rename_i h1
 have key:∀ i,i < l.length→QC s (pkAt l i) = 0∧¬ (0 < i∧(pkAt l i).col≤(pkAt l (i - 1)).col):=fun i hi=>by
  have:=Zw h i hi
  unfold zf8 at this
  split at this
  ·rename_i h2;exact absurd this h2
  rename_i h2
  split at this
  ·cases this
  ·rename_i h3;exact ⟨Classical.byContradiction h2,h3⟩
 refine ⟨Classical.byContradiction h1,fun p hp=>?_,?_⟩
 ·obtain ⟨i,hi,rfl⟩:=List.getElem_of_mem hp
  have:=(key i hi).1
  rw [pkAt,qk hi] at this
  exact this
 ·rw [List.pairwise_iff_getElem]
  have k2:∀ (d i:Nat) (hj:i + d + 1 < l.length),(l[i]'(by omega)).col < l[i + d + 1].col:=by
   intro d
   induction d with
   | zero=>
     intro i hj
     have:=(key (i + 1) (by omega)).2
     rw [pkAt,pkAt,qk (by omega),qk (by omega)] at this
     simp at this
     simpa using this
   | succ d ih=>
     intro i hj
     have h1:=ih i (by omega)
     have h2:=(key (i + d + 1 + 1) (by omega)).2
     rw [pkAt,pkAt,qk (by omega),qk (by omega)] at h2
     simp only [Nat.add_sub_cancel] at h2
     have e:i + (d + 1) + 1 = i + d + 1 + 1:=by omega
     simp only [e]
     omega
  intro i j hi hj hij
  have:=k2 (j - i - 1) i (by omega)
  have e:i + (j - i - 1) + 1 = j:=by omega
  simp only [e] at this
  exact this
theorem zw5 {s:Sch} {p:Pk} (h:QC s p = 0):schE s = 0∧1≤p.col∧p.col < s.cols.length∧0≤p.lev∧p.lev≤finI s p.col:=by
 unfold QC at h
 split at h
 ·rename_i h1;exact absurd h h1
 rename_i h1
 split at h
 ·cases h
 rename_i h2
 split at h
 ·cases h
 rename_i h3
 rw [Bool.not_eq_false,inB,Bool.and_eq_true,decide_eq_true_eq,decide_eq_true_eq] at h3
 exact ⟨Classical.byContradiction h1,by omega,by omega,h3.1,h3.2⟩
end Go.Proofs
namespace Go.Proofs
open Go Go.TL
def divM (high w wo:Int):Nat→Int→Bool
 | 0,_=>true
 | k + 1,f=>if f > high then true else if f.tmod wo≠0 then false else divM high w wo k (f + w)
def divP (s:Sch) (col:Nat) (L:List Int) (other lev:Nat) (i k:Nat):Bool:=
 !(!(qT s col lev (L.getD i 0) == qT s col lev (L.getD k 0)) && (qT s col other (L.getD i 0) == qT s col other (L.getD k 0)))
def divB (s:Sch) (col other lev:Nat):Bool:=
 if lev = 0∨lev≤other then true
 else if (qj s col).kind = 2 then qF3 (qS s col).length (divP s col (qS s col) other lev)
 else
  let x:=qj s col
  let w:=zm x lev
  let first:=(qK x.low w + 1) * w
  if other = 0 then !x.opt && decide (first > x.high)
  else divM x.high w (zm x other) 2 first
def yH (s:Sch) (col lev:Int):Int:=if inB lev 0 (finI s col) = false then -1 else Wm (fun n=>divB s col.toNat n lev.toNat) 64 0
def jn4 (q:Qst) (k:Int):Bool:=(q.meas == k) || q.terms.contains k
def JP (l m:List Pk):List Pk:=m.foldl (fun l p=>qa9 l p.col p.lev) l
def qu3 (s:Sch) (q:Qst):List Pk→Nat→List Pk:=fun l k=>if jn4 q (k + 1) = true then qa9 l (k + 1) (yH s (k + 1) (finI s (k + 1))) else l
def jn5 (s:Sch) (q:Qst) (l:List Pk):List Pk:=(List.range (s.cols.length - 1)).foldl (qu3 s q) l
def wW (s:Sch) (q:Qst):List Pk:=if qstE s q≠0 then [] else
 jn5 s q (q.dims.foldl (fun l p=>qa9 l p.col (yH s p.col p.lev)) (if q.kind = 3 then JP (jS s q.filt) (jS s q.event) else jS s q.filt))
def sufB (s:Sch) (q:Qst) (l:List Pk):Bool:=(qstE s q == 0) && (qm1 s l == 0) && covB (wW s q) l
def zU (s:Sch) (d:Dcl):List Pk:=if dclE s d≠0 then [] else d.qs.foldl (fun l q=>JP l (wW s q)) []
def zf9 (s:Sch) (d:Dcl) (l:List Pk):Int:=if dclE s d≠0 then dclE s d else if qm1 s l≠0 then qm1 s l else zx (fun i=>if sufB s (qAt d.qs i) l = true then 0 else 23) d.qs.length
end Go.Proofs
namespace Go.Proofs
open Go Go.TL
theorem Wb {s:Sch} {c:Int} (h:0≤finI s c):schE s = 0∧1≤c∧c < s.cols.length∧finI s c = (if (qj s c.toNat).kind = 2 then zi (qM s c.toNat) - 1 else (qj s c.toNat).widths.length):=by
 unfold finI at h ⊢
 split at h
 ·omega
 ·rename_i h1
  rw [if_neg h1]
  exact ⟨by omega,by omega,by omega,rfl⟩
theorem Yy {n lo hi:Int}:inB n lo hi = true↔lo≤n∧n≤hi:=by simp [inB]
theorem qF5 {n lo hi:Int}:inB n lo hi = false↔n < lo∨hi < n:=by
 rw [← Bool.not_eq_true,Yy];omega
theorem SchOk.wid {s:Sch} (h:SchOk s) {i:Nat} (hi:i < s.cols.length) (h0:0 < i) (hk:(qj s i).kind≠2) {lev:Int} (hl:1≤lev∧lev≤(qj s i).widths.length) :
 1≤zm (qj s i) lev∧zm (qj s i) lev≤1000000∧(qj s i).kind = 3∧(qj s i).widths.length≤4∧-1000000≤(qj s i).low∧(qj s i).high≤1000000∧(qj s i).low≤(qj s i).high∧zm (qj s i) (qj s i).widths.length = 1:=by
 have hk2:=zf (h.cs i hi)
 have hk3:(qj s i).kind = 3:=by have:=hk2.2.2.1 h0;omega
 have hm:=hk2.2.2.2.2 hk3
 generalize qj s i = c at hl hm hk3 ⊢
 unfold measE at hm
 split at hm
 ·cases hm
 rename_i h1
 split at hm
 ·cases hm
 rename_i h2
 split at hm
 ·cases hm
 rename_i h3
 rw [Bool.not_eq_false] at h3
 have hw:∀ j,j < c.widths.length→wdOk c.widths j = true:=fun j hj=>List.all_eq_true.1 h3 j (List.mem_range.2 hj)
 have e1:inB c.low (-1000000) 1000000 = true:=by grind
 have e2:inB c.high (-1000000) 1000000 = true:=by grind
 rw [Yy] at e1 e2
 have hn:((c.widths.length:Int) - lev).toNat < c.widths.length:=by omega
 have hp:=zf5 (ws:=c.widths) hw _ hn
 have h0:=hw 0 (by omega)
 rw [wdOk,if_pos rfl,beq_iff_eq] at h0
 have hmax:c.widths.getD ((c.widths.length:Int) - lev).toNat 0≤1000000:=by
  have:=hw _ hn
  unfold wdOk at this
  split at this
  ·rename_i e;rw [e,h0];omega
  ·simp only [Bool.and_eq_true,decide_eq_true_eq] at this;omega
 refine ⟨hp,hmax,hk3,by omega,by omega,by omega,by omega,?_⟩
 rw [zm,show ((c.widths.length:Int) - c.widths.length).toNat = 0 by omega,h0]
theorem qF6 {v w:Int} (hw:0 < w):v - w < qK v w * w∧qK v w * w≤v:=by
 unfold qK
 rw [Int.fdiv_eq_ediv_of_nonneg _ (by omega),Int.mul_comm]
 have h1:=Int.mul_ediv_add_emod v w
 have h2:=Int.emod_nonneg v (b:=w) (by omega)
 have h3:=Int.emod_lt_of_pos v hw
 omega
theorem zg0 (s:Sch) (hs:Ze s) (p:Pk):Spc Tryz.prog Yb [schT s,pkT p] [] (vI (QC s p)) []:=by
 refine qd qS5 mixm (by simp) fun e _ hst=>qg ?_
 unfold KR
 refine sW ?_
 refine C1.im (yG s hs) (by rfl) (by rfl) ?_
 simp only [tZ,↓un_u,simprocAttr,tD,bne_iff_ne,bne_eq_false_iff_eq]
 refine ⟨fun h=>?_,fun h=>⟨fun h2=>?_,fun h2=>?_⟩⟩
 ·rw [QC,if_pos h]
  exact .oA [] []
 ·rw [QC,if_neg (by rw [h];simp),if_pos (by omega)]
  exact .oA [] []
 rw [QC,if_neg (by rw [h];simp),if_neg (by omega)]
 refine C1.im (qc1 s hs p.col) (by rfl) (by rfl) ?_
 refine sW ?_
 refine C1.im (Kj p.lev 0 (finI s p.col)) (by rfl) (by rfl) ?_
 simp only [tZ,↓un_u,simprocAttr,Bool.not_eq_true',Bool.not_eq_false']
 refine ⟨by kernel_rfl,fun h3=>?_,fun h3=>?_⟩
 ·rw [if_pos h3]
  exact .oA [] []
 ·rw [if_neg (by rw [h3];simp)]
  exact .oA [] []
theorem qm2 {x y:Pk}:eqPk x y = true↔x = y:=by
 cases x;cases y
 simp [eqPk]
theorem zB4 {a b:List Pk}:qu1 a b = true↔a = b:=ze1 fun x y=>qm2
theorem Kn (a b:List Pk) (ha:a.length < 4611686018427387904):Spc Tryz.prog kL [vPs a,vPs b] [] (vB (qu1 a b)) []:=by
 refine qd qi6 mixm (by simp) fun e _ hst=>qg ?_
 unfold yo
 simp only [tZ,↓un_u,simprocAttr,bne_iff_ne,bne_eq_false_iff_eq]
 refine ⟨fun h=>?_,fun h=>?_⟩
 ·rw [qu1,zv5 (by omega)]
  exact .oA [] []
 have hl:a.length = b.length:=by omega
 refine qu mixm (α:=Nat) [5] (fun i=>i≤a.length∧(qu1 (a.take i) (b.take i) = true)) (fun i=>[(5,vI i)]) (fun i=>[]) (fun i=>a.length - i) 0 ⟨by omega,?_⟩ ?_ fun i hi=>?_
 ·rfl
 ·exact .oA [] []
 simp only [tZ,↓un_u,simprocAttr,decide_eq_true_eq,decide_eq_false_iff_not]
 refine ⟨fun h=>?_,fun h=>?_⟩
 ·have hib:i < b.length:=by omega
  have hi2:i < a.length:=by omega
  have hwi:=qh (i:=i) (by omega)
  simp only [tZ,↓un_u,simprocAttr,Int.toNat_natCast,qe hi2,hwi,qe hib]
  rw [show (a[i].col == b[i].col && a[i].lev == b[i].lev) = eqPk a[i] b[i] from rfl]
  refine ⟨by omega,by omega,by kernel_rfl,fun h3=>?_,fun h3=>⟨i + 1,⟨by omega,?_⟩,by omega,?_⟩⟩
  ·rw [qu1,zl0 (i:=i) hl (by omega) h3]
   exact .oA [] []
  ·rw [qu1,qO9 hi2 hib,← qu1,hi.2]
   simpa using h3
  ·exact .oA [] []
 ·have hi2:i = a.length:=by omega
  subst hi2
  have h3:=hi.2
  rw [List.take_length,List.take_of_length_le (by omega)] at h3
  rw [h3]
  exact .oA [] []
end Go.Proofs
namespace Go.Proofs
open Go Go.TL
theorem zB5 {s:Sch} (h:SchOk s) {i:Nat} (hi:i < s.cols.length) (h2:(qj s i).kind = 2):(qS s i).length≤60:=by
 obtain ⟨d1,d2⟩:=h.cdl hi h2
 obtain ⟨_,d5,d6⟩:=zw d2
 unfold qS atL
 rw [if_neg (by rw [d2];simp),List.length_map]
 have:=List.length_filter_le (fun i=>(dep (qM s i).codes i:Int) == zi (qM s i) - 1) (List.range (qM s i).codes.length)
 refine Nat.le_trans (List.length_filter_le _ _) ?_
 rw [List.length_range];exact d6
theorem zw6 (s:Sch) (i lev:Nat):divB s i lev lev = true:=by unfold divB;rw [if_pos (by omega)]
theorem qf7 {s:Sch} {c:Int} (h:schE s = 0):finI s c≤59:=by
 by_cases h0:0≤finI s c
 ·obtain ⟨_,h1,h2,h3⟩:=Wb h0
  rw [h3]
  split
  ·have:=qF2 (l:=qM s c.toNat);omega
  ·rename_i h4
   have hok:=qZ h
   by_cases e:(qj s c.toNat).widths.length = 0
   ·omega
   ·have:=hok.wid (i:=c.toNat) (by omega) (by omega) h4 (lev:=1) (by omega)
    omega
 ·omega
end Go.Proofs
namespace Go.Proofs
open Go Go.TL
abbrev cnT (c:Cnd):T:=.agg [vI c.op,vI c.col,vI c.code,vI c.lo,vI c.hi,vCs c.kids]
theorem jb1 (c:Cnd):(cndT c).cells.length = 6∧imL (cndT c).cells = true:=by rw [zX];exact ⟨rfl,rfl⟩
theorem qm3 {α:Type} {f:α→T} {l:List α} {i:Nat} (h:l.length≤i):(l.map f).getD i .junk = .junk:=by simp [List.getD,h]
theorem qT9 {α:Type} {l:List α} {i:Nat} (h:i < l.length):l.drop i = l[i] :: l.drop (i + 1):=List.drop_eq_getElem_cons h
theorem qU0:∀ (c:Cnd) (m:Int),1≤m→m≤1000→Spc Tryz.prog Zl [cnT c,vI m] [] (vI (cntC c m)) []:=by
 refine Cnd.ind' fun c ih m hm hm2=>?_
 rw [Wa]
 refine qd qJ6 mixm (by simp) fun e _ hst=>qg ?_
 unfold JF
 refine sW ?_
 refine qu mixm (α:=Nat×Int) [5,6] (fun y=>y.1≤c.kids.length∧kJ c.kids m 1 = kJ (c.kids.drop y.1) m y.2∧y.2≤m∧y.1 + 1≤y.2) (fun y=>[(5,vI y.2),(6,vI y.1)]) (fun y=>[(4096,.arr 6 [cnT c] false)]) (fun y=>c.kids.length - y.1) (0,1) ⟨by simp,rfl,hm,by simp⟩ ?_ fun y hy=>?_
 ·exact .oA [(4096,some 4096)] []
 obtain ⟨i,n⟩:=y
 obtain ⟨y1,y2,y3,y4⟩:=hy
 dsimp only at y1 y2 y3 y4
 rw [y2]
 refine sD ?_
 refine ⟨fun h=>?_,fun h=>?_⟩
 ·have hi:i < c.kids.length:=by omega
  have hwi:=qh (i:=i) (by omega)
  have hw:IntKind.i64.wrap (m - n) = m - n:=IntWalk.i64_in _ (by omega)
  have hc:=qu2 c.kids[i] (m - n) (by omega)
  have hw2:IntKind.i64.wrap (n + cntC c.kids[i] (m - n)) = n + cntC c.kids[i] (m - n):=IntWalk.i64_in _ (by omega)
  simp only [tZ,↓un_u,simprocAttr,Int.toNat_natCast,qe hi,zX,hw]
  refine ⟨by omega,?_⟩
  refine C1.im (ih _ (List.getElem_mem hi) (m - n) (by omega) (by omega)) (by rfl) (by rfl) ?_
  simp only [tZ,↓un_u,simprocAttr,hw2,hwi]
  refine ⟨(i + 1,n + cntC c.kids[i] (m - n)),⟨by dsimp only;omega,?_,by dsimp only;omega,by dsimp only;omega⟩,by dsimp only;omega,?_⟩
  ·dsimp only
   rw [qT9 hi,kJ,if_pos (by omega)]
  ·exact .oA [(4096,some 4096)] []
 ·have:kJ (c.kids.drop i) m n = n:=by
   by_cases hi:i < c.kids.length
   ·rw [qT9 hi,kJ,if_neg (by omega)]
   ·rw [List.drop_of_length_le (by omega),kJ]
  rw [this]
  exact .oA [] []
theorem qr6:∀ (l:List Cnd) (k:Cnd),jV (l ++ [k]) = max (jV l) (depC k)
 | [],k=>by simp [jV]
 | x :: r,k=>by rw [List.cons_append,jV,qr6 r k,jV];omega
theorem qr7:∀ (l:List Cnd) (i:Nat),jV (l.take i)≤jV l
 | [],i=>by simp
 | x :: r,0=>by simp [jV]
 | x :: r,i + 1=>by rw [List.take_succ_cons,jV,jV];have:=qr7 r i;omega
theorem qy4:∀ {l:List Cnd} {m n:Int},n≤m→kJ l m n < m→n + l.length≤kJ l m n∧∀ k∈l,∃ m',1≤m'∧m'≤m - n∧cntC k m' < m'
 | [],m,n,_,h=>by rw [kJ];simp
 | x :: r,m,n,h1,h=>by
   rw [kJ] at h ⊢
   split at h
   ·rename_i h2
    rw [if_pos h2]
    have h3:=qu2 x (m - n) (by omega)
    obtain ⟨h4,h5⟩:=qy4 (l:=r) (by omega) h
    refine ⟨by rw [List.length_cons];omega,fun k hk=>?_⟩
    rcases List.mem_cons.1 hk with e | hk
    ·subst e
     exact ⟨m - n,by omega,by omega,by omega⟩
    ·obtain ⟨m',a,b,c⟩:=h5 k hk
     exact ⟨m',a,by omega,c⟩
   ·omega
theorem qU1:∀ (c:Cnd) (m:Int),1≤m→m≤1000→cntC c m < m→Spc Tryz.prog Zm [cnT c] [] (vI (depC c)) []:=by
 refine Cnd.ind' fun c ih m hm hm2 hc=>?_
 have hd:=zR4 c m hm hc
 rw [Wa] at hc hd
 obtain ⟨hk1,hk2⟩:=qy4 (by omega) hc
 rw [qr4] at hd ⊢
 refine qd qJ8 mixm (by simp) fun e _ hst=>qg ?_
 unfold JG
 refine sW ?_
 refine qu mixm (α:=Nat) [3,4] (fun i=>i≤c.kids.length) (fun i=>[(3,vI (jV (c.kids.take i))),(4,vI i)]) (fun i=>[(4096,.arr 6 [cnT c] false)]) (fun i=>c.kids.length - i) 0 (by omega) ?_ fun i hi=>?_
 ·refine .of [(4096,some 4096)] [] rfl (by first | rfl | (rw [hst];rfl)) ?_ ?_
  all_goals (try simp only [tL,simprocAttr,List.map_append,List.map_cons,List.map_nil,List.cons_append,List.nil_append,List.take_zero,jV])
  all_goals (try (repeat' (first | exact qR | (apply zd;intro _;exact ⟨rfl,rfl⟩) | (apply qz;intro _;exact ⟨rfl,rfl⟩) | with_reducible apply qG | with_reducible refine qE ⟨rfl,rfl⟩ ?_ | exact qO | with_reducible apply qA | with_reducible refine qJ ⟨rfl,rfl,?_⟩ ?_ | with_reducible apply And.intro | exact qD rfl | exact qD (by assumption) | (refine ⟨⟨?_,rfl,?_,rfl,?_⟩,trivial⟩ <;> first | (simp;done) | (apply qz;intro _;exact ⟨rfl,rfl⟩)) | trivial | rfl | (rw [qh (by omega)]) | omega)))
 have hdt:=qr7 c.kids i
 refine sD ?_
 refine ⟨fun h=>?_,fun h=>?_⟩
 ·have hi2:i < c.kids.length:=by omega
  have hwi:=qh (i:=i) (by omega)
  have hs:jV (c.kids.take (i + 1)) = max (jV (c.kids.take i)) (depC c.kids[i]):=by rw [qY hi2,qr6]
  obtain ⟨m',a1,a2,a3⟩:=hk2 _ (List.getElem_mem hi2)
  simp only [tZ,↓un_u,simprocAttr,Int.toNat_natCast,qe hi2,zX]
  refine ⟨by omega,?_⟩
  refine C1.im (ih _ (List.getElem_mem hi2) m' a1 (by omega) a3) (by rfl) (by rfl) ?_
  have hmx:maxI (jV (c.kids.take i):Int) (depC c.kids[i]) = (jV (c.kids.take (i + 1)):Int):=by rw [hs];unfold maxI;omega
  simp only [tZ,↓un_u,simprocAttr,hwi,hmx]
  refine ⟨i + 1,by omega,by omega,?_⟩
  exact .oA [(4096,some 4096)] []
 ·have hil:i = c.kids.length:=by omega
  subst hil
  rw [List.take_length] at hdt ⊢
  have hw:=qh (i:=jV c.kids) (by omega)
  simp only [tZ,↓un_u,simprocAttr,hw]
  exact .oA [] []
theorem qW (s:Sch) (col kind:Int):Spc Tryz.prog JZ [schT s,vI col,vI kind] [] (vB (isB s col kind)) []:=by
 by_cases h:0≤col∧col < s.cols.length
 ·obtain ⟨i,rfl⟩:=Int.eq_ofNat_of_zero_le h.1
  have hi:i < s.cols.length:=by omega
  have e1:decide ((i:Int)≥0) = true:=decide_eq_true (by omega)
  have e2:decide ((i:Int) < s.cols.length) = true:=decide_eq_true (by omega)
  have e3:isB s i kind = (s.cols[i].kind == kind):=by
   rw [isB,Int.toNat_natCast,qj,qk hi,decide_eq_true h.1,decide_eq_true h.2];rfl
  refine qd qf0 mixm (by simp) fun e _ hst=>qg ?_
  unfold ZU
  simp only [tZ,↓un_u,simprocAttr,e1,e2,Int.toNat_natCast,qe hi]
  rw [e3]
  refine ⟨by omega,?_⟩
  exact .oA [] []
 ·have e1:(decide (col≥0) && decide (col < (s.cols.length:Int))) = false:=by
   rw [Bool.and_eq_false_iff,decide_eq_false_iff_not,decide_eq_false_iff_not];omega
  have e3:isB s col kind = false:=by
   unfold isB
   rw [show (decide (0≤col) && decide (col < (s.cols.length:Int))) = false from e1];rfl
  rcases Nat.lt_or_ge col.toNat s.cols.length with hk | hk
  ·refine qd qf0 mixm (by simp) fun e _ hst=>qg ?_
   unfold ZU
   simp only [tZ,↓un_u,simprocAttr,e1,qe hk]
   rw [e3]
   exact .oA [] []
  ·have hj:(s.cols.map colT).getD col.toNat .junk = .junk:=qm3 hk
   refine qd qf0 mixm (by simp) fun e _ hst=>qg ?_
   unfold ZU
   simp only [tZ,↓un_u,simprocAttr,e1,hj,List.drop_succ_cons,List.drop_nil]
   rw [e3]
   exact .oA [] []
end Go.Proofs
namespace Go.Proofs
open Go Go.TL
set_option maxRecDepth 4000
set_option maxHeartbeats 8000000
theorem qf8:∀ {s:Sch} {l:List Cnd} {i:Nat} (h:i < l.length),yM s (l.take i) = 0→nodE s l[i]≠0→yM s l = nodE s l[i]
 | s,x :: r,0,h,_,h2=>by
   have h2:nodE s x≠0:=h2
   rw [yM,if_pos h2];rfl
 | s,x :: r,i + 1,h,h1,h2=>by
   rw [List.take_succ_cons,yM] at h1
   split at h1
   ·rename_i h3;exact absurd h1 h3
   ·rename_i h3
    rw [yM,if_neg h3]
    exact qf8 (l:=r) (i:=i) (by simpa using h) h1 h2
theorem qr8:∀ {s:Sch} {l:List Cnd} {k:Cnd},yM s l = 0→nodE s k = 0→yM s (l ++ [k]) = 0
 | s,[],k,_,h=>by simp [yM,h]
 | s,x :: r,k,h1,h2=>by
   rw [yM] at h1
   split at h1
   ·rename_i h3;exact absurd h1 h3
   ·rename_i h3
    rw [List.cons_append,yM,if_neg h3]
    exact qr8 h1 h2
theorem SchOk.list0 {s:Sch} (h:SchOk s) {i:Nat} (hi:i < s.cols.length) (hk:(qj s i).kind≠2):(qj s i).list = 0:=by
 have:=h.cs i hi
 unfold colE at this
 grind
theorem zg1 (s:Sch) (hok:SchOk s) (hL:0 < s.lists.length):∀ (c:Cnd),Spc Tryz.prog Jn [schT s,cnT c] [] (vI (nodE s c)) []:=by
 refine Cnd.ind' fun c ih=>?_
 have hN0:=qT6 s c
 have hn0:=hok.nl
 have hn1:=hok.nc
 generalize nodE s c = N at hN0 ⊢
 obtain ⟨op,col,code,lo,hi,ks⟩:=c
 simp only [Cnd.op,Cnd.col,Cnd.code,Cnd.lo,Cnd.hi,Cnd.kids] at ih hN0 ⊢
 have hn:ndE s (.mk op col code lo hi ks) = if op < 1∨7 < op then 4
 else if ks.length≠arC op∨(op≠2∧op≠3∧op≠4∧col≠0)∨(op≠2∧code≠0)∨(op≠3∧(lo≠0∨hi≠0)) then 11
 else if (op = 2∧isB s col 2 = false)∨(op = 3∧isB s col 3 = false)∨(op = 4∧(isB s col 3 = false∨(qj s col.toNat).opt = false)) then 7
 else if op = 2∧(code < 0∨code≥(qM s col.toNat).codes.length) then 6
 else if op = 3∧(lo < -1000000∨hi > 1000000∨lo > hi) then 2 else 0:=rfl
 have hbad:∀ v,v≠0→ndE s (.mk op col code lo hi ks) = v→N = v:=fun v h1 h2=>by rw [hN0,h2,if_pos h1]
 have hgood:ndE s (.mk op col code lo hi ks) = 0→N = yM s ks:=fun h2=>by rw [hN0,h2,if_neg (by simp)]
 clear hN0
 generalize ndE s (.mk op col code lo hi ks) = E at hn hbad hgood
 have h0p:0 < s.cols.length:=by omega
 have hg0:(s.cols.map colT).getD 0 .junk = colT s.cols[0]:=qe (i:=0) h0p
 have hl0:s.cols[0].list.toNat = 0:=by
  have h1:=hok.c0
  have:=hok.list0 (i:=0) h0p (by rw [h1];decide)
  rw [qj,qk h0p] at this
  rw [this];rfl
 have hgl:(s.lists.map cdlT).getD 0 .junk = cdlT s.lists[0]:=qe hL
 have hop:op = 1∨op = 2∨op = 3∨op = 4∨op = 5∨op = 6∨op = 7∨op < 1∨7 < op:=by omega
 rcases hop with e | e | e | e | e | e | e | e
 focus
  have q1:(op == 1) = true:=by rw [e];rfl
  have q2:(op == 2) = false:=by rw [e];rfl
  have q3:(op == 3) = false:=by rw [e];rfl
  have q4:(op == 4) = false:=by rw [e];rfl
  have q5:(op == 5) = false:=by rw [e];rfl
  have q6:(op == 6) = false:=by rw [e];rfl
  have q7:(op == 7) = false:=by rw [e];rfl
  simp [arC,-List.length_eq_zero_iff,e] at hn
  refine qd jf mixm (by simp) fun e _ hst=>qg ?_
  unfold zn
  simp only [tZ,↓un_u,simprocAttr,Cnd.op,Cnd.col,Cnd.code,Cnd.lo,Cnd.hi,Cnd.kids,q1,q2,q3,q4,q5,q6,q7]
  refine ⟨by kernel_rfl,fun h=>?_,fun h=>?_⟩
  ·rw [hbad 11 (by decide) (by rw [hn,if_pos];grind)]
   exact .oA [] []
  have hks:ks.length≤2:=by grind
  rw [hgood (by rw [hn,if_neg];grind)]
  have hc0:col.toNat = 0:=by grind
  refine C2.im (fun _=>qW s col 2) (fun _=>rfl) (by rfl) ?_
  simp only [tZ,↓un_u,simprocAttr,Cnd.op,Cnd.col,Cnd.code,Cnd.lo,Cnd.hi,Cnd.kids,q1,q2,q3,q4,q5,q6,q7]
  refine C2.im (fun _=>qW s col 3) (fun _=>rfl) (by rfl) ?_
  simp only [tZ,↓un_u,simprocAttr,Cnd.op,Cnd.col,Cnd.code,Cnd.lo,Cnd.hi,Cnd.kids,q1,q2,q3,q4,q5,q6,q7]
  refine C2.im (fun _=>qW s col 3) (fun _=>rfl) (by rfl) ?_
  simp only [tZ,↓un_u,simprocAttr,Cnd.op,Cnd.col,Cnd.code,Cnd.lo,Cnd.hi,Cnd.kids,q1,q2,q3,q4,q5,q6,q7,hc0,hg0,hl0,hgl]
  refine ⟨by kernel_rfl,?_⟩
 rotate_left
 focus
  have q1:(op == 1) = false:=by rw [e];rfl
  have q2:(op == 2) = true:=by rw [e];rfl
  have q3:(op == 3) = false:=by rw [e];rfl
  have q4:(op == 4) = false:=by rw [e];rfl
  have q5:(op == 5) = false:=by rw [e];rfl
  have q6:(op == 6) = false:=by rw [e];rfl
  have q7:(op == 7) = false:=by rw [e];rfl
  simp [arC,-List.length_eq_zero_iff,e] at hn
  refine qd jf mixm (by simp) fun e _ hst=>qg ?_
  unfold zn
  simp only [tZ,↓un_u,simprocAttr,Cnd.op,Cnd.col,Cnd.code,Cnd.lo,Cnd.hi,Cnd.kids,q1,q2,q3,q4,q5,q6,q7]
  refine ⟨by kernel_rfl,?_⟩
  refine ⟨by kernel_rfl,?_⟩
  refine ⟨fun h=>?_,fun h=>?_⟩
  ·rw [hbad 11 (by decide) (by rw [hn,if_pos];grind)]
   exact .oA [] []
  have hks:ks.length≤2:=by grind
  rw [if_neg (by grind)] at hn
  refine C2.im (fun _=>qW s col 2) (fun _=>rfl) (by rfl) ?_
  simp only [tZ,↓un_u,simprocAttr,Cnd.op,Cnd.col,Cnd.code,Cnd.lo,Cnd.hi,Cnd.kids,q1,q2,q3,q4,q5,q6,q7]
  refine C2.im (fun _=>qW s col 3) (fun _=>rfl) (by rfl) ?_
  simp only [tZ,↓un_u,simprocAttr,Cnd.op,Cnd.col,Cnd.code,Cnd.lo,Cnd.hi,Cnd.kids,q1,q2,q3,q4,q5,q6,q7]
  refine C2.im (fun _=>qW s col 3) (fun _=>rfl) (by rfl) ?_
  by_cases h2:isB s col 2 = false
  ·rw [hbad 7 (by decide) (by rw [hn,if_pos (by grind)])]
   rcases Nat.lt_or_ge col.toNat s.cols.length with hk | hk
   ·simp only [tZ,↓un_u,simprocAttr,Cnd.op,Cnd.col,Cnd.code,Cnd.lo,Cnd.hi,Cnd.kids,q1,q2,q3,q4,q5,q6,q7,h2,qe hk]
    exact .oA [] []
   ·simp only [tZ,↓un_u,simprocAttr,Cnd.op,Cnd.col,Cnd.code,Cnd.lo,Cnd.hi,Cnd.kids,q1,q2,q3,q4,q5,q6,q7,h2,qm3 hk,List.drop_succ_cons,List.drop_nil]
    exact .oA [] []
  rw [Bool.not_eq_false] at h2
  obtain ⟨b1,b2,b3⟩:=zP.1 h2
  obtain ⟨i,hci⟩:∃ i:Nat,col.toNat = i:=⟨_,rfl⟩
  rw [hci] at b3
  try rw [hci] at hn
  have hil:i < s.cols.length:=by omega
  have hat:qj s i = s.cols[i]:=by rw [qj,qk hil]
  have hcd:=hok.cdl hil b3
  have hcd2:=(zf (hok.cs i hil)).2.2.2.1 b3
  have hcl:qM s i = s.lists.getD s.cols[i].list.toNat default:=by rw [qM,hat]
  rw [hat] at hcd hcd2
  rw [hcl,qk hcd.1] at hcd
  have hn:E = if code < 0∨code≥s.lists[s.cols[i].list.toNat].codes.length then 6 else 0:=by
   rw [hn,if_neg (by rw [h2];simp)]
   simp [hil,hcd.1]
  simp only [tZ,↓un_u,simprocAttr,Cnd.op,Cnd.col,Cnd.code,Cnd.lo,Cnd.hi,Cnd.kids,q1,q2,q3,q4,q5,q6,q7,h2,hci,qe hil,qe hcd.1,tD]
  refine ⟨fun _=>by omega,fun _=>by omega,by kernel_rfl,fun h3=>?_,fun h3=>?_⟩
  ·rw [hbad 6 (by decide) (by rw [hn,if_pos (by omega)])]
   exact .oA [] []
  rw [hgood (by rw [hn,if_neg (by omega)])]
 rotate_left
 focus
  have q1:(op == 1) = false:=by rw [e];rfl
  have q2:(op == 2) = false:=by rw [e];rfl
  have q3:(op == 3) = true:=by rw [e];rfl
  have q4:(op == 4) = false:=by rw [e];rfl
  have q5:(op == 5) = false:=by rw [e];rfl
  have q6:(op == 6) = false:=by rw [e];rfl
  have q7:(op == 7) = false:=by rw [e];rfl
  simp [arC,-List.length_eq_zero_iff,e] at hn
  refine qd jf mixm (by simp) fun e _ hst=>qg ?_
  unfold zn
  simp only [tZ,↓un_u,simprocAttr,Cnd.op,Cnd.col,Cnd.code,Cnd.lo,Cnd.hi,Cnd.kids,q1,q2,q3,q4,q5,q6,q7]
  refine ⟨by kernel_rfl,?_⟩
  refine ⟨by kernel_rfl,?_⟩
  refine ⟨fun h=>?_,fun h=>?_⟩
  ·rw [hbad 11 (by decide) (by rw [hn,if_pos];grind)]
   exact .oA [] []
  have hks:ks.length≤2:=by grind
  rw [if_neg (by grind)] at hn
  refine C2.im (fun _=>qW s col 2) (fun _=>rfl) (by rfl) ?_
  simp only [tZ,↓un_u,simprocAttr,Cnd.op,Cnd.col,Cnd.code,Cnd.lo,Cnd.hi,Cnd.kids,q1,q2,q3,q4,q5,q6,q7]
  refine C2.im (fun _=>qW s col 3) (fun _=>rfl) (by rfl) ?_
  simp only [tZ,↓un_u,simprocAttr,Cnd.op,Cnd.col,Cnd.code,Cnd.lo,Cnd.hi,Cnd.kids,q1,q2,q3,q4,q5,q6,q7]
  refine C2.im (fun _=>qW s col 3) (fun _=>rfl) (by rfl) ?_
  by_cases h2:isB s col 3 = false
  ·rw [hbad 7 (by decide) (by rw [hn,if_pos (by grind)])]
   rcases Nat.lt_or_ge col.toNat s.cols.length with hk | hk
   ·simp only [tZ,↓un_u,simprocAttr,Cnd.op,Cnd.col,Cnd.code,Cnd.lo,Cnd.hi,Cnd.kids,q1,q2,q3,q4,q5,q6,q7,h2,qe hk]
    exact .oA [] []
   ·simp only [tZ,↓un_u,simprocAttr,Cnd.op,Cnd.col,Cnd.code,Cnd.lo,Cnd.hi,Cnd.kids,q1,q2,q3,q4,q5,q6,q7,h2,qm3 hk,List.drop_succ_cons,List.drop_nil]
    exact .oA [] []
  rw [Bool.not_eq_false] at h2
  obtain ⟨b1,b2,b3⟩:=zP.1 h2
  obtain ⟨i,hci⟩:∃ i:Nat,col.toNat = i:=⟨_,rfl⟩
  rw [hci] at b3
  try rw [hci] at hn
  have hil:i < s.cols.length:=by omega
  have hat:qj s i = s.cols[i]:=by rw [qj,qk hil]
  have hli:s.cols[i].list.toNat = 0:=by
   have:=hok.list0 hil (by rw [b3];decide)
   rw [hat] at this
   rw [this];rfl
  rw [if_neg (by rw [h2];simp)] at hn
  simp only [tZ,↓un_u,simprocAttr,Cnd.op,Cnd.col,Cnd.code,Cnd.lo,Cnd.hi,Cnd.kids,q1,q2,q3,q4,q5,q6,q7,h2,hci,qe hil,hli,hgl,tD]
  refine ⟨by kernel_rfl,fun h3=>?_,fun h3=>?_⟩
  ·rw [hbad 2 (by decide) (by rw [hn,if_pos (by omega)])]
   exact .oA [] []
  rw [hgood (by rw [hn,if_neg (by omega)])]
 rotate_left
 focus
  have q1:(op == 1) = false:=by rw [e];rfl
  have q2:(op == 2) = false:=by rw [e];rfl
  have q3:(op == 3) = false:=by rw [e];rfl
  have q4:(op == 4) = true:=by rw [e];rfl
  have q5:(op == 5) = false:=by rw [e];rfl
  have q6:(op == 6) = false:=by rw [e];rfl
  have q7:(op == 7) = false:=by rw [e];rfl
  simp [arC,-List.length_eq_zero_iff,e] at hn
  refine qd jf mixm (by simp) fun e _ hst=>qg ?_
  unfold zn
  simp only [tZ,↓un_u,simprocAttr,Cnd.op,Cnd.col,Cnd.code,Cnd.lo,Cnd.hi,Cnd.kids,q1,q2,q3,q4,q5,q6,q7]
  refine ⟨by kernel_rfl,?_⟩
  refine ⟨fun h=>?_,fun h=>?_⟩
  ·rw [hbad 11 (by decide) (by rw [hn,if_pos];grind)]
   exact .oA [] []
  have hks:ks.length≤2:=by grind
  rw [if_neg (by grind)] at hn
  refine C2.im (fun _=>qW s col 2) (fun _=>rfl) (by rfl) ?_
  simp only [tZ,↓un_u,simprocAttr,Cnd.op,Cnd.col,Cnd.code,Cnd.lo,Cnd.hi,Cnd.kids,q1,q2,q3,q4,q5,q6,q7]
  refine C2.im (fun _=>qW s col 3) (fun _=>rfl) (by rfl) ?_
  simp only [tZ,↓un_u,simprocAttr,Cnd.op,Cnd.col,Cnd.code,Cnd.lo,Cnd.hi,Cnd.kids,q1,q2,q3,q4,q5,q6,q7]
  refine C2.im (fun _=>qW s col 3) (fun _=>rfl) (by rfl) ?_
  by_cases h2:isB s col 3 = false
  ·rw [hbad 7 (by decide) (by rw [hn,if_pos (by grind)])]
   rcases Nat.lt_or_ge col.toNat s.cols.length with hk | hk
   ·simp only [tZ,↓un_u,simprocAttr,Cnd.op,Cnd.col,Cnd.code,Cnd.lo,Cnd.hi,Cnd.kids,q1,q2,q3,q4,q5,q6,q7,h2,qe hk]
    exact .oA [] []
   ·simp only [tZ,↓un_u,simprocAttr,Cnd.op,Cnd.col,Cnd.code,Cnd.lo,Cnd.hi,Cnd.kids,q1,q2,q3,q4,q5,q6,q7,h2,qm3 hk,List.drop_succ_cons,List.drop_nil]
    exact .oA [] []
  rw [Bool.not_eq_false] at h2
  obtain ⟨b1,b2,b3⟩:=zP.1 h2
  obtain ⟨i,hci⟩:∃ i:Nat,col.toNat = i:=⟨_,rfl⟩
  rw [hci] at b3
  try rw [hci] at hn
  have hil:i < s.cols.length:=by omega
  have hat:qj s i = s.cols[i]:=by rw [qj,qk hil]
  have hli:s.cols[i].list.toNat = 0:=by
   have:=hok.list0 hil (by rw [b3];decide)
   rw [hat] at this
   rw [this];rfl
  have hn:E = if s.cols[i].opt = false then 7 else 0:=by
   rw [hn]
   simp [hil,h2]
  simp only [tZ,↓un_u,simprocAttr,Cnd.op,Cnd.col,Cnd.code,Cnd.lo,Cnd.hi,Cnd.kids,q1,q2,q3,q4,q5,q6,q7,h2,hci,qe hil,hli,hgl,Bool.not_eq_true',Bool.not_eq_false']
  refine ⟨by omega,fun h3=>?_,fun h3=>?_⟩
  ·rw [hbad 7 (by decide) (by rw [hn,if_pos h3])]
   exact .oA [] []
  rw [hgood (by rw [hn,if_neg (by rw [h3];simp)])]
  refine ⟨by kernel_rfl,?_⟩
 rotate_left
 focus
  have q1:(op == 1) = false:=by rw [e];rfl
  have q2:(op == 2) = false:=by rw [e];rfl
  have q3:(op == 3) = false:=by rw [e];rfl
  have q4:(op == 4) = false:=by rw [e];rfl
  have q5:(op == 5) = true:=by rw [e];rfl
  have q6:(op == 6) = false:=by rw [e];rfl
  have q7:(op == 7) = false:=by rw [e];rfl
  simp [arC,-List.length_eq_zero_iff,e] at hn
  refine qd jf mixm (by simp) fun e _ hst=>qg ?_
  unfold zn
  simp only [tZ,↓un_u,simprocAttr,Cnd.op,Cnd.col,Cnd.code,Cnd.lo,Cnd.hi,Cnd.kids,q1,q2,q3,q4,q5,q6,q7]
  refine ⟨by kernel_rfl,fun h=>?_,fun h=>?_⟩
  ·rw [hbad 11 (by decide) (by rw [hn,if_pos];grind)]
   exact .oA [] []
  have hks:ks.length≤2:=by grind
  rw [hgood (by rw [hn,if_neg];grind)]
  have hc0:col.toNat = 0:=by grind
  refine C2.im (fun _=>qW s col 2) (fun _=>rfl) (by rfl) ?_
  simp only [tZ,↓un_u,simprocAttr,Cnd.op,Cnd.col,Cnd.code,Cnd.lo,Cnd.hi,Cnd.kids,q1,q2,q3,q4,q5,q6,q7]
  refine C2.im (fun _=>qW s col 3) (fun _=>rfl) (by rfl) ?_
  simp only [tZ,↓un_u,simprocAttr,Cnd.op,Cnd.col,Cnd.code,Cnd.lo,Cnd.hi,Cnd.kids,q1,q2,q3,q4,q5,q6,q7]
  refine C2.im (fun _=>qW s col 3) (fun _=>rfl) (by rfl) ?_
  simp only [tZ,↓un_u,simprocAttr,Cnd.op,Cnd.col,Cnd.code,Cnd.lo,Cnd.hi,Cnd.kids,q1,q2,q3,q4,q5,q6,q7,hc0,hg0,hl0,hgl]
  refine ⟨by kernel_rfl,?_⟩
 rotate_left
 focus
  have q1:(op == 1) = false:=by rw [e];rfl
  have q2:(op == 2) = false:=by rw [e];rfl
  have q3:(op == 3) = false:=by rw [e];rfl
  have q4:(op == 4) = false:=by rw [e];rfl
  have q5:(op == 5) = false:=by rw [e];rfl
  have q6:(op == 6) = true:=by rw [e];rfl
  have q7:(op == 7) = false:=by rw [e];rfl
  simp [arC,-List.length_eq_zero_iff,e] at hn
  refine qd jf mixm (by simp) fun e _ hst=>qg ?_
  unfold zn
  simp only [tZ,↓un_u,simprocAttr,Cnd.op,Cnd.col,Cnd.code,Cnd.lo,Cnd.hi,Cnd.kids,q1,q2,q3,q4,q5,q6,q7]
  refine ⟨by kernel_rfl,fun h=>?_,fun h=>?_⟩
  ·rw [hbad 11 (by decide) (by rw [hn,if_pos];grind)]
   exact .oA [] []
  have hks:ks.length≤2:=by grind
  rw [hgood (by rw [hn,if_neg];grind)]
  have hc0:col.toNat = 0:=by grind
  refine C2.im (fun _=>qW s col 2) (fun _=>rfl) (by rfl) ?_
  simp only [tZ,↓un_u,simprocAttr,Cnd.op,Cnd.col,Cnd.code,Cnd.lo,Cnd.hi,Cnd.kids,q1,q2,q3,q4,q5,q6,q7]
  refine C2.im (fun _=>qW s col 3) (fun _=>rfl) (by rfl) ?_
  simp only [tZ,↓un_u,simprocAttr,Cnd.op,Cnd.col,Cnd.code,Cnd.lo,Cnd.hi,Cnd.kids,q1,q2,q3,q4,q5,q6,q7]
  refine C2.im (fun _=>qW s col 3) (fun _=>rfl) (by rfl) ?_
  simp only [tZ,↓un_u,simprocAttr,Cnd.op,Cnd.col,Cnd.code,Cnd.lo,Cnd.hi,Cnd.kids,q1,q2,q3,q4,q5,q6,q7,hc0,hg0,hl0,hgl]
  refine ⟨by kernel_rfl,?_⟩
 rotate_left
 focus
  have q1:(op == 1) = false:=by rw [e];rfl
  have q2:(op == 2) = false:=by rw [e];rfl
  have q3:(op == 3) = false:=by rw [e];rfl
  have q4:(op == 4) = false:=by rw [e];rfl
  have q5:(op == 5) = false:=by rw [e];rfl
  have q6:(op == 6) = false:=by rw [e];rfl
  have q7:(op == 7) = true:=by rw [e];rfl
  simp [arC,-List.length_eq_zero_iff,e] at hn
  refine qd jf mixm (by simp) fun e _ hst=>qg ?_
  unfold zn
  simp only [tZ,↓un_u,simprocAttr,Cnd.op,Cnd.col,Cnd.code,Cnd.lo,Cnd.hi,Cnd.kids,q1,q2,q3,q4,q5,q6,q7]
  refine ⟨by kernel_rfl,fun h=>?_,fun h=>?_⟩
  ·rw [hbad 11 (by decide) (by rw [hn,if_pos];grind)]
   exact .oA [] []
  have hks:ks.length≤2:=by grind
  rw [hgood (by rw [hn,if_neg];grind)]
  have hc0:col.toNat = 0:=by grind
  refine C2.im (fun _=>qW s col 2) (fun _=>rfl) (by rfl) ?_
  simp only [tZ,↓un_u,simprocAttr,Cnd.op,Cnd.col,Cnd.code,Cnd.lo,Cnd.hi,Cnd.kids,q1,q2,q3,q4,q5,q6,q7]
  refine C2.im (fun _=>qW s col 3) (fun _=>rfl) (by rfl) ?_
  simp only [tZ,↓un_u,simprocAttr,Cnd.op,Cnd.col,Cnd.code,Cnd.lo,Cnd.hi,Cnd.kids,q1,q2,q3,q4,q5,q6,q7]
  refine C2.im (fun _=>qW s col 3) (fun _=>rfl) (by rfl) ?_
  simp only [tZ,↓un_u,simprocAttr,Cnd.op,Cnd.col,Cnd.code,Cnd.lo,Cnd.hi,Cnd.kids,q1,q2,q3,q4,q5,q6,q7,hc0,hg0,hl0,hgl]
  refine ⟨by kernel_rfl,?_⟩
 rotate_left
 focus
  have q1:(op == 1) = false:=beq_eq_false_iff_ne.2 (by omega)
  have q2:(op == 2) = false:=beq_eq_false_iff_ne.2 (by omega)
  have q3:(op == 3) = false:=beq_eq_false_iff_ne.2 (by omega)
  have q4:(op == 4) = false:=beq_eq_false_iff_ne.2 (by omega)
  have q5:(op == 5) = false:=beq_eq_false_iff_ne.2 (by omega)
  have q6:(op == 6) = false:=beq_eq_false_iff_ne.2 (by omega)
  have q7:(op == 7) = false:=beq_eq_false_iff_ne.2 (by omega)
  rw [hbad 4 (by decide) (by rw [hn,if_pos e])]
  refine qd jf mixm (by simp) fun e _ hst=>qg ?_
  unfold zn
  simp only [tZ,↓un_u,simprocAttr,Cnd.op,Cnd.col,Cnd.code,Cnd.lo,Cnd.hi,Cnd.kids,q1,q2,q3,q4,q5,q6,q7]
  refine ⟨by kernel_rfl,?_⟩
  exact .oA [] []
 all_goals (
  refine qu mixm (α:=Nat) [7,77,121,147,167] (fun i=>i≤ks.length∧yM s (ks.take i) = 0) (fun i=>[(7,vI i)]) (fun i=>[(4096,.arr 2 [schT s] false),(4100,.arr 6 [.agg [vI op,vI col,vI code,vI lo,vI hi,vCs ks]] false)]) (fun i=>ks.length - i) 0 ⟨by omega,by rw [List.take_zero,yM]⟩ ?_ fun i hi2=>?_
  ·exact .oA [(4096,some 4096),(4100,some 4100)] []
  obtain ⟨i1,i2⟩:=hi2
  refine sD ?_
  refine ⟨fun h5=>?_,fun h5=>?_⟩
  ·have hi2:i < ks.length:=by omega
   have hwi:=qh (i:=i) (by omega)
   simp only [tZ,↓un_u,simprocAttr,Int.toNat_natCast,qe hi2,zX]
   refine ⟨by omega,?_⟩
   refine C1.im (ih _ (List.getElem_mem hi2)) (by rfl) (by rfl) ?_
   simp only [tZ,↓un_u,simprocAttr,hwi,bne_iff_ne,bne_eq_false_iff_eq]
   refine ⟨by kernel_rfl,fun h6=>?_,fun h6=>?_⟩
   ·rw [qf8 hi2 i2 h6]
    exact .oA [] []
   ·refine ⟨i + 1,⟨by omega,by rw [qY hi2];exact qr8 i2 h6⟩,by omega,?_⟩
    exact .oA [(4096,some 4096),(4100,some 4100)] []
  ·have hil:i = ks.length:=by omega
   subst hil
   rw [List.take_length] at i2
   rw [i2]
   exact .oA [] []
  )
end Go.Proofs
namespace Go.Proofs
open Go Go.TL
set_option maxHeartbeats 4000000
theorem Wc (s:Sch) (hs:Ze s) (hL:0 < s.lists.length) (c:Cnd):Spc Tryz.prog yg [schT s,cnT c] [] (vI (chkC s c)) []:=by
 refine qd qI6 mixm (by simp) fun e _ hst=>qg ?_
 unfold Jy
 refine sW ?_
 refine C1.im (yG s hs) (by rfl) (by rfl) ?_
 simp only [tZ,↓un_u,simprocAttr,bne_iff_ne,bne_eq_false_iff_eq]
 refine ⟨fun h=>?_,fun h=>?_⟩
 ·rw [chkC,if_pos h]
  exact .oA [] []
 have hok:=qZ h
 refine C1.im (qU0 c 41 (by omega) (by omega)) (by rfl) (by rfl) ?_
 refine sD ?_
 refine ⟨fun h2=>?_,fun h2=>?_⟩
 ·rw [chkC,if_neg (by rw [h];simp),if_pos h2]
  exact .oA [] []
 refine C1.im (qU1 c 41 (by omega) (by omega) (by omega)) (by rfl) (by rfl) ?_
 refine sD ?_
 refine ⟨fun h3=>?_,fun h3=>?_⟩
 ·rw [chkC,if_neg (by rw [h];simp),if_neg h2,if_pos (by omega)]
  exact .oA [] []
 rw [chkC,if_neg (by rw [h];simp),if_neg h2,if_neg (by omega)]
 refine C1.im (zg1 s hok hL c) (by rfl) (by rfl) ?_
 refine sW ?_
 exact .oA [] []
theorem qr9 {s:Sch} {c:Cnd} (h:chkC s c = 0):schE s = 0∧cntC c 41 < 41∧depC c≤10∧nodE s c = 0:=by
 unfold chkC at h
 split at h
 ·rename_i h1;exact absurd h h1
 rename_i h1
 split at h
 ·cases h
 rename_i h2
 split at h
 ·cases h
 rename_i h3
 exact ⟨Classical.byContradiction h1,by omega,by omega,h⟩
theorem qU2:∀ c m,1≤m→cntC c m < m→((atsC c).length:Int)≤cntC c m:=by
 refine Cnd.ind' fun c ih m hm h=>?_
 have hc:=qu2 c m hm
 rw [qT7]
 split
 ·simp;omega
 ·rw [Wa] at h ⊢
  have key:∀ l:List Cnd,(∀ k∈l,k∈c.kids)→∀ n,1≤n→n≤m→kJ l m n < m→n + (Kk l).length≤kJ l m n:=by
   intro l
   induction l with
   | nil=>intro _ n h1 h2 _;rw [kJ,Kk];simp
   | cons k r ihl=>
     intro hk n h1 h2 h3
     rw [kJ] at h3 ⊢
     rw [Kk,List.length_append]
     split at h3
     ·rename_i h4
      rw [if_pos h4]
      have c1:=qu2 k (m - n) (by omega)
      have c2:=qT8 r m (n + cntC k (m - n)) (by omega)
      have c3:=ih k (hk k (by simp)) (m - n) (by omega) (by omega)
      have c4:=ihl (fun x hx=>hk x (List.mem_cons_of_mem _ hx)) (n + cntC k (m - n)) (by omega) (by omega) h3
      omega
     ·omega
  have:=key c.kids (fun k hk=>hk) 1 (by omega) hm h
  omega
theorem Wd:∀ (l:List Cnd) (i:Nat),(Kk (l.take i)).length≤(Kk l).length
 | [],i=>by simp
 | x :: r,0=>by simp [Kk]
 | x :: r,i + 1=>by rw [List.take_succ_cons,Kk,Kk,List.length_append,List.length_append];have:=Wd r i;omega
theorem zR6 (l:List Cnd):ImXs 6 (l.map cndT):=qz jb1 l
theorem zR7 {st:Sto} {ρ:Ren} {B:List Nat} (l:List Cnd):ltXs st ρ B 6 (l.map cndT) (l.map cndT):=QA (zR6 l)
end Go.Proofs
namespace Go.Proofs
open Go Go.TL
set_option maxHeartbeats 4000000
theorem zg2 (col lev:Int):∀ (l:List Pk) (x:List Pk×Bool),(l.foldl (qL3 col lev) x).1.length + (if (l.foldl (qL3 col lev) x).2 = true then 0 else 1)≤x.1.length + (if x.2 = true then 0 else 1) + l.length
 | [],x=>Nat.le_refl _
 | p :: r,x=>by
   have h:=zg2 col lev r (qL3 col lev x p)
   have h2:(qL3 col lev x p).1.length + (if (qL3 col lev x p).2 = true then 0 else 1)≤x.1.length + (if x.2 = true then 0 else 1) + 1:=by
    unfold qL3
    obtain ⟨a,b⟩:=x
    dsimp only
    split <;> split <;> cases b <;> simp_all <;> omega
   rw [List.foldl_cons,List.length_cons]
   omega
theorem qm4 (l:List Pk) (col lev:Int):(qa9 l col lev).length≤l.length + 1:=by
 have h:=zg2 col lev l ([],decide (lev≤0))
 unfold qa9
 dsimp only at h ⊢
 split
 ·simp_all
  split at h <;> omega
 ·rename_i k
  rw [if_neg k] at h
  rw [List.length_append]
  simp at h ⊢
  split at h <;> omega
theorem zg3:∀ {a b:List Cnd},a.length≠b.length→wT a b = false
 | [],[],h=>by simp at h
 | x :: r,y :: t,h=>by rw [wT,zg3 (a:=r) (b:=t) (by simpa using h),Bool.and_false]
 | [],y :: t,_=>rfl
 | x :: r,[],_=>rfl
theorem qF7:∀ {a b:List Cnd} {i:Nat} (ha:i < a.length) (hb:i < b.length),wT (a.take (i + 1)) (b.take (i + 1)) = (wT (a.take i) (b.take i) && Kl a[i] b[i])
 | x :: r,y :: t,0,_,_=>by simp [wT]
 | x :: r,y :: t,i + 1,ha,hb=>by
   rw [List.take_succ_cons,List.take_succ_cons,wT,qF7 (a:=r) (b:=t) (by simpa using ha) (by simpa using hb),List.take_succ_cons,List.take_succ_cons,wT]
   simp [Bool.and_assoc]
theorem qP1:∀ {a b:List Cnd} {i:Nat} (ha:i < a.length) (hb:i < b.length),Kl a[i] b[i] = false→wT a b = false
 | x :: r,y :: t,0,_,_,h=>by
   have h:Kl x y = false:=h
   rw [wT,h,Bool.false_and]
 | x :: r,y :: t,i + 1,ha,hb,h=>by rw [wT,qP1 (a:=r) (b:=t) (i:=i) (by simpa using ha) (by simpa using hb) h,Bool.and_false]
inductive SmC:Cnd→Prop
 | mk (c:Cnd) (h1:c.kids.length < 4611686018427387904) (h2:∀ k∈c.kids,SmC k):SmC c
theorem zg4:∀ (a b:Cnd),(a.kids.length = b.kids.length→SmC a)→Spc Tryz.prog Jo [cnT a,cnT b] [] (vB (Kl a b)) []:=by
 refine Cnd.ind' fun a ih b hs=>?_
 rw [zw4]
 refine qd qT4 mixm (by simp) fun e _ hst=>qg ?_
 unfold KX
 simp only [tZ,↓un_u,simprocAttr,tD,bne_iff_ne,bne_eq_false_iff_eq]
 refine ⟨fun h=>?_,fun h=>?_⟩
 ·have:((a.op == b.op) && (a.col == b.col) && (a.code == b.code) && (a.lo == b.lo) && (a.hi == b.hi) && wT a.kids b.kids) = false:=by
   rcases h with ((((h | h) | h) | h) | h) | h
   ·rw [beq_eq_false_iff_ne.2 h];simp
   ·rw [beq_eq_false_iff_ne.2 h];simp
   ·rw [beq_eq_false_iff_ne.2 h];simp
   ·rw [beq_eq_false_iff_ne.2 h];simp
   ·rw [beq_eq_false_iff_ne.2 h];simp
   ·rw [zg3 (by omega)];simp
  rw [this]
  exact .oA [] []
 have e:((a.op == b.op) && (a.col == b.col) && (a.code == b.code) && (a.lo == b.lo) && (a.hi == b.hi) && wT a.kids b.kids) = wT a.kids b.kids:=by
  rw [beq_iff_eq.2 h.1.1.1.1.1,beq_iff_eq.2 h.1.1.1.1.2,beq_iff_eq.2 h.1.1.1.2,beq_iff_eq.2 h.1.1.2,beq_iff_eq.2 h.1.2];simp
 have hl:a.kids.length = b.kids.length:=by omega
 obtain ⟨_,s1,s2⟩:=hs hl
 rw [e]
 refine qu mixm (α:=Nat) [5,47] (fun i=>i≤a.kids.length∧wT (a.kids.take i) (b.kids.take i) = true) (fun i=>[(5,vI i)]) (fun i=>[(4096,.arr 6 [cnT a] false),(4100,.arr 6 [cnT b] false)]) (fun i=>a.kids.length - i) 0 ⟨by omega,by simp [wT]⟩ ?_ fun i hi=>?_
 ·exact .oA [(4096,some 4096),(4100,some 4100)] []
 refine sD ?_
 refine ⟨fun h5=>?_,fun h5=>?_⟩
 ·have hi2:i < a.kids.length:=by omega
  have hib:i < b.kids.length:=by omega
  have hwi:=qh (i:=i) (by omega)
  simp only [tZ,↓un_u,simprocAttr,Int.toNat_natCast,qe hi2,qe hib,zX]
  refine ⟨by omega,by omega,?_⟩
  refine C1.im (ih _ (List.getElem_mem hi2) b.kids[i] fun _=>s2 _ (List.getElem_mem hi2)) (by rfl) (by rfl) ?_
  simp only [tZ,↓un_u,simprocAttr,Bool.not_eq_true',Bool.not_eq_false',hwi]
  refine ⟨by kernel_rfl,fun h6=>?_,fun h6=>?_⟩
  ·rw [qP1 hi2 hib h6]
   exact .oA [] []
  ·refine ⟨i + 1,⟨by omega,by rw [qF7 hi2 hib,hi.2,h6];rfl⟩,by omega,?_⟩
   exact .oA [(4096,some 4096),(4100,some 4100)] []
 ·have hil:i = a.kids.length:=by omega
  have h2:=hi.2
  rw [hil,List.take_length,hl,List.take_length] at h2
  rw [h2]
  exact .oA [] []
end Go.Proofs
