import Derived.Test.YtgdfndldfmjfhaaDoorC29
set_option linter.unusedSimpArgs false
set_option linter.unusedVariables false
namespace Go.Proofs
open Go Go.TL
structure Rls where
 num:Int
 gs:List (List Int)
 vals:List Int
structure Eqn where
 cells:List Int
 val:Int
instance:Inhabited Rls:=⟨⟨0,[],[]⟩⟩
instance:Inhabited Eqn:=⟨⟨[],0⟩⟩
def valOk (n:Int):Bool:=(n == -1) || okV n
def rlsE (sz:List Int) (r:Rls) (before:Int):Int:=
 if r.num≤before∨r.num≥24 then 48 else if viewE sz r.gs≠0 then viewE sz r.gs else if (r.vals.length:Int)≠pubN r.gs then 17 else if r.vals.all valOk = false then 2 else 0
def rlsF (sz:List Int):List Rls→Int→Int
 | [],_=>0
 | r :: l,b=>if rlsE sz r b≠0 then rlsE sz r b else rlsF sz l r.num
def rlsC (sz:List Int) (l:List Rls):Int:=if chkS sz≠0 then chkS sz else if l.length > 24 then 1 else rlsF sz l (-1)
def tellF (sz:List Int) (gs:List (List Int)):List Int→Nat→List Eqn
 | [],_=>[]
 | n :: r,k=>if n = -1 then tellF sz gs r (k + 1) else ⟨membL sz gs k,n⟩ :: tellF sz gs r (k + 1)
def tell (sz:List Int) (r:Rls):List Eqn:=tellF sz r.gs r.vals 0
def tells (sz:List Int) (l:List Rls):List Eqn:=l.flatMap (tell sz)
def allA (sz:List Int) (l:List Rls):List Eqn×Int:=if rlsC sz l≠0 then ([],rlsC sz l) else (tells sz l,0)
theorem tellF_append (sz:List Int) (gs:List (List Int)):∀ (a b:List Int) (k:Nat),tellF sz gs (a ++ b) k = tellF sz gs a k ++ tellF sz gs b (k + a.length)
 | [],b,k=>by simp [tellF]
 | n :: r,b,k=>by
   simp only [List.cons_append,tellF,List.length_cons]
   have ih:=tellF_append sz gs r b (k + 1)
   rw [show k + 1 + r.length = k + (r.length + 1) by omega] at ih
   split
   ·exact ih
   ·rw [ih,List.cons_append]
theorem tell_snoc {sz:List Int} {gs:List (List Int)} {vs:List Int} {i:Nat} (h:i < vs.length):tellF sz gs (vs.take (i + 1)) 0 = tellF sz gs (vs.take i) 0 ++ (if vs[i] = -1 then [] else [⟨membL sz gs i,vs[i]⟩]):=by
 rw [take_snoc h,tellF_append]
 congr 1
 have:(vs.take i).length = i:=by simp;omega
 simp only [tellF,this,Nat.zero_add]
theorem tells_snoc {sz:List Int} {l:List Rls} {i:Nat} (h:i < l.length):tells sz (l.take (i + 1)) = tells sz (l.take i) ++ tell sz l[i]:=by
 unfold tells
 rw [take_snoc h,List.flatMap_append]
 simp
theorem tellF_len (sz:List Int) (gs:List (List Int)):∀ (vs:List Int) (k:Nat),(tellF sz gs vs k).length≤vs.length
 | [],_=>by simp [tellF]
 | n :: r,k=>by
   have:=tellF_len sz gs r (k + 1)
   simp only [tellF]
   split <;> simp <;> omega
structure RlOk (sz:List Int) (r:Rls) (b:Int):Prop where
 num:b < r.num∧r.num < 24
 vw:VwOk sz r.gs
 len:(r.vals.length:Int) = pubN r.gs
 vals:r.vals.all valOk = true
theorem rlsE_ok {sz:List Int} {r:Rls} {b:Int}:rlsE sz r b = 0↔RlOk sz r b:=by
 unfold rlsE
 constructor
 ·intro h
  split at h
  ·cases h
  ·split at h
   ·rename_i h1 h2;exact absurd h h2
   ·split at h
    ·cases h
    ·split at h
     ·cases h
     ·rename_i h1 h2 h3 h4
      exact ⟨by omega,viewE_ok.1 (Classical.byContradiction h2),Classical.byContradiction h3,by simpa using h4⟩
 ·rintro ⟨h1,h2,h3,h4⟩
  rw [if_neg (by omega),if_neg (fun h=>h (viewE_ok.2 h2)),if_neg (fun h=>h h3),if_neg (by rw [h4];simp)]
theorem rlsF_snoc {sz:List Int}:∀ {l:List Rls} {b:Int} {i:Nat} (h:i < l.length),rlsF sz (l.take i) b = 0→rlsF sz (l.take (i + 1)) b = rlsE sz l[i] (if i = 0 then b else (l.getD (i - 1) default).num)
 | [],_,i,h,_=>by simp at h
 | r :: l,b,0,h,_=>by
   simp only [List.take_succ_cons,List.take_zero,rlsF,List.getElem_cons_zero]
   split
   ·rfl
   ·rename_i hh
    simp only [if_true]
    exact (Classical.byContradiction hh:rlsE sz r b = 0).symm
 | r :: l,b,i + 1,h,h0=>by
   simp only [List.take_succ_cons,rlsF] at h0 ⊢
   split at h0
   ·rename_i hh;exact absurd h0 hh
   ·rename_i hh
    rw [if_neg hh,rlsF_snoc (by simpa using h) h0]
    simp only [List.getElem_cons_succ]
    congr 1
    cases i with
    | zero=>simp
    | succ i=>simp
theorem rlsF_stays {sz:List Int}:∀ {l:List Rls} {b:Int} {i:Nat},rlsF sz (l.take i) b≠0→rlsF sz l b = rlsF sz (l.take i) b
 | [],b,i,h=>by simp
 | r :: l,b,0,h=>by simp [rlsF] at h
 | r :: l,b,i + 1,h=>by
   simp only [List.take_succ_cons,rlsF] at h ⊢
   split
   ·rfl
   ·rename_i hh
    rw [if_neg hh] at h
    exact rlsF_stays h
theorem rlsF_mem {sz:List Int}:∀ {l:List Rls} {b:Int},rlsF sz l b = 0→-1≤b→∀ r∈l,RlOk sz r (-1)
 | [],_,_,_,r,h=>by simp at h
 | x :: l,b,h,hb,r,hr=>by
   simp only [rlsF] at h
   split at h
   ·rename_i hh;exact absurd h hh
   ·rename_i hh
    have hx:RlOk sz x b:=rlsE_ok.1 (Classical.byContradiction hh)
    rcases List.mem_cons.1 hr with rfl | hr
    ·exact ⟨by have:=hx.num;omega,hx.vw,hx.len,hx.vals⟩
    ·exact rlsF_mem h (by have:=hx.num;omega) r hr
theorem rlsC_mem {sz:List Int} {l:List Rls} (h:rlsC sz l = 0):SpOk sz∧l.length≤24∧∀ r∈l,RlOk sz r (-1):=by
 unfold rlsC at h
 split at h
 ·rename_i hh;exact absurd h hh
 ·split at h
  ·cases h
  ·rename_i h1 h2
   exact ⟨chkS_ok.1 (Classical.byContradiction h1),by omega,rlsF_mem h (by omega)⟩
def ascF (count:Int):List Int→Int→Bool
 | [],_=>true
 | k :: r,b=>if k≤b∨k≥count then false else ascF count r k
def eqOk (count:Int) (x:Eqn):Bool:=!(x.cells.isEmpty) && okV x.val && ascF count x.cells (-1)
def validB (count:Int) (l:List Eqn):Bool:=decide (1≤count) && decide (count≤48) && decide (l.length≤1152) && l.all (eqOk count)
def agr1 (t:List Int) (x:Eqn):Bool:=(x.cells.all fun k=>decide (0≤k) && decide (k < t.length)) && (sumT t x.cells == x.val)
def agrees (l:List Eqn) (t:List Int):Bool:=t.all okV && l.all (agr1 t)
theorem asc_of {count:Int}:∀ {l:List Int} {b:Int},l.Pairwise (· < ·)→(∀ x∈l,b < x∧x < count)→ascF count l b = true
 | [],_,_,_=>rfl
 | k :: r,b,h,hx=>by
   obtain ⟨h1,h2⟩:=List.pairwise_cons.1 h
   have hk:=hx k (by simp)
   simp only [ascF]
   rw [if_neg (by omega)]
   exact asc_of h2 fun x hm=>⟨h1 x hm,(hx x (List.mem_cons_of_mem _ hm)).2⟩
theorem tell_ok {sz:List Int} {r:Rls} {b:Int} (h:RlOk sz r b):∀ x∈tell sz r,eqOk (prodI sz) x = true:=by
 have key:∀ (vs:List Int) (k:Nat),(k:Int) + vs.length≤pubN r.gs→vs.all valOk = true→∀ x∈tellF sz r.gs vs k,eqOk (prodI sz) x = true:=by
  intro vs
  induction vs with
  | nil=>intro k _ _ x hx;simp [tellF] at hx
  | cons n vs ih=>
    intro k hk hv x hx
    simp only [List.all_cons,Bool.and_eq_true] at hv
    simp only [List.length_cons] at hk
    have ih':=ih (k + 1) (by omega) hv.2
    simp only [tellF] at hx
    split at hx
    ·exact ih' x hx
    ·rename_i hn
     rcases List.mem_cons.1 hx with rfl | hx
     ·have hok:okV n = true:=by
       have:=hv.1
       simp only [valOk,Bool.or_eq_true,beq_iff_eq] at this
       rcases this with h1 | h1
       ·exact absurd h1 hn
       ·exact h1
      have hne:=memb_some h.vw (k:=k) (by omega) (by omega)
      have hasc:ascF (prodI sz) (membL sz r.gs k) (-1) = true:=asc_of (memb_asc _ _ _) fun x hx=>by
       have:=(memb_mem h.vw.sp).1 hx
       omega
      simp only [eqOk,hok,hasc,Bool.and_true]
      cases hm:membL sz r.gs k with
      | nil=>exact absurd hm hne
      | cons _ _=>rfl
     ·exact ih' x hx
 exact key r.vals 0 (by have:=h.len;omega) h.vals
def pubV (sz:List Int) (gs:List (List Int)) (t:List Int) (k:Int):Int:=sumT t (membL sz gs k)
def sameP (sz:List Int) (gs:List (List Int)) (t:List Int):List Int→Nat→Bool
 | [],_=>true
 | n :: r,k=>((n == -1) || (pubV sz gs t k == n)) && sameP sz gs t r (k + 1)
theorem agree_tell {sz:List Int} {gs:List (List Int)} {t:List Int} (h:SpOk sz) (ht:(t.length:Int) = prodI sz):∀ (vs:List Int) (k:Nat),(tellF sz gs vs k).all (agr1 t) = sameP sz gs t vs k
 | [],_=>rfl
 | n :: r,k=>by
   have ih:=agree_tell (gs:=gs) h ht r (k + 1)
   have h1:((membL sz gs k).all fun k=>decide (0≤k) && decide (k < (t.length:Int))) = true:=by
    rw [List.all_eq_true]
    intro c hc
    have:=((memb_mem h).1 hc).1
    simp only [Bool.and_eq_true,decide_eq_true_eq]
    omega
   by_cases hn:n = -1
   ·simp only [tellF,hn,if_true,ih,sameP,beq_self_eq_true,Bool.true_or,Bool.true_and]
   ·have hb:(n == -1) = false:=by simpa using hn
    simp only [tellF,hn,if_false,List.all_cons,ih,sameP,hb,Bool.false_or]
    rw [show agr1 t ⟨membL sz gs k,n⟩ = (pubV sz gs t k == n) by unfold agr1 pubV;simp only [h1,Bool.true_and]]
end Go.Proofs
