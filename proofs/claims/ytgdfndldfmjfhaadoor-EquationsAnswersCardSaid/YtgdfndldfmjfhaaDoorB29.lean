import Derived.Test.YtgdfndldfmjfhaaDoorA29
set_option linter.unusedSimpArgs false
set_option linter.unusedVariables false
namespace Go.Proofs
open Go Go.TL
def gStep (n g:Int):Int:=maxI n (g + 1)
def gN (l:List Int):Int:=l.foldl gStep 0
def nbStep (o:Option Int) (g:Int):Option Int:=match o with | some n=>if g < -1∨g > n then none else some (if g = n then n + 1 else n) | none=>none
def nbF (l:List Int):Option Int:=l.foldl nbStep (some 0)
theorem g_snoc {l:List Int} {i:Nat} (h:i < l.length):gN (l.take (i + 1)) = maxI (gN (l.take i)) (l[i] + 1):=by
 unfold gN
 rw [take_snoc h,List.foldl_append]
 rfl
theorem nb_snoc {l:List Int} {i:Nat} (h:i < l.length):nbF (l.take (i + 1)) = nbStep (nbF (l.take i)) l[i]:=by
 unfold nbF
 rw [take_snoc h,List.foldl_append]
 rfl
theorem nb_none:∀ l:List Int,l.foldl nbStep none = none
 | []=>rfl
 | x :: r=>nb_none r
theorem nb_stays {l:List Int} {i:Nat} (h:nbF (l.take i) = none):nbF l = none:=by
 have e:nbF l = (l.drop i).foldl nbStep (nbF (l.take i)):=by
  unfold nbF
  rw [← List.foldl_append,List.take_append_drop]
 rw [e,h,nb_none]
structure NbOk (l:List Int) (n:Int):Prop where
 pos:0≤n∧n≤l.length
 g:gN l = n
 all:∀ x∈l,-1≤x∧x < n
 has:∀ j:Int,0≤j→j < n→j∈l
theorem nb_ok {l:List Int}:∀ {i:Nat},i≤l.length→∀ {n:Int},nbF (l.take i) = some n→NbOk (l.take i) n
 | 0,_,n,h=>by
   simp [nbF] at h
   subst h
   exact ⟨by simp,by simp [gN],by simp,by omega⟩
 | i + 1,hi,n,h=>by
   have hlt:i < l.length:=by omega
   rw [nb_snoc hlt] at h
   cases hp:nbF (l.take i) with
   | none=>rw [hp] at h;cases h
   | some m=>
     rw [hp] at h
     have ih:=nb_ok (by omega) hp
     simp only [nbStep] at h
     split at h
     ·cases h
     ·rename_i hc
      injection h with h
      have hl:(l.take (i + 1)).length = (l.take i).length + 1:=by simp;omega
      rw [take_snoc hlt]
      have hpos:=ih.pos
      refine ⟨?_,?_,?_,?_⟩
      ·rw [List.length_append,List.length_cons,List.length_nil]
       subst h
       split <;> omega
      ·rw [← take_snoc hlt,g_snoc hlt,ih.g]
       unfold maxI
       subst h
       split <;> split <;> omega
      ·intro x hx
       rcases List.mem_append.1 hx with hx | hx
       ·have:=ih.all x hx
        subst h
        split <;> omega
       ·simp only [List.mem_cons,List.not_mem_nil,or_false] at hx
        subst hx h
        split <;> omega
      ·intro j h0 hj
       rw [List.mem_append]
       by_cases hjm:j < m
       ·exact .inl (ih.has j h0 hjm)
       ·right
        subst h
        split at hj
        ·rename_i he
         rw [he,show j = m by omega]
         simp
        ·omega
theorem nb_all {l:List Int} {n:Int} (h:nbF l = some n):NbOk l n:=by
 have:=nb_ok (l:=l) (Nat.le_refl _) (n:=n) (by rw [List.take_length];exact h)
 rwa [List.take_length] at this
def okG (k:Int) (g:List Int):Bool:=((g.length:Int) == k) && (match nbF g with | some n=>decide (n > 0) | none=>false)
def okGs:List Int→List (List Int)→Bool
 | k :: r,g :: s=>okG k g && okGs r s
 | _,_=>true
def viewE (sz:List Int) (gs:List (List Int)):Int:=if chkS sz≠0 then chkS sz else if gs.length≠sz.length then 55 else if okGs sz gs = true then 0 else 55
structure VwOk (sz:List Int) (gs:List (List Int)):Prop where
 sp:SpOk sz
 len:gs.length = sz.length
 ok:okGs sz gs = true
theorem viewE_ok {sz:List Int} {gs:List (List Int)}:viewE sz gs = 0↔VwOk sz gs:=by
 unfold viewE
 constructor
 ·intro h
  split at h
  ·rename_i h1;exact absurd h h1
  ·split at h
   ·cases h
   ·split at h
    ·rename_i h1 h2 h3
     exact ⟨chkS_ok.1 (Classical.byContradiction h1),Classical.byContradiction h2,h3⟩
    ·cases h
 ·rintro ⟨h1,h2,h3⟩
  rw [if_neg (fun h=>h (chkS_ok.2 h1)),if_neg (fun h=>h h2),if_pos h3]
theorem okGs_append:∀ {a c:List Int} {b d:List (List Int)},a.length = b.length→okGs (a ++ c) (b ++ d) = (okGs a b && okGs c d)
 | [],c,[],d,_=>by simp [okGs]
 | [],_,_ :: _,_,h=>by simp at h
 | _ :: _,_,[],_,h=>by simp at h
 | k :: a,c,g :: b,d,h=>by
   simp only [List.cons_append,okGs]
   rw [okGs_append (by simpa using h),Bool.and_assoc]
theorem okGs_snoc {sz:List Int} {gs:List (List Int)} {i:Nat} (h:i < sz.length) (h2:i < gs.length):okGs (sz.take (i + 1)) (gs.take (i + 1)) = (okGs (sz.take i) (gs.take i) && okG sz[i] gs[i]):=by
 rw [take_snoc h,take_snoc h2,okGs_append (by simp;omega)]
 simp [okGs]
theorem okGs_false {sz:List Int} {gs:List (List Int)} {i:Nat} (hl:gs.length = sz.length) (h:i < sz.length) (hf:okG sz[i] (gs[i]'(by omega)) = false):okGs sz gs = false:=by
 have e:okGs sz gs = okGs (sz.take (i + 1) ++ sz.drop (i + 1)) (gs.take (i + 1) ++ gs.drop (i + 1)):=by rw [List.take_append_drop,List.take_append_drop]
 rw [e,okGs_append (by simp;omega),okGs_snoc h (by omega),hf]
 simp
theorem okGs_get:∀ {sz:List Int} {gs:List (List Int)},okGs sz gs = true→∀ {i:Nat} (h:i < sz.length) (h2:i < gs.length),okG sz[i] gs[i] = true
 | [],_,_,i,h,_=>by simp at h
 | _ :: _,[],_,i,_,h=>by simp at h
 | k :: r,g :: s,h,i,h1,h2=>by
   simp only [okGs,Bool.and_eq_true] at h
   cases i with
   | zero=>exact h.1
   | succ i=>exact okGs_get h.2 (i:=i) (by simpa using h1) (by simpa using h2)
theorem okG_nb {k:Int} {g:List Int} (h:okG k g = true):(g.length:Int) = k∧∃ n,nbF g = some n∧0 < n∧NbOk g n:=by
 unfold okG at h
 simp only [Bool.and_eq_true,beq_iff_eq] at h
 refine ⟨h.1,?_⟩
 cases hn:nbF g with
 | none=>rw [hn] at h;simp at h
 | some n=>
   rw [hn] at h
   exact ⟨n,rfl,by simpa using h.2,nb_all hn⟩
theorem VwOk.get {sz:List Int} {gs:List (List Int)} (h:VwOk sz gs) {i:Nat} (hi:i < sz.length):((gs[i]'(by rw [h.len];exact hi)).length:Int) = sz[i]∧0 < gN (gs[i]'(by rw [h.len];exact hi))∧NbOk (gs[i]'(by rw [h.len];exact hi)) (gN (gs[i]'(by rw [h.len];exact hi))):=by
 obtain ⟨h1,n,_,h2,h3⟩:=okG_nb (okGs_get h.ok hi (by rw [h.len];exact hi))
 rw [h3.g]
 exact ⟨h1,h2,h3⟩
def gAt (gs:List (List Int)) (at_:List Int):List Int:=List.zipWith (fun g (a:Int)=>g.getD a.toNat 0) gs at_
def ofS (sz:List Int) (gs:List (List Int)) (c:Int):Int:=if (gAt gs (placesL sz c)).any (fun g=>decide (g < 0)) = true then -1 else numL (gs.map gN) (gAt gs (placesL sz c))
def pubN (gs:List (List Int)):Int:=prodI (gs.map gN)
def published (sz:List Int) (gs:List (List Int)):Int:=if viewE sz gs = 0 then pubN gs else 0
def cellsL (n:Nat):List Int:=(List.range n).map fun c=>((c:Nat):Int)
def membL (sz:List Int) (gs:List (List Int)) (k:Int):List Int:=(cellsL (prodI sz).toNat).filter fun c=>ofS sz gs c == k
def membA (sz:List Int) (gs:List (List Int)) (k:Int):List Int×Int:=
 if viewE sz gs≠0 then ([],viewE sz gs) else if k < 0∨k≥pubN gs then ([],2) else (membL sz gs k,0)
end Go.Proofs
