/- A part of the proof: ZzSrt. -/
import Derived.Test.YthbdcffpkbmlaaaGreatDoorK9
namespace Go.TL.So
section
variable {α:Type} [Inhabited α]
abbrev gd (xs:List α) (i:Nat):α:=xs.getD i default
def swp (xs:List α) (i j:Nat):List α:=(xs.set i (gd xs j)).set j (gd xs i)
theorem jH1 {xs:List α} {i:Nat} (h:i<xs.length) (v:α) (k:Nat):gd (xs.set i v) k=if k=i then v else gd xs k:=by
 simp only[gd,CY,List.getElem?_set];by_cases e:i=k
 ·subst e;simp [h]
 ·rw[Aq e,Aq (fun h=>e h.symm)]
theorem jL8 (xs:List α) (i j:Nat):(swp xs i j).length=xs.length:=by simp [swp]
theorem jT7 {xs:List α} {i j:Nat} (hi:i<xs.length) (hj:j<xs.length) (k:Nat):gd (swp xs i j) k=if k=j then gd xs i else if k=i then gd xs j else gd xs k:=by
 unfold swp;rw[jH1 (by simpa using hj),jH1 hi]
inductive Sw (a b:Nat):List α→List α→Prop
 | refl (xs:List α):Sw a b xs xs
 | step {xs ys:List α} {i j:Nat} (h:Sw a b xs ys) (hi:a≤i∧i<b) (hj:a≤j∧j<b) (hl:b≤ys.length):Sw a b xs (swp ys i j)
variable {a b:Nat} {xs ys zs:List α}
theorem Sw.trans (h1:Sw a b xs ys) (h2:Sw a b ys zs):Sw a b xs zs:=by
 induction h2 with
 | refl=>exact h1
 | step _ hi hj hl ih=>exact .step ih hi hj hl
theorem Sw.one {i j:Nat} (hi:a≤i∧i<b) (hj:a≤j∧j<b) (hl:b≤xs.length):Sw a b xs (swp xs i j):=.step (.refl xs) hi hj hl
theorem Sw.len (h:Sw a b xs ys):ys.length=xs.length:=by
 induction h with
 | refl=>rfl
 | step _ _ _ _ ih=>rw[jL8,ih]
theorem Sw.mono {c d:Nat} (h:Sw a b xs ys) (h1:c≤a) (h2:b≤d) (h3:d≤xs.length):Sw c d xs ys:=by
 induction h with
 | refl=>exact .refl _
 | step h hi hj hl ih=>exact .step ih ⟨oM,oM⟩ ⟨oM,oM⟩ (by rw[h.len];exact h3)
theorem Sw.all (h:Sw a b xs ys) (p:α→Prop) (hp:∀ k,a≤k→k<b→p (gd xs k)):∀ k,a≤k→k<b→p (gd ys k):=by
 induction h with
 | refl=>exact hp
 | step _ hi hj hl ih=>
   intro k h1 h2;rw[jT7 oM oM];split
   ·exact ih _ hi.1 hi.2
   ·split
    ·exact ih _ hj.1 hj.2
    ·exact ih k h1 h2
end
structure SWOrd {α:Type} (lt:α→α→Bool):Prop where
 asym:∀ x y,lt x y=true→lt y x=false
 trans:∀ x y z,lt y x=false→lt z y=false→lt z x=false
section
variable {α:Type} [Inhabited α] (lt:α→α→Bool)
abbrev lew (x y:α):Prop:=lt y x=false
omit [Inhabited α] in
theorem SWOrd.refl {lt:α→α→Bool} (h:SWOrd lt) (x:α):lew lt x x:=by
 show lt x x=false;cases e:lt x x with
 | false=>rfl
 | true=>have:=h.asym x x e;rw[e] at this;cases this
def kid (xs:List α) (first hi r:Nat):Nat:=if 2*r+2<hi∧lt (gd xs (first+(2*r+1))) (gd xs (first+(2*r+2)))=true then 2*r+2 else 2*r+1
def sift (first hi:Nat):Nat→Nat→List α→List α
 | 0,_,xs=>xs
 | f+1,r,xs=>if hi≤2*r+1 then xs else if lt (gd xs (first+r)) (gd xs (first+kid lt xs first hi r))=false then xs else sift first hi f (kid lt xs first hi r) (swp xs (first+r) (first+kid lt xs first hi r))
def hB (first hi:Nat):Nat→List α→List α
 | 0,xs=>xs
 | k+1,xs=>hB first hi k (sift lt first hi (hi+1) k xs)
def hS (first:Nat):Nat→List α→List α
 | 0,xs=>xs
 | i+1,xs=>hS first i (sift lt first i (i+1) 0 (swp xs first (first+i)))
def up (p:α→Bool) (j:Nat) (xs:List α):Nat→Nat→Nat
 | 0,i=>i
 | f+1,i=>if i≤j∧p (gd xs i)=true then up p j xs f (i+1) else i
def rvs:Nat→Nat→Nat→List α→List α
 | 0,_,_,xs=>xs
 | f+1,i,j,xs=>if i<j then rvs f (i+1) (j-1) (swp xs i j) else xs
def shR (b:Nat):Nat→Nat→List α→List α
 | 0,_,xs=>xs
 | f+1,j,xs=>if j<b∧lt (gd xs j) (gd xs (j-1))=true then shR b f (j+1) (swp xs j (j-1)) else xs
def Pre (xs:List α) (a b:Nat):Prop:=∀ k,0<a→a≤k→k<b→lew lt (gd xs (a-1)) (gd xs k)
end
theorem up_step {α:Type} [Inhabited α] {p:α→Bool} {j i:Nat} {xs:List α} (h:i≤j) (hp:p (gd xs i)=true):up p j xs (j+1-i) i=up p j xs (j+1-(i+1)) (i+1):=by
 rw[show j+1-i=(j+1-(i+1))+1 by omega,up,Aj ⟨h,hp⟩]
section
variable {α:Type} [Inhabited α] {lt:α→α→Bool}
end
section
variable {α:Type} [Inhabited α]
omit [Inhabited α] in
theorem jw2 {lt:α→α→Bool} (ho:SWOrd lt):∀ {a b:List α},a.Pairwise (fun x y=>lt x y=true)→b.Pairwise (fun x y=>lt x y=true)→(∀ x,x∈a↔x∈b)→a=b
 | [],[],_,_,_=>rfl
 | [],y::b,_,_,h=>by have:=(h y).2 List.mem_cons_self;cases this
 | x::a,[],_,_,h=>by have:=(h x).1 List.mem_cons_self;cases this
 | x::a,y::b,h1,h2,h=>by
   rw[List.pairwise_cons] at h1 h2;have hxy:x=y:=by
    rcases Ck.1 ((h x).1 List.mem_cons_self) with e | e
    ·exact e
    ·rcases Ck.1 ((h y).2 List.mem_cons_self) with e2 | e2
     ·exact e2.symm
     ·have h3:=h2.1 x e;have h4:=h1.1 y e2;rw[ho.asym _ _ h3] at h4;cases h4
   subst hxy;have ir:∀ v,lt v v=false:=ho.refl;rw[jw2 ho h1.2 h2.2 fun v=>⟨fun hv=>?_,fun hv=>?_⟩]
   ·rcases Ck.1 ((h v).1 (CQ _ hv)) with e | e
    ·have:=h1.1 v hv;rw[e,ir] at this;cases this
    ·exact e
   ·rcases Ck.1 ((h v).2 (CQ _ hv)) with e | e
    ·have:=h2.1 v hv;rw[e,ir] at this;cases this
    ·exact e
def insB (lt:α→α→Bool) (l:List α) (v:α):List α:=l.take (l.findIdx fun y=>!lt y v)++v::l.drop (l.findIdx fun y=>!lt y v)
omit [Inhabited α] in
theorem zJ8 {lt:α→α→Bool} {l:List α} {v x:α}:x∈insB lt l v↔x=v∨x∈l:=by
 unfold insB;rw[Dz,Ck]
 conv=>rhs;rw[← List.take_append_drop (l.findIdx fun y=>!lt y v) l,Dz]
 constructor
 ·rintro (h | h | h)
  ·exact .inr (.inl h)
  ·exact .inl h
  ·exact .inr (.inr h)
 ·rintro (h | h | h)
  ·exact .inr (.inl h)
  ·exact .inl h
  ·exact .inr (.inr h)
omit [Inhabited α] in
theorem ji3 {lt:α→α→Bool} {l:List α} {v y:α}:insB lt (y::l) v=if lt y v=true then y::insB lt l v else v::y::l:=by
 unfold insB;rw[List.findIdx_cons];cases h:lt y v <;> simp
omit [Inhabited α] in
theorem zJ9 {lt:α→α→Bool} (ho:SWOrd lt) (ht:∀ x y,lt x y=false→lt y x=false→x=y) (htr:∀ x y z,lt x y=true→lt y z=true→lt x z=true) {v:α}:∀ {l:List α},l.Pairwise (fun x y=>lt x y=true)→v∉l→(insB lt l v).Pairwise (fun x y=>lt x y=true)
 | [],_,_=>List.pairwise_singleton _ _
 | y::l,h,hv=>by
   rw[ji3];rw[List.pairwise_cons] at h;split
   ·rename_i c;rw[List.pairwise_cons];refine⟨fun x hx=>?_,zJ9 ho ht htr h.2 fun e=>hv (CQ _ e)⟩;rcases zJ8.1 hx with e | e
    ·rw[e];exact c
    ·exact h.1 x e
   ·rename_i c;have c:lt y v=false:=by simpa using c
    have hvy:lt v y=true:=by
     cases e:lt v y with
     | true=>rfl
     | false=>exact absurd (ht _ _ e c) fun e=>hv (by rw[e];exact List.mem_cons_self)
    rw[List.pairwise_cons,List.pairwise_cons];refine⟨fun x hx=>?_,h⟩;rcases Ck.1 hx with e | e
    ·rw[e];exact hvy
    ·exact htr _ _ _ hvy (h.1 x e)
end
end Go.TL.So
