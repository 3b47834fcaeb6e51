/- A part of the proof: ZzIns. -/
import Derived.Test.YthbdcffpkbmlaaaGreatDoorK10
namespace Go.TL.So
section
variable {α:Type} [Inhabited α] {lt eq:α→α→Bool}
def insU (lt eq:α→α→Bool) (l:List α) (v:α):List α:=if l.any (fun x=>eq x v)=true then l else insB lt l v
omit [Inhabited α] in
theorem ji4 (he:∀ x y,eq x y=true↔x=y) {l:List α} {v:α}:l.any (fun x=>eq x v)=true↔v∈l:=by
 rw[DJ];exact⟨fun ⟨x,h,e⟩=>(he _ _).1 e ▸ h,fun h=>⟨v,h,(he _ _).2 rfl⟩⟩
omit [Inhabited α] in
theorem jw3 (he:∀ x y,eq x y=true↔x=y) {l:List α} {v x:α}:x∈insU lt eq l v↔x=v∨x∈l:=by
 unfold insU;split
 ·rename_i h;exact⟨.inr,fun h2=>h2.elim (fun e=>e ▸ (ji4 he).1 h) _root_.id⟩
 ·exact zJ8
omit [Inhabited α] in
theorem jw4 (ho:SWOrd lt) (ht:∀ x y,lt x y=false→lt y x=false→x=y) (htr:∀ x y z,lt x y=true→lt y z=true→lt x z=true) (he:∀ x y,eq x y=true↔x=y)
 {l:List α} {v:α} (h:l.Pairwise (fun x y=>lt x y=true)):(insU lt eq l v).Pairwise (fun x y=>lt x y=true):=by
 unfold insU;split
 ·exact h
 ·rename_i h2;exact zJ9 ho ht htr h fun h3=>h2 ((ji4 he).2 h3)
omit [Inhabited α] in
theorem ji5 (ho:SWOrd lt) (ht:∀ x y,lt x y=false→lt y x=false→x=y) (htr:∀ x y z,lt x y=true→lt y z=true→lt x z=true) (he:∀ x y,eq x y=true↔x=y) :
 ∀ (ks:List α) {l:List α},l.Pairwise (fun x y=>lt x y=true)→(ks.foldl (insU lt eq) l).Pairwise (fun x y=>lt x y=true)∧∀ x,x∈ks.foldl (insU lt eq) l↔x∈ks∨x∈l
 | [],l,h=>⟨h,fun x=>by simp⟩
 | k::ks,l,h=>by
   obtain⟨h1,h2⟩:=ji5 ho ht htr he ks (jw4 ho ht htr he (v:=k) h);refine⟨h1,fun x=>?_⟩;rw[Dw,h2,jw3 he,Ck];constructor
   ·rintro (a | a | a)
    ·exact .inl (.inr a)
    ·exact .inl (.inl a)
    ·exact .inr a
   ·rintro ((a | a) | a)
    ·exact .inr (.inl a)
    ·exact .inl a
    ·exact .inr (.inr a)
omit [Inhabited α] in
theorem jw5 {l:List α} {v:α}:(insU lt eq l v).length≤l.length+1:=by
 unfold insU;split
 ·omega
 ·unfold insB;rw[AW,CJ,Cz,List.length_drop];omega
omit [Inhabited α] in
theorem ji6:∀ (ks:List α) {l:List α},(ks.foldl (insU lt eq) l).length≤l.length+ks.length
 | [],l=>by simp
 | k::ks,l=>by
   have h1:=ji6 ks (l:=insU lt eq l k);have h2:=jw5 (lt:=lt) (eq:=eq) (l:=l) (v:=k);rw[Dw,CJ];omega
end
end Go.TL.So
