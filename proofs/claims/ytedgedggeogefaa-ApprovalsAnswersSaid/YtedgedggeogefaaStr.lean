import Derived.Test.YtedgedggeogefaaBase
set_option linter.unusedSimpArgs false
set_option linter.unusedVariables false
namespace Go.Proofs
open Go Go.TL
theorem bl_irrefl:∀ a:List UInt8,Op.bytesLess a a = false
 | []=>rfl
 | x :: a=>by simp [Op.bytesLess,bl_irrefl a]
theorem bl_trans:∀ {a b c:List UInt8},Op.bytesLess a b = true→Op.bytesLess b c = true→Op.bytesLess a c = true
 | [],b,[],h1,h2=>by cases b <;> simp [Op.bytesLess] at h2
 | [],_,_ :: _,_,_=>rfl
 | _ :: _,[],_,h1,_=>by simp [Op.bytesLess] at h1
 | _ :: _,_ :: _,[],_,h2=>by simp [Op.bytesLess] at h2
 | x :: a,y :: b,z :: c,h1,h2=>by
   simp only [Op.bytesLess,Bool.or_eq_true,decide_eq_true_eq,Bool.and_eq_true,beq_iff_eq] at h1 h2 ⊢
   rcases h1 with h1 | ⟨rfl,h1⟩ <;> rcases h2 with h2 | ⟨rfl,h2⟩
   ·exact .inl (UInt8.lt_trans h1 h2)
   ·exact .inl h1
   ·exact .inl h2
   ·exact .inr ⟨rfl,bl_trans h1 h2⟩
theorem bl_tri:∀ {a b:List UInt8},Op.bytesLess a b = false→a≠b→Op.bytesLess b a = true
 | [],[],_,h=>absurd rfl h
 | [],_ :: _,h,_=>by simp [Op.bytesLess] at h
 | _ :: _,[],_,_=>rfl
 | x :: a,y :: b,h,hn=>by
   simp only [Op.bytesLess,Bool.or_eq_false_iff,decide_eq_false_iff_not,Bool.and_eq_false_iff,beq_eq_false_iff_ne,Bool.or_eq_true,decide_eq_true_eq,Bool.and_eq_true,beq_iff_eq] at h ⊢
   obtain ⟨h1,h2⟩:=h
   by_cases hxy:x = y
   ·subst hxy
    refine .inr ⟨rfl,bl_tri ?_ fun e=>hn (by rw [e])⟩
    rcases h2 with h2 | h2
    ·exact absurd rfl h2
    ·exact h2
   ·left
    rcases UInt8.lt_or_lt_of_ne hxy with h3 | h3
    ·exact absurd h3 h1
    ·exact h3
theorem bl_asym {a b:List UInt8} (h:Op.bytesLess a b = true):Op.bytesLess b a = false:=by
 cases h2:Op.bytesLess b a with
 | false=>rfl
 | true=>
   have:=bl_trans h h2
   rw [bl_irrefl] at this
   cases this
theorem imAL_two {x y:T} {l:List T} (hx:imA x = true) (hy:imA y = true) (h:imL l = true):imAL ([x,y] ++ l) = true:=by
 show (imA x && (imA y && imAL l)) = true
 rw [hx,hy,imAL_of h];rfl
end Go.Proofs
