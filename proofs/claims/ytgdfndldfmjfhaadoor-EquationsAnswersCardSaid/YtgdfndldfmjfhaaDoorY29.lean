import Derived.Test.YtgdfndldfmjfhaaDoorW29
set_option linter.unusedSimpArgs false
set_option linter.unusedVariables false
namespace Go.Proofs
open Go Go.TL
set_option maxRecDepth 4000
theorem c_slices_Clone_int (l:List Int) (hl:l.length < 1000000000000):Spc Tryd.prog F_slices_Clone_int [vIs l] [] (vIs l) []:=by
 refine spec_of_ir fn_slices_Clone_int mixm (by simp) fun e _ hst=>W_start ?_
 unfold ir_slices_Clone_int
 refine sW ?_
 refine ⟨fun h=>?_,?_⟩
 ·have:l = []:=by simpa using h
  subst this
  refine .of [] [] rfl (by first | rfl | (rw [hst];rfl)) ?_ ?_
  all_goals (try exact clA)
 ·refine ⟨by omega,?_⟩
  refine .of [] [16384] rfl (by first | rfl | (rw [hst];rfl)) ?_ ?_
  all_goals (try exact clA)
theorem ints_beq (a b:List Int):sameL (fun x y:Int=>x == y) a b = (a == b):=by
 rw [Bool.eq_iff_iff,sameL_iff (by simp),beq_iff_eq]
def redA (count:Int) (l:List Eqn):List Eqn×Int:=if validB count l = false then ([],55) else match redF l [] with | none=>([],52) | some o=>(o,0)
theorem ascF_in {count:Int}:∀ {l:List Int} {b:Int},-1≤b→ascF count l b = true→∀ k∈l,0≤k∧k < count
 | [],_,_,_,k,h=>by simp at h
 | x :: l,b,hb,h,k,hk=>by
   simp only [ascF] at h
   split at h
   ·cases h
   ·rename_i h2
    rcases List.mem_cons.1 hk with rfl | hk
    ·omega
    ·exact ascF_in (by omega) h k hk
theorem valid_parts {count:Int} {l:List Eqn} (h:validB count l = true):1≤count∧count≤48∧l.length≤1152∧∀ x∈l,eqOk count x = true∧∀ k∈x.cells,0≤k∧k < count:=by
 simp only [validB,Bool.and_eq_true,decide_eq_true_eq,List.all_eq_true] at h
 refine ⟨h.1.1.1,h.1.1.2,h.1.2,fun x hx=>⟨h.2 x hx,?_⟩⟩
 have:=h.2 x hx
 simp only [eqOk,Bool.and_eq_true] at this
 exact ascF_in (by omega) this.2
end Go.Proofs
