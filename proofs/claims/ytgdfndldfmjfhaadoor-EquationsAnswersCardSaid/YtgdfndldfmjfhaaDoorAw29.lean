import Derived.Test.YtgdfndldfmjfhaaDoorO29
set_option linter.unusedSimpArgs false
set_option linter.unusedVariables false
namespace Go.Proofs
open Go Go.TL
def awR:Rls:=⟨0,[[0,1],[0,0]],[3,-1]⟩
def awQ:List Eqn:=[⟨[0,1],3⟩]
theorem aw_all:allA [2,2] [awR] = (awQ,0):=by
 have h1:rlsC [2,2] [awR] = 0:=by kernel_rfl
 have h2:tells [2,2] [awR] = awQ:=by kernel_rfl
 rw [allA,if_neg (fun e=>e h1),h2]
theorem aw_yes:agrees awQ [1,2,0,0] = true:=by kernel_rfl
theorem aw_no:agrees awQ [1,1,0,0] = false:=by kernel_rfl
theorem awR_sm:RlsSm awR:=⟨by decide,by decide,by decide⟩
theorem c_law29_awake:Spc Tryd.prog F_law29_awake [] [] (vB true) []:=by
 have hOf:=c_equations_Of [2,2] awR (by decide) awR_sm
 rw [aw_all] at hOf
 have hS:=c_ref29_Same awQ (by decide) (by decide)
 have hY:=c_equations_Agrees awQ [1,2,0,0] (by decide) (by decide) (by decide)
 have hN:=c_equations_Agrees awQ [1,1,0,0] (by decide) (by decide) (by decide)
 rw [aw_yes] at hY
 rw [aw_no] at hN
 refine spec_of_ir fn_law29_awake mixm (by simp) fun e _ hst=>W_start ?_
 unfold ir_law29_awake
 refine sW ?_
 refine C1.shutD [8192,12288,12292,12296,12304] hOf ?_ (by rfl) rfl ?_
 ·simp [ptw,ltAD,ltD,TL.get,T.cells,imT,imL,awR]
  all_goals (try (repeat' apply And.intro))
  all_goals (try rfl)
 refine sW ?_
 refine C2.lendD [20504,20496] (fun _=>hS) (fun _=>?_) (by rfl) (by rfl) ?_
 ·simp [ptw,ltAD,ltD,TL.get,T.cells,imT,imL,awQ]
  all_goals (try (repeat' apply And.intro))
  all_goals (try rfl)
 refine sW ?_
 refine C2.lendD [20524] (fun _=>hY) (fun _=>?_) (by rfl) (by rfl) ?_
 ·simp [ptw,ltAD,ltD,TL.get,T.cells,imT,imL,awQ]
  all_goals (try (repeat' apply And.intro))
  all_goals (try rfl)
 refine sW ?_
 refine C2.lendD [20544] (fun _=>hN) (fun _=>?_) (by rfl) (by rfl) ?_
 ·simp [ptw,ltAD,ltD,TL.get,T.cells,imT,imL,awQ]
  all_goals (try (repeat' apply And.intro))
  all_goals (try rfl)
 refine sW ?_
 refine .of [] [] rfl (by first | rfl | (rw [hst];rfl)) ?_ ?_
 all_goals (try exact clA)
theorem len400 (l:List UInt8):(l.take 400).length≤400:=by rw [List.length_take];omega
theorem rls_sm {sz:List Int} {l:List Rls} (h:rlsC sz l = 0):∀ r∈l,RlsSm r:=fun r hr=>by
 obtain ⟨h1,h2,h3⟩:=rlsC_mem h
 have h4:=h3 r hr
 have h5:=h4.vw.len
 have h6:=h1.len
 have h7:=h4.vw.pub
 have h8:=h4.len
 refine ⟨by omega,fun g hg=>?_,by omega⟩
 obtain ⟨i,hi,rfl⟩:=List.getElem_of_mem hg
 have:=(h4.vw.g hi).len
 omega
theorem rls_one {sz:List Int} {l:List Rls} (h:rlsC sz l = 0) {r:Rls} (hr:r∈l):rlsC sz [r] = 0:=by
 obtain ⟨h1,h2,h3⟩:=rlsC_mem h
 have h4:=h3 r hr
 unfold rlsC
 rw [if_neg (fun e=>e (chkS_ok.2 h1)),if_neg (by simp)]
 simp only [rlsF]
 rw [if_neg (fun e=>e (rlsE_ok.2 h4))]
theorem tell_cells {sz:List Int} {l:List Rls} (h:SpOk sz):∀ x∈tells sz l,x.cells.length≤48:=by
 have key:∀ (gs:List (List Int)) (vs:List Int) (k:Nat),∀ x∈tellF sz gs vs k,x.cells.length≤48:=by
  intro gs vs
  induction vs with
  | nil=>intro k x hx;simp [tellF] at hx
  | cons n vs ih=>
    intro k x hx
    simp only [tellF] at hx
    split at hx
    ·exact ih _ x hx
    ·rcases List.mem_cons.1 hx with rfl | hx
     ·exact memb_len h _
     ·exact ih _ x hx
 intro x hx
 obtain ⟨r,_,hx⟩:=List.mem_flatMap.1 hx
 exact key _ _ _ x hx
end Go.Proofs
