import Derived.Test.YtgdfndldfmjfhaaDoorZzIns
import Derived.Test.YtgdfndldfmjfhaaDoorD29
set_option linter.unusedSimpArgs false
set_option linter.unusedVariables false
namespace Go.Proofs
open Go Go.TL
open Go.TL.So
def inC (count:Int) (k:Int):Bool:=decide (0≤k) && decide (k < count)
def tchA (count:Int) (l:List Eqn):List Int:=((l.flatMap (·.cells)).filter (inC count)).foldl (insU ltI eqI2) []
def dgs (k:Int):List UInt8:=if k < 10 then [u8 (48 + k)] else [u8 (48 + k / 10),u8 (48 + k % 10)]
def txtL (l:List Int):List UInt8:=l.flatMap fun k=>dgs k ++ [32]
def dgV (l:List UInt8):Int:=l.foldl (fun n c=>n * 10 + ((c.toNat:Int) - 48)) 0
theorem dgs_ok (k:Nat) (h:k < 100):dgV (dgs k) = k∧(dgs k).all (fun c=>c != 32) = true:=by
 have:∀ k:Fin 100,dgV (dgs (k.1:Int)) = (k.1:Int)∧(dgs (k.1:Int)).all (fun c=>c != 32) = true:=by decide
 exact this ⟨k,h⟩
theorem app_sp {a b x y:List UInt8} (ha:a.all (fun c=>c != 32) = true) (hb:b.all (fun c=>c != 32) = true) (h:a ++ 32 :: x = b ++ 32 :: y):a = b∧x = y:=by
 induction a generalizing b with
 | nil=>
   cases b with
   | nil=>exact ⟨rfl,by simpa using h⟩
   | cons c b=>
     simp only [List.nil_append,List.cons_append,List.cons.injEq] at h
     rw [← h.1] at hb
     simp at hb
 | cons c a ih=>
   cases b with
   | nil=>
     simp only [List.nil_append,List.cons_append,List.cons.injEq] at h
     rw [h.1] at ha
     simp at ha
   | cons d b=>
     simp only [List.cons_append,List.cons.injEq] at h
     simp only [List.all_cons,Bool.and_eq_true] at ha hb
     obtain ⟨e1,e2⟩:=ih ha.2 hb.2 h.2
     exact ⟨by rw [h.1,e1],e2⟩
theorem txt_inj:∀ {l m:List Int},(∀ k∈l,0≤k∧k < 100)→(∀ k∈m,0≤k∧k < 100)→txtL l = txtL m→l = m
 | [],[],_,_,_=>rfl
 | [],k :: m,_,_,h=>by
   exfalso
   have:=congrArg List.length h
   simp [txtL] at this
 | k :: l,[],_,_,h=>by
   exfalso
   have:=congrArg List.length h
   simp [txtL] at this
 | k :: l,j :: m,hl,hm,h=>by
   have h1:txtL (k :: l) = dgs k ++ 32 :: txtL l:=by simp [txtL]
   have h2:txtL (j :: m) = dgs j ++ 32 :: txtL m:=by simp [txtL]
   rw [h1,h2] at h
   obtain ⟨k',rfl⟩:=Int.eq_ofNat_of_zero_le (hl k (by simp)).1
   obtain ⟨j',rfl⟩:=Int.eq_ofNat_of_zero_le (hm j (by simp)).1
   have hk:=hl _ (List.mem_cons_self)
   have hj:=hm _ (List.mem_cons_self)
   obtain ⟨a1,a2⟩:=dgs_ok k' (by omega)
   obtain ⟨b1,b2⟩:=dgs_ok j' (by omega)
   obtain ⟨c1,c2⟩:=app_sp a2 b2 h
   rw [c1,b1] at a1
   rw [txt_inj (fun x hx=>hl x (List.mem_cons_of_mem _ hx)) (fun x hx=>hm x (List.mem_cons_of_mem _ hx)) c2,a1]
def redS (o:List Eqn) (q:Eqn):Option (List Eqn):=
 if o.any (fun p=>p.cells == q.cells && p.val != q.val) = true then none else if o.any (fun p=>p.cells == q.cells) = true then some o else some (o ++ [q])
def redF:List Eqn→List Eqn→Option (List Eqn)
 | [],o=>some o
 | q :: l,o=>match redS o q with
   | none=>none
   | some o2=>redF l o2
theorem redS_len {o o2:List Eqn} {q:Eqn} (h:redS o q = some o2):o2.length≤o.length + 1:=by
 unfold redS at h
 split at h
 ·cases h
 ·split at h
  ·cases h;omega
  ·cases h;simp
def saidE (txt:List Int→ByteArray) (o:List Eqn):List (ByteArray×Int):=o.map fun p=>(txt p.cells,p.val)
structure RedOk (o:List Eqn):Prop where
 ne:o.Pairwise fun p q=>p.cells≠q.cells
 ok:∀ p∈o,∀ k∈p.cells,0≤k∧k < 100
theorem redS_ok {o o2:List Eqn} {q:Eqn} (h:RedOk o) (hq:∀ k∈q.cells,0≤k∧k < 100) (h2:redS o q = some o2):RedOk o2:=by
 unfold redS at h2
 split at h2
 ·cases h2
 ·split at h2
  ·cases h2;exact h
  ·rename_i h3
   cases h2
   refine ⟨?_,?_⟩
   ·rw [List.pairwise_append]
    refine ⟨h.ne,List.pairwise_singleton _ _,fun p hp x hx=>?_⟩
    rw [List.mem_singleton] at hx
    subst hx
    intro e
    exact h3 (List.any_eq_true.2 ⟨p,hp,by simp [e]⟩)
   ·intro p hp
    rcases List.mem_append.1 hp with hp | hp
    ·exact h.ok p hp
    ·rw [List.mem_singleton.1 hp];exact hq
theorem look_map {eq:ByteArray→ByteArray→Bool} {txt:List Int→ByteArray} {q:Eqn}:∀ {o:List Eqn},(∀ p∈o,eq (txt q.cells) (txt p.cells) = (p.cells == q.cells))→TL.look eq (txt q.cells) (saidE txt o) = (o.find? fun p=>p.cells == q.cells).map (·.val)
 | [],_=>rfl
 | p :: o,h=>by
   have h1:=h p (by simp)
   simp only [saidE,List.map_cons,TL.look,h1,List.find?_cons]
   cases e:p.cells == q.cells with
   | true=>simp
   | false=>
     simp only [Bool.false_eq_true,if_false]
     exact look_map fun x hx=>h x (List.mem_cons_of_mem _ hx)
theorem asg_map {eq:ByteArray→ByteArray→Bool} {txt:List Int→ByteArray} {q:Eqn}:∀ {o:List Eqn},(∀ p∈o,eq (txt q.cells) (txt p.cells) = false)→TL.asg eq (txt q.cells) q.val (saidE txt o) = saidE txt (o ++ [q])
 | [],_=>rfl
 | p :: o,h=>by
   simp only [saidE,List.map_cons,TL.asg,h p (by simp),List.cons_append]
   rw [if_neg (by simp)]
   congr 1
   exact asg_map fun x hx=>h x (List.mem_cons_of_mem _ hx)
theorem redS_find {o:List Eqn} {q:Eqn} (h:RedOk o):redS o q = match o.find? (fun p=>p.cells == q.cells) with
 | none=>some (o ++ [q])
 | some p=>if p.val = q.val then some o else none:=by
 unfold redS
 cases hf:o.find? (fun p=>p.cells == q.cells) with
 | none=>
   rw [List.find?_eq_none] at hf
   have h1:o.any (fun p=>p.cells == q.cells) = false:=by rw [List.any_eq_false];exact hf
   have h2:o.any (fun p=>p.cells == q.cells && p.val != q.val) = false:=by
    rw [List.any_eq_false]
    intro p hp e
    rw [Bool.and_eq_true] at e
    exact hf p hp e.1
   rw [h1,h2]
   simp
 | some p=>
   have hp:=List.find?_some hf
   have hm:=List.mem_of_find?_eq_some hf
   have h1:o.any (fun p=>p.cells == q.cells) = true:=List.any_eq_true.2 ⟨p,hm,hp⟩
   have h2:o.any (fun p=>p.cells == q.cells && p.val != q.val) = (p.val != q.val):=by
    cases e:p.val != q.val with
    | true=>exact List.any_eq_true.2 ⟨p,hm,by rw [hp,e];rfl⟩
    | false=>
      rw [List.any_eq_false]
      intro x hx e2
      rw [Bool.and_eq_true] at e2
      have hxp:x = p:=by
       refine Classical.byContradiction fun hne=>?_
       obtain ⟨i,hi,rfl⟩:=List.getElem_of_mem hx
       obtain ⟨j,hj,rfl⟩:=List.getElem_of_mem hm
       have hpw:=List.pairwise_iff_getElem.1 h.ne
       have e3:o[i].cells = o[j].cells:=by rw [eq_of_beq e2.1,eq_of_beq hp]
       by_cases hij:i < j
       ·exact hpw i j hi hj hij e3
       ·by_cases hji:j < i
        ·exact hpw j i hj hi hji e3.symm
        ·have:i = j:=by omega
         subst this
         exact hne rfl
      rw [hxp,e] at e2
      exact absurd e2.2 (by simp)
   rw [h1,h2]
   by_cases e:p.val = q.val <;> simp [e]
end Go.Proofs
