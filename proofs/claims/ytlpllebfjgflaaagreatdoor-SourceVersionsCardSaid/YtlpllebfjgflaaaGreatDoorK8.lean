/- A part of the proof: trees of Go values, short forms, contracts. -/
import Derived.WalkKit
import Derived.Still
import Derived.MapKept
import GoSem.Builtin.Cap
import Derived.Laws.Externs
import GoSem.Extern.SlicesOverlaps
import Derived.Test.YtlpllebfjgflaaaGreatDoorK7
namespace Go.TL
set_option linter.unusedSimpArgs false
set_option linter.unusedVariables false
abbrev vI (n:Int):T:=.v (.int .i64 n)
abbrev vB (b:Bool):T:=.v (.bool b)
abbrev vU64 (n:Int):T:=.v (.int .u64 n)
abbrev vS (s:ByteArray):T:=.v (.string s)
def hasFr (fr:List (Nat×T)):List (Nat×T)→Prop
 | []=>True
 | (t,x) :: r=>TL.get fr t = some x∧hasFr fr r
section
variable {P:Program} {e:Env} {kss:List (Nat×List Nat)} {Q:Ex→St→Prop} {K:List KF} {fr:List (Nat×T)} {st:Sto}
def LQ {α:Type} (P:Program) (e:Env) (kss:List (Nat×List Nat)) (Q:Ex→St→Prop) (K:List KF) (I:α→Prop) (f:α→List (Nat×T)) (g:α→Sto) (μ:α→Nat) (x:α):Ex→St→Prop
 | .normal,s=>∃ y,I y∧μ y < μ x∧Le e s ⟨f y,g y⟩
 | .exit i,s=>X P e kss Q (.exit i) K s.fr s.st
 | .ret,s=>X P e kss Q .ret K s.fr s.st
theorem LQ_normal {α:Type} {I:α→Prop} {f:α→List (Nat×T)} {g:α→Sto} {μ:α→Nat} {x:α}:LQ P e kss Q K I f g μ x .normal ⟨fr,st⟩ = ∃ y,I y∧μ y < μ x∧Le e ⟨fr,st⟩ ⟨f y,g y⟩:=_root_.id rfl
theorem LQ_exit {α:Type} {I:α→Prop} {f:α→List (Nat×T)} {g:α→Sto} {μ:α→Nat} {x:α} {i:Nat}:LQ P e kss Q K I f g μ x (.exit i) ⟨fr,st⟩ = X P e kss Q (.exit i) K fr st:=_root_.id rfl
theorem LQ_ret {α:Type} {I:α→Prop} {f:α→List (Nat×T)} {g:α→Sto} {μ:α→Nat} {x:α}:LQ P e kss Q K I f g μ x .ret ⟨fr,st⟩ = X P e kss Q .ret K fr st:=_root_.id rfl
theorem W_loop {α:Type} {body:RC} (hm:P.follows .mixedOrders = true) (I:α→Prop) (f:α→List (Nat×T)) (g:α→Sto) (μ:α→Nat) (x0:α) (h0:I x0) (hs:Le e ⟨fr,st⟩ ⟨f x0,g x0⟩)
 (round:∀ x,I x→W P e kss (LQ P e kss Q K I f g μ x) body [] (f x) (g x)):W P e kss Q (.loop body) K fr st:=by
 refine WPR.loop hm I (fun x=>⟨f x,g x⟩) μ x0 h0 hs fun x hI=>?_
 have:loopQ e I (fun x=>⟨f x,g x⟩) μ x (kq P e kss Q K) = LQ P e kss Q K I f g μ x:=by
  funext ex s
  cases ex <;> rfl
 rw [this]
 exact round x hI
theorem EndOk.imR {x r:T} {st:Sto} (h:x = r) (hi:imTup x = true):EndOk [] x st r []:=h ▸ .im hi
theorem int_ge {a b:Int}:(a≥b) = (b≤a):=rfl
theorem bif_and {a b:Bool}:(bif a then b else false) = (a && b):=by cases a <;> rfl
theorem bif_or {a b:Bool}:(bif a then true else b) = (a || b):=by cases a <;> rfl
end
end Go.TL
namespace Go.TL
set_option linter.unusedSimpArgs false
set_option linter.unusedVariables false
abbrev Ren:=List (Nat×Option Nat)
def rho (ρ:Ren) (i:Nat):Option Nat:=match TL.get ρ i with | some (some j)=>some j | _=>none
def ImXs (k:Nat) (xs:List T):Prop:=∀ x∈xs,x.cells.length = k∧imL x.cells = true
def ltS (o:Option Ob) (k n:Nat) (ys:List T):Prop:=match o with
 | some (.arr k' xs _)=>k' = k∧xs.length = n∧ys = xs∧ImXs k xs
 | _=>False
def ltV (o:Option Ob) (k n lo len:Nat) (ys:List T):Prop:=match o with
 | some (.arr k' xs _)=>k' = k∧xs.length = n∧ys = (xs.drop lo).take len∧lo + len≤n∧ImXs k xs
 | _=>False
def ltP (o:Option Ob) (n i j:Nat) (cs:List T):Prop:=match o with
 | some (.arr k xs _)=>xs.length = n∧i < n∧cs = (xs.getD i .junk).cells.drop j∧ImXs k xs
 | _=>False
def ltC0 (st:Sto) (ρ:Ren) (B:List Nat) (x y:T):Prop:=
 match y with
 | .junk=>True
 | .asl i' n'=>match x with
   | .asl i n=>TL.get ρ i' = some (some i)∧n = n'
   | .v (.slice none 0 0)=>TL.get ρ i' = some none∧n' = 0
   | _=>False
 | .ptr i' n' a' b'=>match x with
   | .ptr i n a b=>TL.get ρ i' = some (some i)∧n = n'∧a = a'∧b = b'
   | _=>False
 | .sl k ys=>match x with
   | .asl i n=>i∈B∧ltS (TL.get st i) k n ys
   | .vw i n lo len=>i∈B∧ltV (TL.get st i) k n lo len ys
   | .v (.slice none 0 0)=>ys = []
   | x=>x = .sl k ys
 | .ip cs=>match x with
   | .ptr i n a b=>i∈B∧ltP (TL.get st i) n a b cs
   | x=>x = .ip cs
 | .agg _=>False
 | .clo _ _=>False
 | .tup _=>False
 | .vw i' n' lo' len'=>match x with
   | .vw i n lo len=>TL.get ρ i' = some (some i)∧n = n'∧lo = lo'∧len = len'
   | .asl i n=>TL.get ρ i' = some (some i)∧n = n'∧lo' = 0∧len' = n'
   | _=>False
 | .mp i'=>match x with
   | .mp i=>TL.get ρ i' = some (some i)
   | _=>False
 | y=>x = y
def ltC0s (st:Sto) (ρ:Ren) (B:List Nat):List T→List T→Prop
 | [],[]=>True
 | x :: xs,y :: ys=>ltC0 st ρ B x y∧ltC0s st ρ B xs ys
 | _,_=>False
def ltC (st:Sto) (ρ:Ren) (B:List Nat) (x y:T):Prop:=
 match y with
 | .clo f ys=>match x with | .clo g xs=>f = g∧ltC0s st ρ B xs ys | _=>False
 | y=>ltC0 st ρ B x y
def ltCs (st:Sto) (ρ:Ren) (B:List Nat):List T→List T→Prop
 | [],[]=>True
 | x :: xs,y :: ys=>ltC st ρ B x y∧ltCs st ρ B xs ys
 | _,_=>False
def ltA (st:Sto) (ρ:Ren) (B:List Nat) (x y:T):Prop:=
 match y with
 | .agg ys=>match x with | .agg xs=>ltCs st ρ B xs ys | _=>False
 | .clo f ys=>match x with | .clo g xs=>f = g∧ltCs st ρ B xs ys | _=>False
 | y=>ltC st ρ B x y
def ltAs (st:Sto) (ρ:Ren) (B:List Nat):List T→List T→Prop
 | [],[]=>True
 | x :: xs,y :: ys=>ltA st ρ B x y∧ltAs st ρ B xs ys
 | _,_=>False
def ltT (st:Sto) (ρ:Ren) (B:List Nat) (x y:T):Prop:=
 match y with
 | .tup ys=>match x with | .tup xs=>ltAs st ρ B xs ys | _=>False
 | y=>ltA st ρ B x y
def ltXs (st:Sto) (ρ:Ren) (B:List Nat) (k:Nat) (xs ys:List T):Prop:=xs.length = ys.length∧∀ (i:Nat) (x y:T),xs[i]? = some x→ys[i]? = some y→x.cells.length = k∧y.cells.length = k∧ltCs st ρ B x.cells y.cells
def ltO1 (st:Sto) (ρ:Ren) (B:List Nat) (k:Nat) (ys:List T) (fz':Bool) (i:Nat) (o:Option Ob):Prop:=match o with
 | some (.arr k0 xs fz)=>k0 = k∧(fz = true→fz' = true)∧ltXs st ρ B k xs ys∧(i∈B→fz' = true)
 | _=>False
def ltO2 (st:Sto) (ρ:Ren) (B:List Nat) (k:Nat) (ys:List T) (fz':Bool) (r:Option (Option Nat)):Prop:=match r with
 | some none=>ys = []
 | some (some i)=>ltO1 st ρ B k ys fz' i (TL.get st i)
 | none=>False
def ltM (es:Es) (o:Option Ob):Prop:=match o with | some (.mp es')=>es' = es | _=>False
def ltM2 (st:Sto) (es:Es) (r:Option (Option Nat)):Prop:=match r with
 | some (some i)=>ltM es (TL.get st i)
 | _=>False
def ltSto (st:Sto) (ρ:Ren) (B:List Nat):Sto→Prop
 | []=>True
 | (i,.dead) :: r=>ltSto st ρ B r
 | (i,.arr k ys fz') :: r=>ltO2 st ρ B k ys fz' (TL.get ρ i)∧ltSto st ρ B r
 | (i,.mp es) :: r=>ltM2 st es (TL.get ρ i)∧ltSto st ρ B r
 | (_,.full ..) :: _=>False
def ltFr (st:Sto) (ρ:Ren) (B:List Nat) (fr:List (Nat×T)):List (Nat×T)→Prop
 | []=>True
 | (t,y) :: r=>ltT st ρ B ((TL.get fr t).getD .junk) y∧ltFr st ρ B fr r
def renOk (st':Sto) (ρ:Ren):Bool:=(ρ.all fun p=>(TL.get st' p.1).isSome) && decide (ρ.filterMap (·.2)).Nodup
def hndOk (st':Sto) (ρ:Ren):Sto→Bool
 | []=>true
 | (i,_) :: r=>(TL.get st' i).isSome && (TL.get ρ i == some (some i)) && hndOk st' ρ r
section
variable {st st':Sto} {ρ:Ren} {B:List Nat} {d:Nat→Prop}
theorem get_mem {α:Type} {l:List (Nat×α)} {i:Nat} {x:α} (h:TL.get l i = some x):(i,x)∈l:=by
 induction l with
 | nil=>cases h
 | cons p r ih=>
   obtain ⟨j,y⟩:=p
   simp only [TL.get] at h
   split at h
   ·rename_i hj;subst hj;injection h with h;subst h;simp
   ·exact List.mem_cons_of_mem _ (ih h)
theorem ren_has (h:renOk st' ρ = true) {i:Nat} {x:Option Nat} (hi:TL.get ρ i = some x):TL.get st' i≠none:=by
 simp only [renOk,Bool.and_eq_true] at h
 have:=List.all_eq_true.1 h.1 (i,x) (get_mem hi)
 intro hn
 simp [hn] at this
theorem nodup_inj:∀ {ρ:Ren} {i1 i2 j:Nat},(ρ.filterMap (·.2)).Nodup→(i1,some j)∈ρ→(i2,some j)∈ρ→i1 = i2
 | [],_,_,_,_,h,_=>by cases h
 | (i,x) :: r,i1,i2,j,hn,h1,h2=>by
   cases x with
   | none=>
     simp only [List.filterMap_cons] at hn
     simp only [List.mem_cons,Prod.mk.injEq,reduceCtorEq,and_false,false_or] at h1 h2
     exact nodup_inj hn h1 h2
   | some y=>
     simp only [List.filterMap_cons,List.nodup_cons,List.mem_filterMap,not_exists,not_and] at hn
     simp only [List.mem_cons,Prod.mk.injEq,Option.some.injEq] at h1 h2
     rcases h1 with ⟨rfl,rfl⟩ | h1
     ·rcases h2 with ⟨rfl,_⟩ | h2
      ·rfl
      ·exact absurd rfl (hn.1 _ h2)
     ·rcases h2 with ⟨rfl,rfl⟩ | h2
      ·exact absurd rfl (hn.1 _ h1)
      ·exact nodup_inj hn.2 h1 h2
theorem imXs_flat {k:Nat} {xs:List T} (h:ImXs k xs):(∀ x∈xs,x.cells.length = k)∧∀ c∈flat xs,imT c = true:=by
 refine ⟨fun x hx=>(h x hx).1,fun c hc=>?_⟩
 simp only [flat,List.mem_flatMap] at hc
 obtain ⟨x,hx,hc⟩:=hc
 exact imL_mem (h x hx).2 c hc
theorem ltC0_sound (hd:∀ i x,TL.get ρ i = some x→d i) {x y:T} (h:ltC0 st ρ B x y):Lt st d (rho ρ) B x y:=by
 unfold ltC0 at h
 split at h
 ·exact .junk x
 ·rename_i i' n'
  split at h
  ·obtain ⟨h1,rfl⟩:=h
   exact .asl _ _ _ (by simp [rho,h1]) (hd _ _ h1)
  ·obtain ⟨h1,rfl⟩:=h
   exact .ghost _ (by simp [rho,h1]) (hd _ _ h1)
  ·exact h.elim
 ·split at h
  ·obtain ⟨h1,rfl,rfl,rfl⟩:=h
   exact .ptr _ _ _ _ _ (by simp [rho,h1]) (hd _ _ h1)
  ·exact h.elim
 ·rename_i k ys
  split at h
  ·rename_i i n
   obtain ⟨h1,h2⟩:=h
   unfold ltS at h2
   split at h2
   ·rename_i k' xs fz hg
    obtain ⟨rfl,rfl,rfl,h3⟩:=h2
    obtain ⟨h4,h5⟩:=imXs_flat h3
    exact .shut _ _ _ _ _ fz h1 hg rfl rfl h4 (fun j c c' hc hc'=>by
     rw [hc] at hc';injection hc' with hc';subst hc'
     exact .im _ (h5 _ (List.mem_of_getElem? hc))) h5
   ·exact h2.elim
  ·rename_i i n lo len
   obtain ⟨h1,h2⟩:=h
   unfold ltV at h2
   split at h2
   ·rename_i k' xs fz hg
    obtain ⟨rfl,rfl,rfl,hle,h3⟩:=h2
    obtain ⟨h4,h5⟩:=imXs_flat h3
    have hsub:∀ c∈flat ((xs.drop lo).take len),imT c = true:=fun c hc=>by
     simp only [flat,List.mem_flatMap] at hc
     obtain ⟨y,hy,hc⟩:=hc
     exact h5 c (by simp only [flat,List.mem_flatMap];exact ⟨y,List.mem_of_mem_drop (List.mem_of_mem_take hy),hc⟩)
    exact .shutv _ _ _ _ _ _ _ fz h1 hg rfl (by simp;omega) (fun y hy=>h4 y (List.mem_of_mem_drop (List.mem_of_mem_take hy))) (fun j c c' hc hc'=>by
     rw [hc] at hc';injection hc' with hc';subst hc'
     exact .im _ (hsub _ (List.mem_of_getElem? hc))) hsub
   ·exact h2.elim
  ·subst h;exact .nil k
  ·subst h;exact .im _ rfl
 ·rename_i cs
  split at h
  ·rename_i i n a b
   obtain ⟨h1,h2⟩:=h
   unfold ltP at h2
   split at h2
   ·rename_i k xs fz hg
    obtain ⟨h3,h4,h5,h6⟩:=h2
    refine .ptrip _ _ _ _ k xs _ fz h1 hg h3 h4 h5 fun c hc=>?_
    subst h5
    have hx:xs.getD a .junk∈xs:=by
     rw [List.getD_eq_getElem?_getD,List.getElem?_eq_getElem (by omega)]
     exact List.getElem_mem _
    exact imL_mem (h6 _ hx).2 c (List.mem_of_mem_drop hc)
   ·exact h2.elim
  ·subst h;exact .im _ rfl
 ·exact h.elim
 ·exact h.elim
 ·exact h.elim
 ·split at h
  ·obtain ⟨h1,rfl,rfl,rfl⟩:=h
   exact .vw _ _ _ _ _ (by simp [rho,h1]) (hd _ _ h1)
  ·obtain ⟨h1,rfl,rfl,rfl⟩:=h
   exact .aslv _ _ _ (by simp [rho,h1]) (hd _ _ h1)
  ·exact h.elim
 ·split at h
  ·exact .mp _ _ (by simp [rho,h]) (hd _ _ h)
  ·exact h.elim
 ·rename_i h1 h2 h3 h4 h9 h5 h6 h7 h8 h10
  subst h
  cases x with
  | v x=>exact .im _ rfl
  | ip cs=>exact absurd rfl (h9 _)
  | ub p q=>exact .im _ rfl
  | junk=>exact .junk _
  | asl=>exact absurd rfl (h2 _ _)
  | ptr=>exact absurd rfl (h3 _ _ _ _)
  | sl=>exact absurd rfl (h4 _ _)
  | agg=>exact absurd rfl (h5 _)
  | clo=>exact absurd rfl (h6 _ _)
  | tup=>exact absurd rfl (h7 _)
  | vw=>exact absurd rfl (h8 _ _ _ _)
  | mp=>exact absurd rfl (h10 _)
theorem ltC0s_sound (hd:∀ i x,TL.get ρ i = some x→d i):∀ {xs ys:List T},ltC0s st ρ B xs ys→xs.length = ys.length∧∀ (j:Nat) (c c':T),xs[j]? = some c→ys[j]? = some c'→Lt st d (rho ρ) B c c'
 | [],[],_=>⟨rfl,fun j c c' h=>by simp at h⟩
 | [],_ :: _,h=>h.elim
 | _ :: _,[],h=>h.elim
 | x :: xs,y :: ys,h=>by
   obtain ⟨h1,h2⟩:=h
   obtain ⟨h3,h4⟩:=ltC0s_sound hd h2
   refine ⟨by simp [h3],fun j c c' hc hc'=>?_⟩
   cases j with
   | zero=>simp at hc hc';subst hc hc';exact ltC0_sound hd h1
   | succ j=>exact h4 j c c' (by simpa using hc) (by simpa using hc')
theorem ltC_sound (hd:∀ i x,TL.get ρ i = some x→d i) {x y:T} (h:ltC st ρ B x y):Lt st d (rho ρ) B x y:=by
 unfold ltC at h
 split at h
 ·split at h
  ·obtain ⟨rfl,h⟩:=h;obtain ⟨h1,h2⟩:=ltC0s_sound hd h;exact .clo _ _ _ h1 h2
  ·exact h.elim
 ·exact ltC0_sound hd h
theorem ltCs_sound (hd:∀ i x,TL.get ρ i = some x→d i):∀ {xs ys:List T},ltCs st ρ B xs ys→xs.length = ys.length∧∀ (j:Nat) (c c':T),xs[j]? = some c→ys[j]? = some c'→Lt st d (rho ρ) B c c'
 | [],[],_=>⟨rfl,fun j c c' h=>by simp at h⟩
 | [],_ :: _,h=>h.elim
 | _ :: _,[],h=>h.elim
 | x :: xs,y :: ys,h=>by
   obtain ⟨h1,h2⟩:=h
   obtain ⟨h3,h4⟩:=ltCs_sound hd h2
   refine ⟨by simp [h3],fun j c c' hc hc'=>?_⟩
   cases j with
   | zero=>simp at hc hc';subst hc hc';exact ltC_sound hd h1
   | succ j=>exact h4 j c c' (by simpa using hc) (by simpa using hc')
theorem ltA_sound (hd:∀ i x,TL.get ρ i = some x→d i) {x y:T} (h:ltA st ρ B x y):Lt st d (rho ρ) B x y:=by
 unfold ltA at h
 split at h
 ·split at h
  ·obtain ⟨h1,h2⟩:=ltCs_sound hd h;exact .agg _ _ h1 h2
  ·exact h.elim
 ·split at h
  ·obtain ⟨rfl,h⟩:=h;obtain ⟨h1,h2⟩:=ltCs_sound hd h;exact .clo _ _ _ h1 h2
  ·exact h.elim
 ·exact ltC_sound hd h
theorem ltAs_sound (hd:∀ i x,TL.get ρ i = some x→d i):∀ {xs ys:List T},ltAs st ρ B xs ys→xs.length = ys.length∧∀ (j:Nat) (c c':T),xs[j]? = some c→ys[j]? = some c'→Lt st d (rho ρ) B c c'
 | [],[],_=>⟨rfl,fun j c c' h=>by simp at h⟩
 | [],_ :: _,h=>h.elim
 | _ :: _,[],h=>h.elim
 | x :: xs,y :: ys,h=>by
   obtain ⟨h1,h2⟩:=h
   obtain ⟨h3,h4⟩:=ltAs_sound hd h2
   refine ⟨by simp [h3],fun j c c' hc hc'=>?_⟩
   cases j with
   | zero=>simp at hc hc';subst hc hc';exact ltA_sound hd h1
   | succ j=>exact h4 j c c' (by simpa using hc) (by simpa using hc')
theorem ltT_sound (hd:∀ i x,TL.get ρ i = some x→d i) {x y:T} (h:ltT st ρ B x y):Lt st d (rho ρ) B x y:=by
 unfold ltT at h
 split at h
 ·split at h
  ·obtain ⟨h1,h2⟩:=ltAs_sound hd h;exact .tup _ _ h1 h2
  ·exact h.elim
 ·exact ltA_sound hd h
theorem ltXs_flat {k:Nat} {xs ys:List T} (h:ltXs st ρ B k xs ys) (hd:∀ i x,TL.get ρ i = some x→d i):(∀ y∈ys,y.cells.length = k)∧∀ (j:Nat) (c c':T),(flat xs)[j]? = some c→(flat ys)[j]? = some c'→Lt st d (rho ρ) B c c':=by
 obtain ⟨hl,h⟩:=h
 have hx:∀ x∈xs,x.cells.length = k:=by
  intro x hx
  obtain ⟨i,hi,rfl⟩:=List.getElem_of_mem hx
  exact (h i xs[i] (ys[i]'(by omega)) (by simp) (by simp)).1
 have hy:∀ y∈ys,y.cells.length = k:=by
  intro y hy
  obtain ⟨i,hi,rfl⟩:=List.getElem_of_mem hy
  exact (h i (xs[i]'(by omega)) ys[i] (by simp) (by simp)).2.1
 refine ⟨hy,fun j c c' hc hc'=>?_⟩
 have hj:j < xs.length * k:=by rw [← flat_length hx];exact (List.getElem?_eq_some_iff.1 hc).1
 have hk:0 < k:=by
  rcases Nat.eq_zero_or_pos k with h0 | h0
  ·rw [h0] at hj;simp at hj
  ·exact h0
 have hi:j / k < xs.length:=by rw [Nat.div_lt_iff_lt_mul hk];exact hj
 have he:j = (j / k) * k + j % k:=by rw [Nat.mul_comm];exact (Nat.div_add_mod j k).symm
 have at1:∀ {zs:List T},(∀ z∈zs,z.cells.length = k)→∀ (i m:Nat) (z:T),zs[i]? = some z→m < k→(flat zs)[i * k + m]? = z.cells[m]?:=by
  intro zs
  induction zs with
  | nil=>intro _ i m z hz;simp at hz
  | cons z0 zs ih=>
    intro hk' i m z hz hm
    have hz0:=hk' z0 (by simp)
    simp only [flat,List.flatMap_cons]
    cases i with
    | zero=>simp at hz;subst hz;rw [List.getElem?_append_left (by omega)];simp
    | succ i=>
      rw [List.getElem?_append_right (by rw [hz0,Nat.succ_mul];omega),hz0,show (i + 1) * k + m - k = i * k + m by rw [Nat.succ_mul];omega]
      exact ih (fun z hz=>hk' z (by simp [hz])) i m z (by simpa using hz) hm
 rw [he,at1 hx (j / k) (j % k) xs[j / k] (by simp [hi]) (Nat.mod_lt _ hk)] at hc
 rw [he,at1 hy (j / k) (j % k) (ys[j / k]'(by omega)) (by simp) (Nat.mod_lt _ hk)] at hc'
 have h3:=(h (j / k) xs[j / k] (ys[j / k]'(by omega)) (by simp [hi]) (by simp)).2.2
 exact (ltCs_sound hd h3).2 _ c c' hc hc'
theorem ltSto_get:∀ {l:Sto},ltSto st ρ B l→∀ {i k:Nat} {ys:List T} {fz:Bool},TL.get l i = some (.arr k ys fz)→ltO2 st ρ B k ys fz (TL.get ρ i)
 | [],_,i,k,ys,fz,h=>by cases h
 | (j,.dead) :: r,hs,i,k,ys,fz,h=>by
   simp only [TL.get] at h
   split at h
   ·injection h with h;cases h
   ·exact ltSto_get (l:=r) hs h
 | (j,.arr k0 y0 f0) :: r,hs,i,k,ys,fz,h=>by
   simp only [TL.get] at h
   split at h
   ·rename_i hj;subst hj
    injection h with h;injection h with h1 h2 h3;subst h1 h2 h3
    exact hs.1
   ·exact ltSto_get (l:=r) hs.2 h
 | (j,.mp es) :: r,hs,i,k,ys,fz,h=>by
   simp only [TL.get] at h
   split at h
   ·injection h with h;cases h
   ·exact ltSto_get (l:=r) hs.2 h
 | (j,.full ..) :: r,hs,i,k,ys,fz,h=>hs.elim
theorem ltSto_mp:∀ {l:Sto},ltSto st ρ B l→∀ {i:Nat} {es:Es},TL.get l i = some (.mp es)→ltM2 st es (TL.get ρ i)
 | [],_,i,es,h=>by cases h
 | (j,.dead) :: r,hs,i,es,h=>by
   simp only [TL.get] at h
   split at h
   ·injection h with h;cases h
   ·exact ltSto_mp (l:=r) hs h
 | (j,.arr k0 y0 f0) :: r,hs,i,es,h=>by
   simp only [TL.get] at h
   split at h
   ·injection h with h;cases h
   ·exact ltSto_mp (l:=r) hs.2 h
 | (j,.mp es0) :: r,hs,i,es,h=>by
   simp only [TL.get] at h
   split at h
   ·rename_i hj;subst hj
    injection h with h;injection h with h;subst h
    exact hs.1
   ·exact ltSto_mp (l:=r) hs.2 h
 | (j,.full ..) :: r,hs,i,es,h=>hs.elim
theorem ltSto_nf:∀ {l:Sto},ltSto st ρ B l→∀ {i:Nat} {a b:Nat} {g:Bool},TL.get l i≠some (.full a b g)
 | [],_,i,a,b,g,h=>by cases h
 | (j,.dead) :: r,hs,i,a,b,g,h=>by
   simp only [TL.get] at h
   split at h
   ·injection h with h;cases h
   ·exact ltSto_nf (l:=r) hs h
 | (j,.arr k0 y0 f0) :: r,hs,i,a,b,g,h=>by
   simp only [TL.get] at h
   split at h
   ·injection h with h;cases h
   ·exact ltSto_nf (l:=r) hs.2 h
 | (j,.mp es0) :: r,hs,i,a,b,g,h=>by
   simp only [TL.get] at h
   split at h
   ·injection h with h;cases h
   ·exact ltSto_nf (l:=r) hs.2 h
 | (j,.full ..) :: r,hs,i,a,b,g,h=>hs.elim
theorem hndOk_get:∀ {l:Sto},hndOk st' ρ l = true→∀ {i:Nat},TL.get l i≠none→TL.get st' i≠none∧TL.get ρ i = some (some i)
 | [],_,i,h=>by simp [TL.get] at h
 | (j,o) :: r,hh,i,h=>by
   simp only [hndOk,Bool.and_eq_true,beq_iff_eq] at hh
   simp only [TL.get] at h
   split at h
   ·rename_i hj;subst hj
    exact ⟨by intro hn;simp [hn] at hh,hh.1.2⟩
   ·exact hndOk_get hh.2 h
theorem lesOf {e:Env} {fr fr':List (Nat×T)} (hr:renOk st' ρ = true) (hh:hndOk st' ρ e.st0 = true) (hs:ltSto st ρ B st') (hf:ltFr st ρ B fr fr'):LeS e ⟨fr,st⟩ ⟨fr',st'⟩ (rho ρ) B where
 o:={
  ob:=fun i k ys fz hg=>by
   have h:=ltSto_get hs hg
   unfold ltO2 at h
   split at h
   ·rename_i hρ;exact .inl ⟨by simp [rho,hρ],h⟩
   ·rename_i j hρ
    unfold ltO1 at h
    split at h
    ·rename_i k0 xs f0 hg0
     obtain ⟨rfl,h2,h3,h4⟩:=h
     obtain ⟨h5,h6⟩:=ltXs_flat h3 (fun _ _ h=>ren_has hr h)
     exact .inr ⟨j,xs,f0,by simp [rho,hρ],hg0,h3.1,h2,h5,h6,h4⟩
    ·exact h.elim
   ·exact h.elim
  inj:=fun i1 i2 j _ _ h1 h2=>by
   simp only [renOk,Bool.and_eq_true,decide_eq_true_eq] at hr
   unfold rho at h1 h2
   split at h1
   ·rename_i j1 g1
    split at h2
    ·rename_i j2 g2
     injection h1 with h1;injection h2 with h2;subst h1 h2
     exact nodup_inj hr.2 (get_mem g1) (get_mem g2)
    ·cases h2
   ·cases h1
  mp:=fun i es hg=>by
   have h:=ltSto_mp hs hg
   unfold ltM2 at h
   split at h
   ·rename_i j hρ
    unfold ltM at h
    split at h
    ·rename_i es' hg0
     subst h
     exact ⟨j,by simp [rho,hρ],hg0⟩
    ·exact h.elim
   ·exact h.elim
  nf:=fun i a b g=>ltSto_nf hs }
 fr:=by
  intro t y hy
  have:∀ {l:List (Nat×T)},ltFr st ρ B fr l→TL.get l t = some y→ltT st ρ B ((TL.get fr t).getD .junk) y:=by
   intro l
   induction l with
   | nil=>intro _ h;cases h
   | cons p r ih=>
     obtain ⟨u,z⟩:=p
     intro h hg
     simp only [TL.get] at hg
     split at hg
     ·rename_i hu;subst hu;injection hg with hg;subst hg;exact h.1
     ·exact ih h.2 hg
  exact ltT_sound (fun _ _ h=>ren_has hr h) (this hf hy)
 hnd:=fun id hd=>by
  obtain ⟨h1,h2⟩:=hndOk_get hh hd
  exact ⟨h1,fun k xs fz _=>by simp [rho,h2],fun es _=>by simp [rho,h2]⟩
theorem Le.of {e:Env} {fr fr':List (Nat×T)} (ρ:Ren) (B:List Nat) (hr:renOk st' ρ = true) (hh:hndOk st' ρ e.st0 = true) (hs:ltSto st ρ B st') (hf:ltFr st ρ B fr fr'):Le e ⟨fr,st⟩ ⟨fr',st'⟩:=(lesOf hr hh hs hf).le
theorem EndOk.of {st0:Sto} {x r:T} (ρ:Ren) (B:List Nat) (hr:renOk st' ρ = true) (hh:hndOk st' ρ st0 = true) (hs:ltSto st ρ B st') (hf:ltT st ρ B x r):EndOk st0 x st r st':=
 .les ⟨rho ρ,B,lesOf hr hh hs ⟨by simpa [TL.get] using hf,trivial⟩⟩
theorem EndOk.cut {st0:Sto} {x r:T} {st st':Sto} (id nid m:Nat) {k:Nat} {xs:List T} (hg:TL.get st id = some (.arr k xs false)) (hn:TL.get st nid = none) (hm:m≤xs.length)
 (h:EndOk st0 (cut2 id nid xs.length m x) (cutSt id nid m k xs st) r st'):EndOk st0 x st r st':=
 fun e he=>(Le.cut id nid m hg hn hm).trans (h e he)
theorem EndOk.cutv {st0:Sto} {r:T} {st st':Sto} {id n m:Nat} (nid:Nat) {k:Nat} {xs:List T} (hg:TL.get st id = some (.arr k xs false)) (hl:xs.length = n) (hn:TL.get st nid = none) (hm:m≤xs.length)
 (h:EndOk st0 (.asl nid m) (cutSt id nid m k xs st) r st'):EndOk st0 (.vw id n 0 m) st r st':=by
 refine .cut id nid m hg hn hm ?_
 have:cut2 id nid xs.length m (.vw id n 0 m) = .asl nid m:=by
  simp [cut2,cut1,cut0,hl]
 rw [this];exact h
theorem ltC0_im0 {x:T} (h:imT0 x = true):ltC0 st ρ B x x:=by
 cases x <;> first | (simp [imT0] at h;done) | trivial | rfl
theorem ltC0s_im0:∀ {l:List T},imT0L l = true→ltC0s st ρ B l l
 | [],_=>trivial
 | c :: r,h=>by
   simp only [imT0L,Bool.and_eq_true] at h
   exact ⟨ltC0_im0 h.1,ltC0s_im0 h.2⟩
theorem ltC_im0 {x:T} (h:imT x = true):ltC st ρ B x x:=by
 cases x with
 | clo f cs=>exact ⟨rfl,ltC0s_im0 h⟩
 | v a=>exact ltC0_im0 (st:=st) (ρ:=ρ) (B:=B) (x:=.v a) h
 | sl k xs=>exact ltC0_im0 (st:=st) (ρ:=ρ) (B:=B) (x:=.sl k xs) h
 | ip cs=>exact ltC0_im0 (st:=st) (ρ:=ρ) (B:=B) (x:=.ip cs) h
 | junk=>trivial
 | ub p q=>exact ltC0_im0 (st:=st) (ρ:=ρ) (B:=B) (x:=.ub p q) h
 | _=>simp [imT,imT0] at h
theorem ltXs_refl {k:Nat} {xs:List T} (h:ImXs k xs):ltXs st ρ B k xs xs:=by
 refine ⟨rfl,fun i x y hx hy=>?_⟩
 rw [hx] at hy;injection hy with hy;subst hy
 obtain ⟨h1,h2⟩:=h x (List.mem_of_getElem? hx)
 refine ⟨h1,h1,?_⟩
 clear h1 hx
 have:∀ l:List T,imL l = true→ltCs st ρ B l l:=by
  intro l
  induction l with
  | nil=>intro _;trivial
  | cons c r ih=>
    intro hl
    simp only [imL,Bool.and_eq_true] at hl
    refine ⟨?_,ih hl.2⟩
    exact ltC_im0 hl.1
 exact this _ h2
theorem ltXs_nil {k:Nat}:ltXs st ρ B k [] []:=⟨rfl,fun i x y hx=>by simp at hx⟩
theorem ltXs_append {k:Nat} {a b c d:List T} (h1:ltXs st ρ B k a c) (h2:ltXs st ρ B k b d):ltXs st ρ B k (a ++ b) (c ++ d):=by
 refine ⟨by simp [h1.1,h2.1],fun i x y hx hy=>?_⟩
 by_cases hi:i < a.length
 ·rw [List.getElem?_append_left hi] at hx
  rw [List.getElem?_append_left (by rw [← h1.1];exact hi)] at hy
  exact h1.2 i x y hx hy
 ·rw [List.getElem?_append_right (by omega)] at hx
  rw [List.getElem?_append_right (by rw [← h1.1];omega),← h1.1] at hy
  exact h2.2 _ x y hx hy
theorem ltXs_cons {k:Nat} {x y:T} {xs ys:List T} (h0:x.cells.length = k∧y.cells.length = k∧ltCs st ρ B x.cells y.cells) (h:ltXs st ρ B k xs ys):ltXs st ρ B k (x :: xs) (y :: ys):=by
 have h1:ltXs st ρ B k [x] [y]:=by
  refine ⟨rfl,fun i a b ha hb=>?_⟩
  cases i with
  | zero=>simp at ha hb;subst ha hb;exact h0
  | succ i=>simp at ha
 exact ltXs_append h1 h
theorem imXs_map {α:Type} {k:Nat} {f:α→T} (h:∀ a,(f a).cells.length = k∧imL (f a).cells = true) (l:List α):ImXs k (l.map f):=by
 intro x hx
 simp only [List.mem_map] at hx
 obtain ⟨n,_,rfl⟩:=hx
 exact h n
end
end Go.TL
namespace Go.TL
set_option linter.unusedSimpArgs false
set_option linter.unusedVariables false
def wrO (st st1 st1':Sto) (ρ1 ρ2:Ren) (id k:Nat) (ys:List T) (fz:Bool) (r:Option (Option Nat)):Prop:=match r with
 | none=>fz = true∧(match TL.get st id with | some (.arr k0 xs _)=>k0 = k∧xs = ys | _=>False)∧(∀ p∈ρ1,p.2≠some id)
 | some (some i')=>ltO1 st1' ρ2 [] k ys fz i' (TL.get st1' i')∧(TL.get st id = none∨(TL.get ρ1 i' = some (some id)∧(TL.get st1 i').isSome = true))
 | some none=>False
def wrOk (st st1 st1':Sto) (ρ1 ρ2:Ren):List (Nat×Ob)→Prop
 | []=>True
 | (_,.dead) :: r=>wrOk st st1 st1' ρ1 ρ2 r
 | (id,.arr k ys fz) :: r=>wrO st st1 st1' ρ1 ρ2 id k ys fz (TL.get ρ2 id)∧wrOk st st1 st1' ρ1 ρ2 r
 | _ :: _=>False
def noA1s:List (Nat×Ob)→Ren→Bool
 | [],_=>true
 | (_,.dead) :: r,ρ=>noA1s r ρ
 | (id,.arr _ ys _) :: r,ρ=>((rho ρ id).isNone || (flat ys).all noA1) && noA1s r ρ
 | _ :: _,_=>false
def fzOk (wr:Sto):List Nat→Bool
 | []=>true
 | i :: r=>(match TL.get wr i with | some (.arr _ _ true)=>true | _=>false) && fzOk wr r
section
variable {P:Program} {st st1 st1':Sto} {ρ1 ρ2:Ren} {B:List Nat} {wr:List (Nat×Ob)}
theorem wrOk_get:∀ {l:List (Nat×Ob)},wrOk st st1 st1' ρ1 ρ2 l→∀ {i k:Nat} {ys:List T} {fz:Bool},TL.get l i = some (.arr k ys fz)→wrO st st1 st1' ρ1 ρ2 i k ys fz (TL.get ρ2 i)
 | [],_,i,k,ys,fz,h=>by cases h
 | (j,.dead) :: r,hs,i,k,ys,fz,h=>by
   simp only [TL.get] at h
   split at h
   ·injection h with h;cases h
   ·exact wrOk_get (l:=r) hs h
 | (j,.arr k0 y0 f0) :: r,hs,i,k,ys,fz,h=>by
   simp only [TL.get] at h
   split at h
   ·rename_i hj;subst hj
    injection h with h;injection h with h1 h2 h3;subst h1 h2 h3
    exact hs.1
   ·exact wrOk_get (l:=r) hs.2 h
theorem wrOk_nm:∀ {l:List (Nat×Ob)},wrOk st st1 st1' ρ1 ρ2 l→∀ {i:Nat} {es:Es},TL.get l i = some (.mp es)→False
 | [],_,i,es,h=>by cases h
 | (j,.dead) :: r,hs,i,es,h=>by
   simp only [TL.get] at h
   split at h
   ·injection h with h;cases h
   ·exact wrOk_nm (l:=r) hs h
 | (j,.arr k0 y0 f0) :: r,hs,i,es,h=>by
   simp only [TL.get] at h
   split at h
   ·injection h with h;cases h
   ·exact wrOk_nm (l:=r) hs.2 h
 | (j,.mp _) :: r,hs,i,es,h=>hs.elim
 | (j,.full ..) :: r,hs,i,es,h=>hs.elim
theorem wrOk_nf:∀ {l:List (Nat×Ob)},wrOk st st1 st1' ρ1 ρ2 l→∀ {i a b:Nat} {g:Bool},TL.get l i = some (.full a b g)→False
 | [],_,i,a,b,g,h=>by cases h
 | (j,.dead) :: r,hs,i,a,b,g,h=>by
   simp only [TL.get] at h
   split at h
   ·injection h with h;cases h
   ·exact wrOk_nf (l:=r) hs h
 | (j,.arr k0 y0 f0) :: r,hs,i,a,b,g,h=>by
   simp only [TL.get] at h
   split at h
   ·injection h with h;cases h
   ·exact wrOk_nf (l:=r) hs.2 h
 | (j,.mp _) :: r,hs,i,a,b,g,h=>hs.elim
 | (j,.full ..) :: r,hs,i,a,b,g,h=>hs.elim
theorem noA1s_get:∀ {l:List (Nat×Ob)} {ρ:Ren},noA1s l ρ = true→∀ {i k:Nat} {ys:List T} {fz:Bool},TL.get l i = some (.arr k ys fz)→rho ρ i≠none→∀ c∈flat ys,noA1 c = true
 | [],ρ,_,i,k,ys,fz,h=>by cases h
 | (j,.dead) :: r,ρ,hs,i,k,ys,fz,h=>by
   simp only [TL.get] at h
   split at h
   ·injection h with h;cases h
   ·exact noA1s_get (l:=r) hs h
 | (j,.arr k0 y0 f0) :: r,ρ,hs,i,k,ys,fz,h=>by
   simp only [noA1s,Bool.and_eq_true,Bool.or_eq_true] at hs
   simp only [TL.get] at h
   split at h
   ·rename_i hj;subst hj
    injection h with h;injection h with h1 h2 h3;subst h1 h2 h3
    intro hn c hc
    rcases hs.1 with h1 | h1
    ·rw [Option.isNone_iff_eq_none] at h1;exact absurd h1 hn
    ·exact List.all_eq_true.1 h1 c hc
   ·exact noA1s_get (l:=r) hs.2 h
theorem fzOk_mem {wr:Sto}:∀ {B:List Nat},fzOk wr B = true→∀ i∈B,∃ k xs,TL.get wr i = some (.arr k xs true)
 | [],_,i,h=>by simp at h
 | j :: r,h,i,hi=>by
   simp only [fzOk,Bool.and_eq_true] at h
   rcases List.mem_cons.1 hi with rfl | hi
   ·have h1:=h.1
    split at h1
    ·rename_i k xs hg;exact ⟨k,xs,hg⟩
    ·cases h1
   ·exact fzOk_mem h.2 i hi
def allSome:Ren→Bool
 | []=>true
 | (_,some _) :: r=>allSome r
 | _=>false
theorem allSome_get:∀ {ρ:Ren},allSome ρ = true→∀ {i:Nat} {x:Option Nat},TL.get ρ i = some x→∃ j,x = some j
 | [],_,i,x,h=>by cases h
 | (j,none) :: r,hs,i,x,h=>by simp [allSome] at hs
 | (j,some y) :: r,hs,i,x,h=>by
   simp only [TL.get] at h
   split at h
   ·injection h with h;exact ⟨y,h.symm⟩
   ·exact allSome_get (ρ:=r) hs h
theorem rho_some {ρ:Ren} {i j:Nat}:rho ρ i = some j↔TL.get ρ i = some (some j):=by
 unfold rho
 cases h:TL.get ρ i with
 | none=>simp
 | some x=>cases x <;> simp
theorem rho_inj {st':Sto} {ρ:Ren} (h:renOk st' ρ = true) {i1 i2 j:Nat} (h1:rho ρ i1 = some j) (h2:rho ρ i2 = some j):i1 = i2:=by
 simp only [renOk,Bool.and_eq_true,decide_eq_true_eq] at h
 exact nodup_inj h.2 (get_mem (rho_some.1 h1)) (get_mem (rho_some.1 h2))
theorem contains_of {ρ:Ren} {i j:Nat} (h:rho ρ i = some j):(ρ.map (·.2)).contains (some j) = true:=by
 simp only [List.contains_eq_mem,decide_eq_true_eq,List.mem_map]
 exact ⟨_,get_mem (rho_some.1 h),rfl⟩
def ptw (R:T→T→Prop):List T→List T→Prop
 | [],[]=>True
 | x :: xs,y :: ys=>R x y∧ptw R xs ys
 | _,_=>False
def ltD (st:Sto) (B:List Nat):Nat→T→T→Prop
 | 0,x,y=>x = y∧imT x = true
 | d + 1,x,y=>match y with
   | .sl k ys=>match x with
     | .asl i n=>i∈B∧(match TL.get st i with
       | some (.arr k' xs _)=>k' = k∧xs.length = n∧ptw (fun a b=>a.cells.length = k∧b.cells.length = k∧imL b.cells = true∧ptw (ltD st B d) a.cells b.cells) xs ys
       | _=>False)
     | .v (.slice none 0 0)=>ys = []
     | x=>x = .sl k ys
   | y=>x = y∧imT x = true
def ltAD (st:Sto) (B:List Nat) (x y:T):Prop:=
 match y with
 | .agg ys=>match x with | .agg xs=>ptw (ltD st B 3) xs ys | _=>False
 | y=>ltD st B 3 x y
theorem ptw_get {R:T→T→Prop}:∀ {xs ys:List T},ptw R xs ys→xs.length = ys.length∧∀ (j:Nat) (c c':T),xs[j]? = some c→ys[j]? = some c'→R c c'
 | [],[],_=>⟨rfl,fun j c c' h=>by simp at h⟩
 | [],_ :: _,h=>h.elim
 | _ :: _,[],h=>h.elim
 | x :: xs,y :: ys,h=>by
   obtain ⟨h1,h2⟩:=h
   obtain ⟨h3,h4⟩:=ptw_get h2
   refine ⟨by simp [h3],fun j c c' hc hc'=>?_⟩
   cases j with
   | zero=>simp at hc hc';subst hc hc';exact h1
   | succ j=>exact h4 j c c' (by simpa using hc) (by simpa using hc')
theorem ptw_flat {R:T→T→Prop} {k:Nat}:∀ {xs ys:List T},ptw (fun a b=>a.cells.length = k∧b.cells.length = k∧imL b.cells = true∧ptw R a.cells b.cells) xs ys→ptw R (flat xs) (flat ys)∧(∀ y∈ys,y.cells.length = k)∧∀ c∈flat ys,imT c = true
 | [],[],_=>⟨trivial,by simp,by simp [flat]⟩
 | [],_ :: _,h=>h.elim
 | _ :: _,[],h=>h.elim
 | x :: xs,y :: ys,h=>by
   obtain ⟨⟨h1,h2,h3,h4⟩,h5⟩:=h
   obtain ⟨q1,q2,q3⟩:=ptw_flat h5
   have app:∀ {a b c d:List T},ptw R a b→ptw R c d→ptw R (a ++ c) (b ++ d):=by
    intro a
    induction a with
    | nil=>intro b c d h h';cases b with | nil=>exact h' | cons _ _=>exact h.elim
    | cons x a ih=>intro b c d h h';cases b with | nil=>exact h.elim | cons _ _=>exact ⟨h.1,ih h.2 h'⟩
   refine ⟨by simp only [flat,List.flatMap_cons];exact app h4 q1,?_,?_⟩
   ·intro z hz
    rcases List.mem_cons.1 hz with rfl | hz
    ·exact h2
    ·exact q2 z hz
   ·intro c hc
    simp only [flat,List.flatMap_cons,List.mem_append] at hc
    rcases hc with hc | hc
    ·exact imL_mem h3 c hc
    ·exact q3 c hc
theorem ltD_sound {st:Sto} {B:List Nat} {d:Nat→Prop} {ρ:Nat→Option Nat}:∀ {n:Nat} {x y:T},ltD st B n x y→Lt st d ρ B x y
 | 0,x,y,h=>by obtain ⟨rfl,h⟩:=h;exact .im _ h
 | n + 1,x,y,h=>by
   unfold ltD at h
   split at h
   ·rename_i k ys
    split at h
    ·rename_i i m
     obtain ⟨h1,h2⟩:=h
     split at h2
     ·rename_i k' xs fz hg
      obtain ⟨rfl,rfl,h3⟩:=h2
      obtain ⟨q1,q2,q3⟩:=ptw_flat h3
      exact .shut _ _ _ _ _ fz h1 hg rfl (ptw_get h3).1.symm q2 (fun j c c' hc hc'=>ltD_sound ((ptw_get q1).2 j c c' hc hc')) q3
     ·exact h2.elim
    ·subst h;exact .nil k
    ·subst h;exact .im _ rfl
   ·obtain ⟨rfl,h⟩:=h;exact .im _ h
theorem ltAD_sound {st:Sto} {B:List Nat} {d:Nat→Prop} {ρ:Nat→Option Nat} {x y:T} (h:ltAD st B x y):Lt st d ρ B x y:=by
 unfold ltAD at h
 split at h
 ·split at h
  ·obtain ⟨h1,h2⟩:=ptw_get h
   exact .agg _ _ h1 fun j c c' hc hc'=>ltD_sound (h2 j c c' hc hc')
  ·exact h.elim
 ·exact ltD_sound h
theorem CallP.ofL {fid:FuncId} {caps xs ts':List T} {r val:T} (ρ1 ρ2:Ren) (B:List Nat) (wr:List (Nat×Ob)) (hs:Spc P fid ts' st1 r st1')
 (hes:(xs ++ caps).length = ts'.length∧∀ (j:Nat) (c c':T),(xs ++ caps)[j]? = some c→ts'[j]? = some c'→Lt st (fun i=>TL.get st1 i≠none) (rho ρ1) B c c') (h1:renOk st1 ρ1 = true) (ho:ltSto st ρ1 B st1) (hB:(B.all fun i=>!(ρ1.map (·.2)).contains (some i)) = true)
 (hk:(ρ1.all fun p=>match p.2 with | some i=>(TL.get wr i).isSome | none=>true) = true)
 (hw:wrOk st st1 st1' ρ1 ρ2 wr) (h2:renOk wr ρ2 = true) (h3:allSome ρ2 = true) (hv:ltT st1' ρ2 [] r val)
 (hf:fzOk (wr ++ st) B = true∨(noA2 val = true∧noA1s wr ρ2 = true)):CallP P st (.clo fid caps) xs val wr (B ++ wr.map (·.1)):=by
 have d1:∀ i x,TL.get ρ1 i = some x→TL.get st1 i≠none:=fun _ _ h=>ren_has h1 h
 have d2:∀ i x,TL.get ρ2 i = some x→TL.get wr i≠none∧rho ρ2 i≠none:=fun i x h=>⟨ren_has h2 h,by
  obtain ⟨j,rfl⟩:=allSome_get h3 h
  rw [rho_some.2 h];simp⟩
 refine .inl ⟨fid,caps,ts',st1,st1',r,rho ρ1,rho ρ2,B,rfl,hs,?_⟩
 refine ⟨hes.1,hes.2,(lesOf (e:={ S:=fun _=>False,base:=0,hnd:=fun _=>False,w0:=default,n:=1,st0:=[] }) (fr:=[]) (fr':=[]) h1 rfl ho trivial).o,fun id hid=>⟨by simp [hid],fun id' hd hr=>?_⟩,fun id' id hd hr=>?_,fun id ob hg=>?_,fun i1 i2 id' _ _ g1 g2=>rho_inj h2 g1 g2,ltT_sound d2 hv,?_⟩
 ·have h5:=List.all_eq_true.1 hB id hid
  rw [contains_of hr] at h5
  simp at h5
 ·have h5:=List.all_eq_true.1 hk _ (get_mem (rho_some.1 hr))
  intro hn
  simp [hn] at h5
 ·refine ⟨by simp only [List.mem_append,List.mem_map];exact .inr ⟨_,get_mem hg,rfl⟩,?_⟩
  cases ob with
  | dead=>exact .inl rfl
  | mp es=>exact (wrOk_nm hw hg).elim
  | full i n g=>exact (wrOk_nf hw hg).elim
  | arr k ys fz=>
    have h5:=wrOk_get hw hg
    unfold wrO at h5
    split at h5
    ·rename_i h6
     obtain ⟨rfl,h7,h8⟩:=h5
     split at h7
     ·rename_i k0 x0 f0 hg0
      obtain ⟨rfl,rfl⟩:=h7
      refine .inr (.inl ⟨_,_,f0,rfl,hg0,by simp [rho,h6],fun id' hd hr=>?_⟩)
      exact h8 _ (get_mem (rho_some.1 hr)) rfl
     ·exact h7.elim
    ·rename_i i' h6
     obtain ⟨h7,h8⟩:=h5
     unfold ltO1 at h7
     split at h7
     ·rename_i k0 xs f0 hg0
      obtain ⟨rfl,h9,h10,h11⟩:=h7
      obtain ⟨h12,h13⟩:=ltXs_flat h10 d2
      refine .inr (.inr ⟨k0,ys,fz,i',xs,f0,rfl,rho_some.2 h6,hg0,h10.1,h9,h12,h13,?_⟩)
      rcases h8 with h8 | ⟨h8,h14⟩
      ·exact .inl h8
      ·refine .inr ⟨rho_some.2 h8,?_⟩
       intro hn;simp [hn] at h14
     ·exact h7.elim
    ·exact h5.elim
 ·rcases hf with hf | ⟨hf,hg⟩
  ·exact .inl (fzOk_mem hf)
  ·exact .inr ⟨hf,fun id k xs fz hw0 hr=>noA1s_get hg hw0 hr⟩
theorem CallP.of {fid:FuncId} {caps xs ts':List T} {r val:T} (ρ1 ρ2:Ren) (B:List Nat) (wr:List (Nat×Ob)) (hs:Spc P fid ts' st1 r st1')
 (ha:ltAs st ρ1 B (xs ++ caps) ts') (h1:renOk st1 ρ1 = true) (ho:ltSto st ρ1 B st1) (hB:(B.all fun i=>!(ρ1.map (·.2)).contains (some i)) = true)
 (hk:(ρ1.all fun p=>match p.2 with | some i=>(TL.get wr i).isSome | none=>true) = true)
 (hw:wrOk st st1 st1' ρ1 ρ2 wr) (h2:renOk wr ρ2 = true) (h3:allSome ρ2 = true) (hv:ltT st1' ρ2 [] r val)
 (hf:fzOk (wr ++ st) B = true∨(noA2 val = true∧noA1s wr ρ2 = true)):CallP P st (.clo fid caps) xs val wr (B ++ wr.map (·.1)):=
 .ofL ρ1 ρ2 B wr hs (ltAs_sound (fun _ _ h=>ren_has h1 h) ha) h1 ho hB hk hw h2 h3 hv hf
theorem ltC_im {st:Sto} {ρ:Ren} {B:List Nat} {x:T} (h:imT x = true):ltC st ρ B x x:=by
 exact ltC_im0 h
theorem ltCs_im {st:Sto} {ρ:Ren} {B:List Nat}:∀ {l:List T},imL l = true→ltCs st ρ B l l
 | [],_=>trivial
 | c :: r,h=>by
   simp only [imL,Bool.and_eq_true] at h
   exact ⟨ltC_im h.1,ltCs_im h.2⟩
theorem ltA_im {st:Sto} {ρ:Ren} {B:List Nat} {x:T} (h:imA x = true):ltA st ρ B x x:=by
 cases x with
 | agg cs=>exact ltCs_im h
 | clo f cs=>exact ⟨rfl,ltCs_im h⟩
 | tup cs=>simp [imA,imT,imT0] at h
 | junk=>trivial
 | v a=>exact ltC_im (st:=st) (ρ:=ρ) (B:=B) (x:=.v a) h
 | sl k xs=>exact ltC_im (st:=st) (ρ:=ρ) (B:=B) (x:=.sl k xs) h
 | ptr a b c d=>exact ltC_im (st:=st) (ρ:=ρ) (B:=B) (x:=.ptr a b c d) h
 | ip cs=>exact ltC_im (st:=st) (ρ:=ρ) (B:=B) (x:=.ip cs) h
 | asl a b=>exact ltC_im (st:=st) (ρ:=ρ) (B:=B) (x:=.asl a b) h
 | ub a b=>exact ltC_im (st:=st) (ρ:=ρ) (B:=B) (x:=.ub a b) h
 | vw a b c d=>exact ltC_im (st:=st) (ρ:=ρ) (B:=B) (x:=.vw a b c d) h
 | mp a=>exact ltC_im (st:=st) (ρ:=ρ) (B:=B) (x:=.mp a) h
theorem ltAs_im {st:Sto} {ρ:Ren} {B:List Nat}:∀ {l:List T},imAL l = true→ltAs st ρ B l l
 | [],_=>trivial
 | c :: r,h=>by
   simp only [imAL,Bool.and_eq_true] at h
   exact ⟨ltA_im h.1,ltAs_im h.2⟩
theorem ltT_im {st:Sto} {ρ:Ren} {B:List Nat} {x:T} (h:imTup x = true):ltT st ρ B x x:=by
 cases x with
 | tup cs=>exact ltAs_im h
 | agg cs=>exact ltA_im (st:=st) (ρ:=ρ) (B:=B) (x:=.agg cs) h
 | clo f cs=>exact ltA_im (st:=st) (ρ:=ρ) (B:=B) (x:=.clo f cs) h
 | junk=>trivial
 | v a=>exact ltA_im (st:=st) (ρ:=ρ) (B:=B) (x:=.v a) h
 | sl k xs=>exact ltA_im (st:=st) (ρ:=ρ) (B:=B) (x:=.sl k xs) h
 | ptr a b c d=>exact ltA_im (st:=st) (ρ:=ρ) (B:=B) (x:=.ptr a b c d) h
 | ip cs=>exact ltA_im (st:=st) (ρ:=ρ) (B:=B) (x:=.ip cs) h
 | asl a b=>exact ltA_im (st:=st) (ρ:=ρ) (B:=B) (x:=.asl a b) h
 | ub a b=>exact ltA_im (st:=st) (ρ:=ρ) (B:=B) (x:=.ub a b) h
 | vw a b c d=>exact ltA_im (st:=st) (ρ:=ρ) (B:=B) (x:=.vw a b c d) h
 | mp a=>exact ltA_im (st:=st) (ρ:=ρ) (B:=B) (x:=.mp a) h
variable {e:Env} {kss:List (Nat×List Nat)} {Q:Ex→St→Prop} {K:List KF} {rows:Option (List Nat)} {ks:List Nat} {nid:Nat} {ops:List ROp} {F:XF} {acc:Acc}
theorem C1.of {fid:FuncId} {caps xs ts':List T} {r val:T} {d:Option Nat} (ρ1 ρ2:Ren) (B:List Nat) (wr:List (Nat×Ob)) (hs:Spc P fid ts' st1 r st1')
 (ha:ltAs st ρ1 B (xs ++ caps) ts') (h1:renOk st1 ρ1 = true) (ho:ltSto st ρ1 B st1) (hB:(B.all fun i=>!(ρ1.map (·.2)).contains (some i)) = true)
 (hk:(ρ1.all fun p=>match p.2 with | some i=>(TL.get wr i).isSome | none=>true) = true)
 (hw:wrOk st st1 st1' ρ1 ρ2 wr) (h2:renOk wr ρ2 = true) (h3:allSome ρ2 = true) (hv:ltT st1' ρ2 [] r val)
 (hf:fzOk (wr ++ st) B = true∨(noA2 val = true∧noA1s wr ρ2 = true))
 (h:R P e kss Q rows ks K nid ops (putX F d (.p val)) (stUp st wr) (acc ++ [(B ++ wr.map (·.1),wr.map (·.1))])):C1 P e kss Q rows ks K (.clo fid caps) xs d nid ops F st acc:=
 ⟨val,wr,_,.of ρ1 ρ2 B wr hs ha h1 ho hB hk hw h2 h3 hv hf,h⟩
theorem C2.of {L:List (Nat×Bool)} {c:Prop} {fid:FuncId} {caps xs ts':List T} {r val:T} {d:Option Nat} (ρ1:Ren) (B:List Nat) (hs:c→Spc P fid ts' st1 r st1')
 (ha:c→ltAs st ρ1 B (xs ++ caps) ts') (h1:renOk st1 ρ1 = true) (ho:c→ltSto st ρ1 B st1) (hB:(B.all fun i=>!(ρ1.map (·.2)).contains (some i)) = true)
 (hk:(ρ1.all fun p=>match p.2 with | some _=>false | none=>true) = true) (hv:c→ltT st1' [] [] r val)
 (hf:c→fzOk st B = true∨noA2 val = true)
 (h:R P e kss Q rows ks K nid ops (putX F d (.g L c val)) st (acc ++ [(B ++ [],[])])):C2 P e kss Q rows ks K L c (.clo fid caps) xs d nid ops F st acc:=
 ⟨val,[],_,fun hc=>.of ρ1 [] B [] (hs hc) (ha hc) h1 (ho hc) hB (List.all_eq_true.2 fun p hp=>by
   have:=List.all_eq_true.1 hk p hp
   split <;> simp_all) trivial rfl rfl (hv hc) (by rcases hf hc with h | h;exact .inl h;exact .inr ⟨h,rfl⟩),.inl ⟨rfl,h⟩⟩
theorem C1.lend {fid:FuncId} {caps xs ts':List T} {r:T} {d:Option Nat} (B:List Nat) (hs:Spc P fid ts' [] r [])
 (ha:ltAs st [] B (xs ++ caps) ts') (h2:imTup r = true) (h3:noA2 r = true)
 (h:R P e kss Q rows ks K nid ops (putX F d (.p r)) st (acc ++ [(B ++ [],[])])):C1 P e kss Q rows ks K (.clo fid caps) xs d nid ops F st acc:=
 .of [] [] B [] hs ha rfl trivial (by simp) rfl trivial rfl rfl (ltT_im h2) (.inr ⟨h3,rfl⟩) h
theorem C2.lend {L:List (Nat×Bool)} {c:Prop} {fid:FuncId} {caps xs ts':List T} {r:T} {d:Option Nat} (B:List Nat) (hs:c→Spc P fid ts' [] r [])
 (ha:c→ltAs st [] B (xs ++ caps) ts') (h2:imTup r = true) (h3:noA2 r = true)
 (h:R P e kss Q rows ks K nid ops (putX F d (.g L c r)) st (acc ++ [(B ++ [],[])])):C2 P e kss Q rows ks K L c (.clo fid caps) xs d nid ops F st acc:=
 .of [] B hs ha rfl (fun _=>trivial) (by simp) rfl (fun _=>ltT_im h2) (fun _=>.inr h3) h
theorem ptwA {st:Sto} {B:List Nat} {d:Nat→Prop} {ρ:Nat→Option Nat} {xs ys:List T} (h:ptw (ltAD st B) xs ys):xs.length = ys.length∧∀ (j:Nat) (c c':T),xs[j]? = some c→ys[j]? = some c'→Lt st d ρ B c c':=
 ⟨(ptw_get h).1,fun j c c' hc hc'=>ltAD_sound ((ptw_get h).2 j c c' hc hc')⟩
end
end Go.TL
namespace Go.TL
set_option linter.unusedSimpArgs false
theorem tl:type_of% (
And.intro @W_skip (And.intro @W_exit (And.intro @W_ret (And.intro @W_stuck (And.intro @W_seq (And.intro @W_block (And.intro @W_cond (And.intro @BR_bool (And.intro @W_reg (And.intro @X_nil (And.intro @X_seq (And.intro @X_seq_exit (And.intro @X_seq_ret (And.intro @X_block (And.intro @X_block_ret (And.intro @X_block_exit (And.intro @R_nil (And.intro @E1_none (And.intro @E1_some (And.intro @R_op (And.intro @O1_op (And.intro @O1_call (And.intro @R_guard (And.intro @S1_some (And.intro @G1_op (And.intro @O2_op (And.intro @O2_call (And.intro @G2_pure (And.intro @G2_wr (And.intro @mrg_t (And.intro @mrg_f (And.intro @LQ_normal (And.intro @LQ_exit (And.intro @LQ_ret (And.intro @get_nil' (And.intro @get_cons' (And.intro @putX_some (And.intro @putX_none (And.intro @keepX_nil (And.intro @keepX_cons (And.intro @keep1_p (And.intro @keep1_g (And.intro @keep1_none (And.intro @accX_k (And.intro @accX_t (And.intro @rdE_p (And.intro @rdE_none (And.intro @rdE_g (And.intro @labX_eq (And.intro @labE_p (And.intro @labE_g (And.intro @on1_some (And.intro @on2_some (And.intro @doX_mv (And.intro @doX_new (And.intro @doX_box (And.intro @doX_ld (And.intro @doX_st (And.intro @doX_nc (And.intro @doX_bin (And.intro @doX_un (And.intro @doX_cvI (And.intro @doX_cvSS (And.intro @doX_cvSB (And.intro @doX_cvBS (And.intro @doX_mk (And.intro @doX_fa (And.intro @doX_fld (And.intro @doX_ixL (And.intro @doX_ixA (And.intro @doX_sx (And.intro @doX_ex (And.intro @doX_lenS (And.intro @doX_lenL (And.intro @doX_app (And.intro @doX_pick (And.intro @pickX_some (And.intro @sideL_t (And.intro @sideL_k (And.intro @rhoX_k (And.intro @rhoX_t (And.intro @rv_t (And.intro @rv_k (And.intro @accAll_nil (And.intro @accAll_cons (And.intro @bin_int (And.intro @bin_str (And.intro @bin_eql (And.intro @bin_neq (And.intro @cvI_int (And.intro @mrg_bool (And.intro @mrg_int (And.intro @bif_and (And.intro @bif_or (And.intro @bin_shl (And.intro @bin_shr (And.intro @doX_ext (And.intro @ext_cvB (And.intro @cvBO_arr (And.intro @ext_clr_vw (And.intro @ext_clr_asl (And.intro @clrO_arr (And.intro @ext_cpy_vw (And.intro @ext_cpy_asl (And.intro @cpyO_arr (And.intro @cpyO_arr0 (And.intro @ext_eqS (And.intro @eqSE_t (And.intro @eqSE_f (And.intro @eqVs_nil (And.intro @eqVs_cons (And.intro @eqAnd_some (And.intro @eqV_b (And.intro @eqV_i (And.intro @eqV_s (And.intro @ext_slZ (And.intro @slZE_some (And.intro @ext_nilq_sl (And.intro @ext_nilq_nil (And.intro @ext_nilq_asl (And.intro @nilqE_some (And.intro @BR_ub (And.intro @W_scope (And.intro @doX_bsl (And.intro @doX_mf (And.intro @doX_mn (And.intro @doX_mx (And.intro @doX_lenA (And.intro @doX_build (And.intro @doX_slS (And.intro @doX_slL (And.intro @allS_nil (And.intro @allS_cons (And.intro @consS_some (And.intro @onS_some (And.intro @zipP_nil (And.intro @zipP_cons (And.intro @buildE_some (And.intro @optX_none (And.intro @optX_some (And.intro @ownS_some (And.intro @on3_some (And.intro @ldR_ptr (And.intro @ldO_arr (And.intro @ldR_ip (And.intro @stR_ptr (And.intro @stO_arr (And.intro @validId_eq (And.intro @vld_arr (And.intro @nc_ptr (And.intro @nc_ip (And.intro @nc_clo (And.intro @fa_ptr (And.intro @fa_ip (And.intro @fld_agg (And.intro @ixL_sl (And.intro @ixL_asl (And.intro @ixO_arr (And.intro @ixL_vw (And.intro @ixV_arr (And.intro @ixA_ptr (And.intro @ixA_ip (And.intro @sx_str (And.intro @lenS_str (And.intro @lenL_asl (And.intro @lenL_vw (And.intro @lenL_sl (And.intro @lenL_nil (And.intro @cvSS_str (And.intro @cvSB_str (And.intro @cvBS_eq (And.intro @cvBSE_some (And.intro @con_sl (And.intro @con_nil (And.intro @con_asl (And.intro @conO_arr (And.intro @con_vw (And.intro @conV_arr (And.intro @conS_sl (And.intro @conS_v (And.intro @conS_asl (And.intro @conS_vw (And.intro @mk_int (And.intro @appY_true (And.intro @appY_false (And.intro @app_eq (And.intro @app_asl (And.intro @app_asl0 (And.intro @appO_arr (And.intro @app_vw (And.intro @app_vw0 (And.intro @appV_arr (And.intro @app_nil (And.intro @app_nil0 (And.intro @bnd_none (And.intro @bnd_int (And.intro @slS_eq (And.intro @slS2_str (And.intro @slL_eq (And.intro @slL2_sl (And.intro @slL2_nil (And.intro @slL2_asl (And.intro @slO_arr (And.intro @slV_arr (And.intro @slL2_vw (And.intro @low_none (And.intro @low_some (And.intro @high_none (And.intro @high_some (And.intro @part_none (And.intro @part_some (And.intro @need_none (And.intro @need_some (And.intro @cells_v (And.intro @cells_sl (And.intro @cells_asl (And.intro @cells_vw (And.intro @repl_vw (And.intro @replOk_vw (And.intro @cells_ptr (And.intro @cells_ip (And.intro @cells_clo (And.intro @cells_agg (And.intro @repl_agg (And.intro @repl_v (And.intro @repl_sl (And.intro @repl_asl (And.intro @replOk_agg (And.intro @replOk_v (And.intro @replOk_sl (And.intro @replOk_asl (And.intro @lives_nil (And.intro @lives_cons (And.intro @live_v (And.intro @live_sl (And.intro @live_ip (And.intro @live_clo (And.intro @live_asl (And.intro @live_vw (And.intro @live_ptr (And.intro @allLv_nil (And.intro @allLv_cons (And.intro @one_int (And.intro @one_bool (And.intro @one_str (And.intro @one_slice (And.intro @stUp_nil (And.intro @stUp_cons (And.intro @put1_nil (And.intro @put1_cons (And.intro @tget_some (@tget_succ)))))))))))))))))))))))))))))))))))))))))))))))))))))))))))))))))))))))))))))))))))))))))))))))))))))))))))))))))))))))))))))))))))))))))))))))))))))))))))))))))))))))))))))))))))))))))))))))))))))))))))))))))))))))))))))))))))))))))))))))))))))))))))):=And.intro @W_skip (And.intro @W_exit (And.intro @W_ret (And.intro @W_stuck (And.intro @W_seq (And.intro @W_block (And.intro @W_cond (And.intro @BR_bool (And.intro @W_reg (And.intro @X_nil (And.intro @X_seq (And.intro @X_seq_exit (And.intro @X_seq_ret (And.intro @X_block (And.intro @X_block_ret (And.intro @X_block_exit (And.intro @R_nil (And.intro @E1_none (And.intro @E1_some (And.intro @R_op (And.intro @O1_op (And.intro @O1_call (And.intro @R_guard (And.intro @S1_some (And.intro @G1_op (And.intro @O2_op (And.intro @O2_call (And.intro @G2_pure (And.intro @G2_wr (And.intro @mrg_t (And.intro @mrg_f (And.intro @LQ_normal (And.intro @LQ_exit (And.intro @LQ_ret (And.intro @get_nil' (And.intro @get_cons' (And.intro @putX_some (And.intro @putX_none (And.intro @keepX_nil (And.intro @keepX_cons (And.intro @keep1_p (And.intro @keep1_g (And.intro @keep1_none (And.intro @accX_k (And.intro @accX_t (And.intro @rdE_p (And.intro @rdE_none (And.intro @rdE_g (And.intro @labX_eq (And.intro @labE_p (And.intro @labE_g (And.intro @on1_some (And.intro @on2_some (And.intro @doX_mv (And.intro @doX_new (And.intro @doX_box (And.intro @doX_ld (And.intro @doX_st (And.intro @doX_nc (And.intro @doX_bin (And.intro @doX_un (And.intro @doX_cvI (And.intro @doX_cvSS (And.intro @doX_cvSB (And.intro @doX_cvBS (And.intro @doX_mk (And.intro @doX_fa (And.intro @doX_fld (And.intro @doX_ixL (And.intro @doX_ixA (And.intro @doX_sx (And.intro @doX_ex (And.intro @doX_lenS (And.intro @doX_lenL (And.intro @doX_app (And.intro @doX_pick (And.intro @pickX_some (And.intro @sideL_t (And.intro @sideL_k (And.intro @rhoX_k (And.intro @rhoX_t (And.intro @rv_t (And.intro @rv_k (And.intro @accAll_nil (And.intro @accAll_cons (And.intro @bin_int (And.intro @bin_str (And.intro @bin_eql (And.intro @bin_neq (And.intro @cvI_int (And.intro @mrg_bool (And.intro @mrg_int (And.intro @bif_and (And.intro @bif_or (And.intro @bin_shl (And.intro @bin_shr (And.intro @doX_ext (And.intro @ext_cvB (And.intro @cvBO_arr (And.intro @ext_clr_vw (And.intro @ext_clr_asl (And.intro @clrO_arr (And.intro @ext_cpy_vw (And.intro @ext_cpy_asl (And.intro @cpyO_arr (And.intro @cpyO_arr0 (And.intro @ext_eqS (And.intro @eqSE_t (And.intro @eqSE_f (And.intro @eqVs_nil (And.intro @eqVs_cons (And.intro @eqAnd_some (And.intro @eqV_b (And.intro @eqV_i (And.intro @eqV_s (And.intro @ext_slZ (And.intro @slZE_some (And.intro @ext_nilq_sl (And.intro @ext_nilq_nil (And.intro @ext_nilq_asl (And.intro @nilqE_some (And.intro @BR_ub (And.intro @W_scope (And.intro @doX_bsl (And.intro @doX_mf (And.intro @doX_mn (And.intro @doX_mx (And.intro @doX_lenA (And.intro @doX_build (And.intro @doX_slS (And.intro @doX_slL (And.intro @allS_nil (And.intro @allS_cons (And.intro @consS_some (And.intro @onS_some (And.intro @zipP_nil (And.intro @zipP_cons (And.intro @buildE_some (And.intro @optX_none (And.intro @optX_some (And.intro @ownS_some (And.intro @on3_some (And.intro @ldR_ptr (And.intro @ldO_arr (And.intro @ldR_ip (And.intro @stR_ptr (And.intro @stO_arr (And.intro @validId_eq (And.intro @vld_arr (And.intro @nc_ptr (And.intro @nc_ip (And.intro @nc_clo (And.intro @fa_ptr (And.intro @fa_ip (And.intro @fld_agg (And.intro @ixL_sl (And.intro @ixL_asl (And.intro @ixO_arr (And.intro @ixL_vw (And.intro @ixV_arr (And.intro @ixA_ptr (And.intro @ixA_ip (And.intro @sx_str (And.intro @lenS_str (And.intro @lenL_asl (And.intro @lenL_vw (And.intro @lenL_sl (And.intro @lenL_nil (And.intro @cvSS_str (And.intro @cvSB_str (And.intro @cvBS_eq (And.intro @cvBSE_some (And.intro @con_sl (And.intro @con_nil (And.intro @con_asl (And.intro @conO_arr (And.intro @con_vw (And.intro @conV_arr (And.intro @conS_sl (And.intro @conS_v (And.intro @conS_asl (And.intro @conS_vw (And.intro @mk_int (And.intro @appY_true (And.intro @appY_false (And.intro @app_eq (And.intro @app_asl (And.intro @app_asl0 (And.intro @appO_arr (And.intro @app_vw (And.intro @app_vw0 (And.intro @appV_arr (And.intro @app_nil (And.intro @app_nil0 (And.intro @bnd_none (And.intro @bnd_int (And.intro @slS_eq (And.intro @slS2_str (And.intro @slL_eq (And.intro @slL2_sl (And.intro @slL2_nil (And.intro @slL2_asl (And.intro @slO_arr (And.intro @slV_arr (And.intro @slL2_vw (And.intro @low_none (And.intro @low_some (And.intro @high_none (And.intro @high_some (And.intro @part_none (And.intro @part_some (And.intro @need_none (And.intro @need_some (And.intro @cells_v (And.intro @cells_sl (And.intro @cells_asl (And.intro @cells_vw (And.intro @repl_vw (And.intro @replOk_vw (And.intro @cells_ptr (And.intro @cells_ip (And.intro @cells_clo (And.intro @cells_agg (And.intro @repl_agg (And.intro @repl_v (And.intro @repl_sl (And.intro @repl_asl (And.intro @replOk_agg (And.intro @replOk_v (And.intro @replOk_sl (And.intro @replOk_asl (And.intro @lives_nil (And.intro @lives_cons (And.intro @live_v (And.intro @live_sl (And.intro @live_ip (And.intro @live_clo (And.intro @live_asl (And.intro @live_vw (And.intro @live_ptr (And.intro @allLv_nil (And.intro @allLv_cons (And.intro @one_int (And.intro @one_bool (And.intro @one_str (And.intro @one_slice (And.intro @stUp_nil (And.intro @stUp_cons (And.intro @put1_nil (And.intro @put1_cons (And.intro @tget_some (@tget_succ)))))))))))))))))))))))))))))))))))))))))))))))))))))))))))))))))))))))))))))))))))))))))))))))))))))))))))))))))))))))))))))))))))))))))))))))))))))))))))))))))))))))))))))))))))))))))))))))))))))))))))))))))))))))))))))))))))))))))))))))))))))))))))
theorem tl2:type_of% (
And.intro @Option.getD_some.{0} (And.intro @Option.isSome_some.{0} (And.intro @List.map_cons.{0,0} (And.intro @List.map_nil.{0,0} (And.intro @List.all_cons.{0} (And.intro @List.all_nil.{0} (And.intro @List.contains_cons.{0} (And.intro @List.contains_nil.{0} (And.intro @Bool.and_true (And.intro @Bool.true_and (And.intro @Bool.and_self (And.intro @Bool.or_true (And.intro @Bool.true_or (And.intro @Bool.or_false (And.intro @Bool.false_or (And.intro @true_and (And.intro @and_true (And.intro @BEq.rfl.{0} (And.intro @forall_const.{0} (And.intro @true_implies (And.intro @implies_true.{0} (And.intro @cond_true.{1} (And.intro @cond_false.{1} (And.intro @Bool.true_eq_false (And.intro @Bool.false_eq_true (And.intro @false_implies (And.intro @Bool.not_true (And.intro @Bool.not_false (And.intro @List.append_nil.{0} (And.intro @eq_self.{1} (And.intro @imp_self (And.intro @Bool.not_eq_true' (And.intro @int_ge (And.intro @and_false (And.intro @false_and (And.intro @or_false (And.intro @false_or (And.intro @List.length_cons.{0} (And.intro @List.length_nil.{0} (And.intro @List.length_map.{0,0} (And.intro @List.length_append.{0} (@and_self)))))))))))))))))))))))))))))))))))))))))):=And.intro @Option.getD_some.{0} (And.intro @Option.isSome_some.{0} (And.intro @List.map_cons.{0,0} (And.intro @List.map_nil.{0,0} (And.intro @List.all_cons.{0} (And.intro @List.all_nil.{0} (And.intro @List.contains_cons.{0} (And.intro @List.contains_nil.{0} (And.intro @Bool.and_true (And.intro @Bool.true_and (And.intro @Bool.and_self (And.intro @Bool.or_true (And.intro @Bool.true_or (And.intro @Bool.or_false (And.intro @Bool.false_or (And.intro @true_and (And.intro @and_true (And.intro @BEq.rfl.{0} (And.intro @forall_const.{0} (And.intro @true_implies (And.intro @implies_true.{0} (And.intro @cond_true.{1} (And.intro @cond_false.{1} (And.intro @Bool.true_eq_false (And.intro @Bool.false_eq_true (And.intro @false_implies (And.intro @Bool.not_true (And.intro @Bool.not_false (And.intro @List.append_nil.{0} (And.intro @eq_self.{1} (And.intro @imp_self (And.intro @Bool.not_eq_true' (And.intro @int_ge (And.intro @and_false (And.intro @false_and (And.intro @or_false (And.intro @false_or (And.intro @List.length_cons.{0} (And.intro @List.length_nil.{0} (And.intro @List.length_map.{0,0} (And.intro @List.length_append.{0} (@and_self)))))))))))))))))))))))))))))))))))))))))
theorem tl4:type_of% (
And.intro @bin_u (And.intro @ext_mkm (And.intro @em_ii (And.intro @em_ib (And.intro @em_si (And.intro @em_sb (And.intro @ext_mget (And.intro @mgO_ii_t (And.intro @mgO_ii_f (And.intro @mgO_ib_t (And.intro @mgO_ib_f (And.intro @mgO_si_t (And.intro @mgO_si_f (And.intro @mgO_sb_t (And.intro @mgO_sb_f (And.intro @ext_mput (And.intro @mpO_ii (And.intro @mpO_ib (And.intro @mpO_si (And.intro @mpO_sb (And.intro @capK_eq (And.intro @ext_capq (And.intro @cpO_full (And.intro @ext_appM (And.intro @amO_full (And.intro @ext_sl3a (And.intro @ext_sl3b (@s3E_some)))))))))))))))))))))))))))):=And.intro @bin_u (And.intro @ext_mkm (And.intro @em_ii (And.intro @em_ib (And.intro @em_si (And.intro @em_sb (And.intro @ext_mget (And.intro @mgO_ii_t (And.intro @mgO_ii_f (And.intro @mgO_ib_t (And.intro @mgO_ib_f (And.intro @mgO_si_t (And.intro @mgO_si_f (And.intro @mgO_sb_t (And.intro @mgO_sb_f (And.intro @ext_mput (And.intro @mpO_ii (And.intro @mpO_ib (And.intro @mpO_si (And.intro @mpO_sb (And.intro @capK_eq (And.intro @ext_capq (And.intro @cpO_full (And.intro @ext_appM (And.intro @amO_full (And.intro @ext_sl3a (And.intro @ext_sl3b (@s3E_some)))))))))))))))))))))))))))
end Go.TL
namespace Go.TL
set_option linter.unusedSimpArgs false
set_option linter.unusedVariables false
abbrev vL (bs:List UInt8):T:=.sl 1 (bs.map byteT)
def u8 (n:Int):UInt8:=UInt8.ofNat (n % 256).toNat
theorem u8_nat (n:Int):((u8 n).toNat:Int) = n % 256:=by
 unfold u8
 have h:(n % 256).toNat < 256:=by omega
 rw [UInt8.toNat_ofNat']
 omega
theorem byte_lt (b:UInt8):(b.toNat:Int) < 256:=by have:=b.toNat_lt;omega
theorem cells_byte {b:UInt8}:(byteT b).cells = [byteT b]:=rfl
theorem live_byte {st:Sto} {b:UInt8}:live st (byteT b) = True:=by simp [byteT,live,Value.oneCell']
theorem getD_bytes {bs:List UInt8} {i:Nat} (h:i < bs.length):(bs.map byteT).getD i .junk = .v (.int .u8 (bs.getD i 0).toNat):=by
 simp [List.getD,List.getElem?_eq_getElem h,byteT]
theorem unbyte_bytes (bs:List UInt8):(bs.map byteT).map unbyte = bs:=by
 induction bs with
 | nil=>rfl
 | cons b r ih=>
   simp only [List.map_cons,ih]
   congr 1
   simp [byteT,unbyte]
theorem isByte_bytes {bs:List UInt8}:∀ y∈bs.map byteT,isByte y = true:=by
 intro y hy
 obtain ⟨b,_,rfl⟩:=List.mem_map.1 hy
 rfl
theorem allB_bytes {bs:List UInt8}:(∀ y∈bs.map byteT,isByte y = true) = True:=eq_true isByte_bytes
theorem allIm_map {α:Type} {f:α→T} (h:∀ a,imL (f a).cells = true) (l:List α):allIm (l.map f):=by
 intro x hx c hc
 obtain ⟨a,_,rfl⟩:=List.mem_map.1 hx
 exact imL_mem (h a) c hc
theorem allIm_bytes {bs:List UInt8}:allIm (bs.map byteT) = True:=eq_true (allIm_map (fun _=>rfl) bs)
theorem cut_map {α β:Type} (f:α→β) (a b:Int) (l:List α):cutT a b (l.map f) = (cutT a b l).map f:=by
 simp [cutT,List.map_take,List.map_drop]
theorem cut_to {α:Type} {b:Nat} {l:List α}:cutT 0 (b:Int) l = l.take b:=by simp [cutT]
theorem ImXs_nil {k:Nat}:ImXs k [] = True:=by simp [ImXs]
theorem Spc.weaken {P:Program} {f:FuncId} {ts:List T} {st st' st2:Sto} {r r2:T} (h:Spc P f ts st r st') (hl:EndOk st r st' r2 st2):Spc P f ts st r2 st2:=by
 refine ⟨h.1,h.2.1,fun S ι w vals hR=>(h.2.2 S ι w vals hR).mono ?_⟩
 rintro en w' ⟨v,ι',rfl,hp⟩
 obtain ⟨ι2,h2⟩:=hl _ rfl _ _ _ hp
 exact ⟨v,ι2,rfl,h2⟩
abbrev vIs (l:List Int):T:=.sl 1 (l.map vI)
theorem getD_get {α:Type} {l:List α} {i:Nat} {d:α} (h:i < l.length):l.getD i d = l[i]:=by simp [List.getD,h]
theorem ints_v (l:List Int):ImXs 1 (l.map vI):=imXs_map (f:=vI) (fun _=>⟨rfl,rfl⟩) l
def frzC (i:Nat) (o:Option Ob) (l:List (Nat×Ob)):List (Nat×Ob):=match o with
 | some (.arr k xs _)=>(i,.arr k xs true) :: l
 | _=>l
def frz (st:Sto):List Nat→List (Nat×Ob)
 | []=>[]
 | i :: r=>frzC i (TL.get st i) (frz st r)
def isArr (st:Sto) (i:Nat):Bool:=match TL.get st i with | some (.arr ..)=>true | _=>false
theorem frz_nil {st:Sto}:frz st [] = []:=_root_.id rfl
theorem frz_cons {st:Sto} {i:Nat} {r:List Nat}:frz st (i :: r) = frzC i (TL.get st i) (frz st r):=_root_.id rfl
theorem frzC_arr {i k:Nat} {xs:List T} {fz:Bool} {l:List (Nat×Ob)}:frzC i (some (.arr k xs fz)) l = (i,.arr k xs true) :: l:=_root_.id rfl
theorem wrOk_frz {st:Sto}:∀ (B:List Nat),wrOk st [] [] [] [] (frz st B)
 | []=>trivial
 | i :: r=>by
   rw [frz_cons]
   cases h:TL.get st i with
   | none=>exact wrOk_frz r
   | some o=>cases o with
     | dead=>exact wrOk_frz r
     | mp es=>exact wrOk_frz r
     | full i n g=>exact wrOk_frz r
     | arr k xs fz=>
       refine ⟨?_,wrOk_frz r⟩
       simp only [TL.get,wrO,h]
       exact ⟨trivial,⟨trivial,trivial⟩,by simp⟩
theorem get_frz {st:Sto}:∀ (B:List Nat) (i:Nat),i∈B→isArr st i = true→∃ k xs,TL.get (frz st B) i = some (.arr k xs true)
 | [],i,h,_=>by simp at h
 | j :: r,i,h,hi=>by
   rw [frz_cons]
   by_cases hj:j = i
   ·subst hj
    unfold isArr at hi
    split at hi
    ·rename_i k xs fz hg
     rw [hg,frzC_arr]
     exact ⟨k,xs,by simp [TL.get]⟩
    ·cases hi
   ·obtain ⟨k,xs,h3⟩:=get_frz r i (by rcases List.mem_cons.1 h with h | h;exact absurd h.symm hj;exact h) hi
    refine ⟨k,xs,?_⟩
    unfold frzC
    split
    ·simp [TL.get,hj,h3]
    ·exact h3
theorem fzOk_of {wr:Sto}:∀ {B:List Nat},(∀ i∈B,∃ k xs,TL.get wr i = some (.arr k xs true))→fzOk wr B = true
 | [],_=>rfl
 | i :: r,h=>by
   obtain ⟨k,xs,h1⟩:=h i (by simp)
   simp only [fzOk,h1,Bool.true_and]
   exact fzOk_of fun j hj=>h j (by simp [hj])
section
variable {P:Program} {st:Sto} {e:Env} {kss:List (Nat×List Nat)} {Q:Ex→St→Prop} {K:List KF} {rows:Option (List Nat)} {ks:List Nat} {nid:Nat} {ops:List ROp} {F:XF} {acc:Acc}
theorem C1.shut {fid:FuncId} {caps xs ts':List T} {r:T} {d:Option Nat} (B:List Nat) (hs:Spc P fid ts' [] r [])
 (ha:ltAs st [] B (xs ++ caps) ts') (h2:imTup r = true) (hB:B.all (isArr st) = true)
 (h:R P e kss Q rows ks K nid ops (putX F d (.p r)) (stUp st (frz st B)) (acc ++ [(B ++ (frz st B).map (·.1),(frz st B).map (·.1))])):C1 P e kss Q rows ks K (.clo fid caps) xs d nid ops F st acc:=
 .of [] [] B (frz st B) hs ha rfl trivial (by simp) rfl (wrOk_frz B) rfl rfl (ltT_im h2) (.inl (fzOk_of fun i hi=>by
  obtain ⟨k,xs,h3⟩:=get_frz B i hi (List.all_eq_true.1 hB i hi)
  exact ⟨k,xs,by rw [get_append,h3];rfl⟩)) h
theorem C1.shutD {fid:FuncId} {caps xs ts':List T} {r:T} {d:Option Nat} (B:List Nat) (hs:Spc P fid ts' [] r [])
 (ha:ptw (ltAD st B) (xs ++ caps) ts') (h2:imTup r = true) (hB:B.all (isArr st) = true)
 (h:R P e kss Q rows ks K nid ops (putX F d (.p r)) (stUp st (frz st B)) (acc ++ [(B ++ (frz st B).map (·.1),(frz st B).map (·.1))])):C1 P e kss Q rows ks K (.clo fid caps) xs d nid ops F st acc:=
 ⟨r,frz st B,_,.ofL [] [] B (frz st B) hs (ptwA ha) rfl trivial (by simp) rfl (wrOk_frz B) rfl rfl (ltT_im h2) (.inl (fzOk_of fun i hi=>by
   obtain ⟨k,xs,h3⟩:=get_frz B i hi (List.all_eq_true.1 hB i hi)
   exact ⟨k,xs,by rw [get_append,h3];rfl⟩)),h⟩
end
section
variable {st:Sto}
theorem getD_nil' {n:Nat} {d:T}:([]:List T).getD n d = d:=_root_.id rfl
theorem cells_junk:T.junk.cells = [.junk]:=_root_.id rfl
theorem con_junk:conT st .junk = none:=_root_.id rfl
theorem cvBSE_none {p:Prop}:cvBSE none p = none:=_root_.id rfl
theorem bin_junkL {op:BinOp} {ib:Bool} {y:T}:binR op ib .junk y = none:=by cases y <;> rfl
theorem bin_undefL {op:BinOp} {ib:Bool} {y:T}:binR op ib (.v undef) y = none:=by
 cases y <;> first | rfl | (rename_i v;cases v <;> rfl)
theorem fillR_nil {cells:List T}:fillR cells [] = some cells:=_root_.id rfl
theorem fillR_cons {cells:List T} {off n:Nat} {x:T} {r:List ((Nat×Nat)×T)}:fillR cells (((off,n),x) :: r) = if x.cells.length = n∧off + n≤cells.length then fillR (cells.take off ++ x.cells ++ cells.drop (off + n)) r else none:=_root_.id rfl
theorem str_eql {a b:ByteArray}:strT .eql a b = retB (a.toList == b.toList):=_root_.id rfl
theorem str_neq {a b:ByteArray}:strT .neq a b = retB (!(a.toList == b.toList)):=_root_.id rfl
theorem str_add {a b:ByteArray}:strT .add a b = some ⟨a.size + b.size≤9223372036854775807,.v (.string (a ++ b)),[]⟩:=_root_.id rfl
theorem str_gtr {a b:ByteArray}:strT .gtr a b = retB (!(Op.bytesLess a.toList b.toList || a.toList == b.toList)):=_root_.id rfl
theorem str_leq {a b:ByteArray}:strT .leq a b = retB (Op.bytesLess a.toList b.toList || a.toList == b.toList):=_root_.id rfl
theorem str_geq {a b:ByteArray}:strT .geq a b = retB (!Op.bytesLess a.toList b.toList):=_root_.id rfl
theorem str_lss {a b:ByteArray}:strT .lss a b = retB (Op.bytesLess a.toList b.toList):=_root_.id rfl
theorem ex_0 {a:T} {r:List T}:extractT (.tup (a :: r)) 0 = ret a:=_root_.id rfl
theorem ex_1 {a:T} {r:List T} {n:Nat}:extractT (.tup (a :: r)) (n + 1) = extractT (.tup r) n:=by simp [extractT]
theorem mn_2 {a b:Int}:foldT minI [vI a,vI b] = retI .i64 (minI a b):=_root_.id rfl
theorem mx_2 {a b:Int}:foldT maxI [vI a,vI b] = retI .i64 (maxI a b):=_root_.id rfl
theorem tl3:type_of% (And.intro @getD_nil' (And.intro @cells_junk (And.intro @con_junk (And.intro @cvBSE_none (And.intro @bin_junkL (And.intro @bin_undefL (And.intro @G2_none (And.intro @allIm_bytes (And.intro @frz_nil (And.intro @frz_cons (And.intro @frzC_arr (And.intro @fillR_nil (And.intro @fillR_cons (And.intro @str_eql (And.intro @str_neq (And.intro @str_add (And.intro @str_lss (And.intro @str_gtr (And.intro @str_leq (And.intro @str_geq (And.intro @ex_0 (And.intro @ex_1 (And.intro @mn_2 (And.intro @mx_2 (And.intro @ByteArray.toList_mk (And.intro @unbyte_bytes (And.intro @allB_bytes (And.intro @cells_byte (And.intro @live_byte (And.intro @List.take_succ_cons.{0} (And.intro @List.drop_succ_cons.{0} (And.intro @List.take_zero.{0} (And.intro @List.drop_zero.{0} (And.intro @List.take_nil.{0} (And.intro @List.drop_nil.{0} (And.intro @List.cons_append.{0} (And.intro @List.nil_append.{0} (And.intro @Nat.zero_add (And.intro @List.set_cons_zero.{0} (@List.set_cons_succ.{0})))))))))))))))))))))))))))))))))))))))):=
 And.intro @getD_nil' (And.intro @cells_junk (And.intro @con_junk (And.intro @cvBSE_none (And.intro @bin_junkL (And.intro @bin_undefL (And.intro @G2_none (And.intro @allIm_bytes (And.intro @frz_nil (And.intro @frz_cons (And.intro @frzC_arr (And.intro @fillR_nil (And.intro @fillR_cons (And.intro @str_eql (And.intro @str_neq (And.intro @str_add (And.intro @str_lss (And.intro @str_gtr (And.intro @str_leq (And.intro @str_geq (And.intro @ex_0 (And.intro @ex_1 (And.intro @mn_2 (And.intro @mx_2 (And.intro @ByteArray.toList_mk (And.intro @unbyte_bytes (And.intro @allB_bytes (And.intro @cells_byte (And.intro @live_byte (And.intro @List.take_succ_cons.{0} (And.intro @List.drop_succ_cons.{0} (And.intro @List.take_zero.{0} (And.intro @List.drop_zero.{0} (And.intro @List.take_nil.{0} (And.intro @List.drop_nil.{0} (And.intro @List.cons_append.{0} (And.intro @List.nil_append.{0} (And.intro @Nat.zero_add (And.intro @List.set_cons_zero.{0} (@List.set_cons_succ.{0})))))))))))))))))))))))))))))))))))))))
end
end Go.TL
namespace Go.TL
set_option linter.unusedSimpArgs false
set_option linter.unusedVariables false
section
variable {P:Program} {e:Env} {kss:List (Nat×List Nat)} {Q:Ex→St→Prop} {K:List KF} {fr:List (Nat×T)} {st:Sto}
def rm1 (k:Nat):List (Nat×T)→List (Nat×T)
 | []=>[]
 | (t,x) :: r=>if t = k then rm1 k r else (t,x) :: rm1 k r
def rmK:List Nat→List (Nat×T)→List (Nat×T)
 | [],fr=>fr
 | k :: ks,fr=>rm1 k (rmK ks fr)
theorem W_loopF {α:Type} {body:RC} (hm:P.follows .mixedOrders = true) (ks:List Nat) (I:α→Prop) (ch:α→List (Nat×T)) (g:α→Sto) (μ:α→Nat) (x0:α) (h0:I x0) (hs:Le e ⟨fr,st⟩ ⟨ch x0 ++ rmK ks fr,g x0⟩)
 (round:∀ x,I x→W P e kss (LQ P e kss Q K I (fun x=>ch x ++ rmK ks fr) g μ x) body [] (ch x ++ rmK ks fr) (g x)):W P e kss Q (.loop body) K fr st:=
 W_loop hm I (fun x=>ch x ++ rmK ks fr) g μ x0 h0 hs round
end
theorem getD_mapT {α:Type} {f:α→T} {l:List α} {i:Nat} (h:i < l.length):(l.map f).getD i .junk = f l[i]:=by
 rw [getD_get (by simpa using h)];simp
theorem i64_succ {i:Nat} (h:i < 4611686018427387904):IntKind.i64.wrap ((i:Int) + 1) = ((i + 1:Nat):Int):=by
 rw [IntWalk.i64_in _ (by omega)];omega
theorem i64_pred {i:Nat} (h:0 < i) (h2:i < 4611686018427387904):IntKind.i64.wrap ((i:Int) - 1) = ((i - 1:Nat):Int):=by
 rw [IntWalk.i64_in _ (by omega)];omega
theorem ltXs_map {α:Type} {st:Sto} {ρ:Ren} {B:List Nat} {k:Nat} {f:α→T} (h:∀ a,(f a).cells.length = k∧imL (f a).cells = true) (l:List α):ltXs st ρ B k (l.map f) (l.map f):=ltXs_refl (imXs_map h l)
theorem take_snoc {α:Type} {l:List α} {i:Nat} (h:i < l.length):l.take (i + 1) = l.take i ++ [l[i]]:=List.take_succ_eq_append_getElem h
theorem imXs_append {k:Nat} {a b:List T} (h1:ImXs k a) (h2:ImXs k b):ImXs k (a ++ b):=fun x hx=>by
 rcases List.mem_append.1 hx with h | h
 ·exact h1 x h
 ·exact h2 x h
theorem imXs_cons {k:Nat} {x:T} {a:List T} (h0:x.cells.length = k∧imL x.cells = true) (h:ImXs k a):ImXs k (x :: a):=fun y hy=>by
 rcases List.mem_cons.1 hy with rfl | hy
 ·exact h0
 ·exact h y hy
theorem imXs_nil {k:Nat}:ImXs k []:=fun x hx=>by simp at hx
theorem any_at {α:Type} {p:α→Bool} {l:List α} {i:Nat} (h:i < l.length) (hp:p l[i] = true):l.any p = true:=List.any_eq_true.2 ⟨l[i],List.getElem_mem h,hp⟩
theorem any_snoc {α:Type} {p:α→Bool} {l:List α} {i:Nat} (h:i < l.length) (h1:(l.take i).any p = false) (hp:p l[i] = false):(l.take (i + 1)).any p = false:=by
 rw [take_snoc h,List.any_append,h1]
 simp [hp]
theorem findIdx_at {α:Type} {p:α→Bool}:∀ {l:List α} {i:Nat} (h:i < l.length),(l.take i).any p = false→p l[i] = true→l.findIdx p = i
 | [],i,h,_,_=>by simp at h
 | x :: r,0,h,_,hp=>by simp at hp;simp [List.findIdx_cons,hp]
 | x :: r,i + 1,h,h1,hp=>by
   simp only [List.take_succ_cons,List.any_cons,Bool.or_eq_false_iff] at h1
   rw [List.findIdx_cons,h1.1,cond_false,findIdx_at (l:=r) (i:=i) (by simpa using h) h1.2 (by simpa using hp)]
def idxI {α:Type} (p:α→Bool) (l:List α):Int:=if l.any p = true then l.findIdx p else -1
theorem idxI_ge {α:Type} (p:α→Bool) (l:List α):decide (0≤idxI p l) = l.any p:=by
 unfold idxI
 cases h:l.any p <;> simp
def sameL {α:Type} (eq:α→α→Bool):List α→List α→Bool
 | [],[]=>true
 | a :: as,b :: bs=>eq a b && sameL eq as bs
 | _,_=>false
section
variable {α:Type} {eq:α→α→Bool}
theorem sameL_ne:∀ {a b:List α},a.length≠b.length→sameL eq a b = false
 | [],[],h=>absurd rfl h
 | [],_ :: _,_=>rfl
 | _ :: _,[],_=>rfl
 | a :: as,b :: bs,h=>by
   simp only [sameL]
   rw [sameL_ne (a:=as) (b:=bs) (by simpa using h),Bool.and_false]
theorem sameL_append:∀ {a b c d:List α},a.length = b.length→sameL eq (a ++ c) (b ++ d) = (sameL eq a b && sameL eq c d)
 | [],[],c,d,_=>by simp [sameL]
 | [],_ :: _,_,_,h=>by simp at h
 | _ :: _,[],_,_,h=>by simp at h
 | a :: as,b :: bs,c,d,h=>by
   simp only [List.cons_append,sameL]
   rw [sameL_append (by simpa using h),Bool.and_assoc]
theorem sameL_snoc {a b:List α} {i:Nat} (ha:i < a.length) (hb:i < b.length):sameL eq (a.take (i + 1)) (b.take (i + 1)) = (sameL eq (a.take i) (b.take i) && eq a[i] b[i]):=by
 rw [take_snoc ha,take_snoc hb,sameL_append (by simp;omega)]
 simp [sameL]
theorem sameL_false {a b:List α} {i:Nat} (hl:a.length = b.length) (ha:i < a.length) (h:eq a[i] (b[i]'(by omega)) = false):sameL eq a b = false:=by
 have e:sameL eq a b = sameL eq (a.take (i + 1) ++ a.drop (i + 1)) (b.take (i + 1) ++ b.drop (i + 1)):=by rw [List.take_append_drop,List.take_append_drop]
 rw [e,sameL_append (by simp;omega),sameL_snoc ha (by omega),h]
 simp
theorem sameL_iff (h:∀ x y,eq x y = true↔x = y):∀ {a b:List α},sameL eq a b = true↔a = b
 | [],[]=>by simp [sameL]
 | [],_ :: _=>by simp [sameL]
 | _ :: _,[]=>by simp [sameL]
 | a :: as,b :: bs=>by simp [sameL,h,sameL_iff h (a:=as) (b:=bs)]
end
theorem imT_of0 {x:T} (h:imT0 x = true):imT x = true:=by
 cases x <;> first | exact h | (simp [imT0] at h)
theorem imL_of0:∀ {l:List T},imT0L l = true→imL l = true
 | [],_=>rfl
 | x :: r,h=>by
   simp only [imT0L,Bool.and_eq_true] at h
   simp only [imL,Bool.and_eq_true]
   exact ⟨imT_of0 h.1,imL_of0 h.2⟩
theorem imA_of0 {x:T} (h:imT x = true):imA x = true:=by
 cases x with
 | clo f cs=>exact imL_of0 h
 | agg cs=>simp [imT,imT0] at h
 | _=>exact h
theorem imAL_of {l:List T} (h:imL l = true):imAL l = true:=by
 induction l with
 | nil=>rfl
 | cons c r ih=>
   simp only [imL,Bool.and_eq_true] at h
   simp only [imAL,Bool.and_eq_true]
   refine ⟨?_,ih h.2⟩
   exact imA_of0 h.1
theorem imAL_clo {x:T} {f:FuncId} {caps:List T} (h0:imA x = true) (h:imL caps = true):imAL [x,.clo f caps] = true:=by
 show (imA x && (imL caps && true)) = true
 rw [h0,h];rfl
theorem imAL_cons {x:T} {l:List T} (h0:imA x = true) (h:imL l = true):imAL (x :: l) = true:=by
 simp only [imAL,h0,imAL_of h,Bool.and_self]
theorem ins_room {α:Type} (L J:List α) (y:α) (i n:Nat) (hL:L.length = n) (hi:i < n) :
 (((L ++ J).take (i + 1) ++ ((L ++ J).drop i |>.take (n + 1 - i)).take (n - i) ++ (L ++ J).drop (i + 1 + (n - i))).take i ++ [y] ++
   ((L ++ J).take (i + 1) ++ ((L ++ J).drop i |>.take (n + 1 - i)).take (n - i) ++ (L ++ J).drop (i + 1 + (n - i))).drop (i + 1)) = (L.take i ++ y :: L.drop i) ++ J.drop 1:=by
 subst hL
 have h1:(L ++ J).take (i + 1) = L.take (i + 1):=List.take_append_of_le_length (by omega)
 have h2:((L ++ J).drop i |>.take (L.length + 1 - i)).take (L.length - i) = L.drop i:=by
  rw [List.take_take,Nat.min_eq_left (by omega),List.drop_append_of_le_length (by omega),List.take_append_of_le_length (by rw [List.length_drop];omega),List.take_of_length_le (by rw [List.length_drop];omega)]
 have h3:(L ++ J).drop (i + 1 + (L.length - i)) = J.drop 1:=by
  rw [show i + 1 + (L.length - i) = L.length + 1 by omega,← List.drop_drop,List.drop_left]
 rw [h1,h2,h3]
 have h4:(L.take (i + 1) ++ L.drop i ++ J.drop 1).take i = L.take i:=by
  rw [List.append_assoc,List.take_append_of_le_length (by rw [List.length_take];omega),List.take_take,Nat.min_eq_left (by omega)]
 have h5:(L.take (i + 1) ++ L.drop i ++ J.drop 1).drop (i + 1) = L.drop i ++ J.drop 1:=by
  rw [List.append_assoc,List.drop_append_of_le_length (by rw [List.length_take];omega),List.drop_of_length_le (by rw [List.length_take];omega),List.nil_append]
 rw [h4,h5]
 simp
theorem ins_grow {α:Type} (L G Z:List α) (y:α) (i n:Nat) (hL:L.length = n) (hG:G.length = i) (hZ:Z.length = n + 1 - i) (hi:i < n) :
 (((G ++ Z).take i ++ [y] ++ (G ++ Z).drop (i + 1)).take (i + 1) ++ ((L.drop i).take (n - i)).take (n - i) ++ ((G ++ Z).take i ++ [y] ++ (G ++ Z).drop (i + 1)).drop (i + 1 + (n - i))) = G ++ y :: L.drop i:=by
 subst hL hG
 have h1:(G ++ Z).take G.length = G:=by simp
 have h2:(G ++ Z).drop (G.length + 1) = Z.drop 1:=by rw [← List.drop_drop,List.drop_left]
 have h3:((L.drop G.length).take (L.length - G.length)).take (L.length - G.length) = L.drop G.length:=by
  rw [List.take_take,Nat.min_self,List.take_of_length_le (by rw [List.length_drop];omega)]
 rw [h1,h2,h3]
 have h4:(G ++ [y] ++ Z.drop 1).take (G.length + 1) = G ++ [y]:=by
  rw [List.take_append_of_le_length (by simp),List.take_of_length_le (by simp)]
 have h5:(G ++ [y] ++ Z.drop 1).drop (G.length + 1 + (L.length - G.length)) = []:=by
  apply List.drop_of_length_le
  simp only [List.length_append,List.length_cons,List.length_nil,List.length_drop,hZ];omega
 rw [h4,h5]
 simp
def nx (l:List UInt8) (at_:Nat) (n:Int):Int×Nat:=
 if n < 1∨l.length≤at_ then (0,at_)
 else if 256 < n∧at_ + 1 < l.length then (((l.getD at_ 0).toNat * 256 + (l.getD (at_ + 1) 0).toNat) % n,at_ + 2)
 else ((l.getD at_ 0).toNat % n,at_ + 1)
abbrev oC (l:List UInt8) (at_:Nat):Ob:=.arr 2 [.agg [vL l,vI at_]] false
theorem nx_le (l:List UInt8) (at_:Nat) (n:Int) (h:at_≤l.length):(nx l at_ n).2≤l.length:=by
 unfold nx
 split
 ·exact h
 ·split
  ·simp only;omega
  ·simp only;omega
theorem nx_range (l:List UInt8) (at_:Nat) (n:Int) (h:1≤n):0≤(nx l at_ n).1∧(nx l at_ n).1 < n:=by
 unfold nx
 split
 ·simp only;omega
 ·split
  ·exact ⟨Int.emod_nonneg _ (by omega),Int.emod_lt_of_pos _ (by omega)⟩
  ·exact ⟨Int.emod_nonneg _ (by omega),Int.emod_lt_of_pos _ (by omega)⟩
section
variable {P:Program} {e:Env} {kss:List (Nat×List Nat)} {Q:Ex→St→Prop} {K:List KF} {rows:Option (List Nat)} {ks:List Nat} {nid:Nat} {ops:List ROp} {F:XF} {acc:Acc} {st:Sto} {fid:FuncId} {xs caps ts':List T} {r:T} {d:Option Nat}
theorem C1.draw (id:Nat) (l:List UInt8) (a a':Nat)
 (hs:Spc P fid (.ptr 0 1 0 0 :: xs) [(0,oC l a)] r [(0,oC l a')]) (hg:TL.get st id = some (oC l a)) (hx:imAL xs = true) (h2:imTup r = true)
 (h:R P e kss Q rows ks K nid ops (putX F d (.p r)) (stUp st [(id,oC l a')]) (acc ++ [([] ++ [(id,oC l a')].map (·.1),[(id,oC l a')].map (·.1))])):C1 P e kss Q rows ks K (.clo fid []) (.ptr id 1 0 0 :: xs) d nid ops F st acc:=by
 refine C1.of [(0,some id)] [(id,some 0)] [] [(id,oC l a')] hs ?_ (by simp [renOk,TL.get]) ?_ (by rfl) (by simp [TL.get]) ?_ (by simp [renOk,TL.get]) (by rfl) (ltT_im h2) (.inl (by rfl)) h
 ·rw [List.append_nil]
  exact ⟨by simp [ltA,ltC,ltC0,TL.get],ltAs_im hx⟩
 ·refine ⟨?_,trivial⟩
  simp only [TL.get,if_true,ltO2,hg,ltO1]
  exact ⟨trivial,by simp,ltXs_cons ⟨rfl,rfl,rfl,rfl,trivial⟩ ltXs_nil,by simp⟩
 ·refine ⟨?_,trivial⟩
  simp only [TL.get,if_true,wrO,ltO1]
  exact ⟨⟨trivial,by simp,ltXs_cons ⟨rfl,rfl,rfl,rfl,trivial⟩ ltXs_nil,by simp⟩,.inr ⟨trivial,rfl⟩⟩
theorem C1.keep (id k:Nat) (ys:List T)
 (hs:Spc P fid ts' [(0,.arr k ys false)] r [(0,.arr k ys false)]) (hg:TL.get st id = some (.arr k ys false)) (him:ImXs k ys) (ha:ltAs st [(0,some id)] [] (xs ++ caps) ts') (h2:imTup r = true)
 (h:R P e kss Q rows ks K nid ops (putX F d (.p r)) (stUp st [(id,.arr k ys false)]) (acc ++ [([] ++ [(id,Ob.arr k ys false)].map (·.1),[(id,Ob.arr k ys false)].map (·.1))])):C1 P e kss Q rows ks K (.clo fid caps) xs d nid ops F st acc:=by
 refine C1.of [(0,some id)] [(id,some 0)] [] [(id,.arr k ys false)] hs ha (by simp [renOk,TL.get]) ?_ (by rfl) (by simp [TL.get]) ?_ (by simp [renOk,TL.get]) (by rfl) (ltT_im h2) (.inl (by rfl)) h
 ·refine ⟨?_,trivial⟩
  simp only [TL.get,if_true,ltO2,hg,ltO1]
  exact ⟨trivial,by simp,ltXs_refl him,by simp⟩
 ·refine ⟨?_,trivial⟩
  simp only [TL.get,if_true,wrO,ltO1]
  exact ⟨⟨trivial,by simp,ltXs_refl him,by simp⟩,.inr ⟨trivial,rfl⟩⟩
theorem C1.upd (id k:Nat) (ys zs:List T)
 (hs:Spc P fid ts' [(0,.arr k ys false)] r [(0,.arr k zs false)]) (hg:TL.get st id = some (.arr k ys false)) (him:ImXs k ys) (him2:ImXs k zs) (ha:ltAs st [(0,some id)] [] (xs ++ caps) ts') (h2:imTup r = true)
 (h:R P e kss Q rows ks K nid ops (putX F d (.p r)) (stUp st [(id,.arr k zs false)]) (acc ++ [([] ++ [(id,Ob.arr k zs false)].map (·.1),[(id,Ob.arr k zs false)].map (·.1))])):C1 P e kss Q rows ks K (.clo fid caps) xs d nid ops F st acc:=by
 refine C1.of [(0,some id)] [(id,some 0)] [] [(id,.arr k zs false)] hs ha (by simp [renOk,TL.get]) ?_ (by rfl) (by simp [TL.get]) ?_ (by simp [renOk,TL.get]) (by rfl) (ltT_im h2) (.inl (by rfl)) h
 ·refine ⟨?_,trivial⟩
  simp only [TL.get,if_true,ltO2,hg,ltO1]
  exact ⟨trivial,by simp,ltXs_refl him,by simp⟩
 ·refine ⟨?_,trivial⟩
  simp only [TL.get,if_true,wrO,ltO1]
  exact ⟨⟨trivial,by simp,ltXs_refl him2,by simp⟩,.inr ⟨trivial,rfl⟩⟩
theorem C1.newdraw {l:List UInt8} {a:Nat} (nid':Nat) (hs:Spc P fid (xs ++ caps) [] (.ptr 0 1 0 0) [(0,oC l a)]) (h1:imAL (xs ++ caps) = true) (hn:TL.get st nid' = none)
 (h:R P e kss Q rows ks K nid ops (putX F d (.p (.ptr nid' 1 0 0))) (stUp st [(nid',oC l a)]) (acc ++ [([] ++ [nid'],[nid'])])):C1 P e kss Q rows ks K (.clo fid caps) xs d nid ops F st acc:=by
 refine C1.of [] [(nid',some 0)] [] [(nid',oC l a)] hs (ltAs_im h1) rfl trivial (by simp) (by rfl) ?_ (by simp [renOk,TL.get]) (by rfl) ?_ (.inl (by rfl)) h
 ·refine ⟨?_,trivial⟩
  simp only [TL.get,if_true,wrO,ltO1]
  exact ⟨⟨trivial,by simp,ltXs_cons ⟨rfl,rfl,rfl,rfl,trivial⟩ ltXs_nil,by simp⟩,.inl hn⟩
 ·exact ⟨by simp [TL.get],rfl,rfl,rfl⟩
theorem C2.one {L:List (Nat×Bool)} {c:Prop} {f:T} {as:List T} (hc:c) (h:C1 P e kss Q rows ks K f as d nid ops F st acc):C2 P e kss Q rows ks K L c f as d nid ops F st acc:=by
 obtain ⟨val,wr,rd,h1,h2⟩:=h
 exact ⟨val,wr,rd,fun _=>h1,.inr (.inl ⟨hc,h2⟩)⟩
theorem C2.no {L:List (Nat×Bool)} {c:Prop} {f:T} {as:List T} (hc:¬ c) (h:R P e kss Q rows ks K nid ops (putX F d (.p (.v undef))) st (acc ++ [([],[])])):C2 P e kss Q rows ks K L c f as d nid ops F st acc:=
 ⟨.junk,[],[],fun h=>absurd h hc,.inr (.inr ⟨hc,h⟩)⟩
theorem C1.ovl {k0:Nat} {zs:List T} {y:T} {i' m' lo' len' k':Nat} {ys':List T} (hf:OvlFn P fid) (hk0:0 < k0) (h2:partOf y = some (i',m',lo',len'))
 (g2:TL.get st i' = some (.arr k' ys' false)) (l2:ys'.length = m')
 (h:R P e kss Q rows ks K nid ops (putX F d (.p (.v (.bool false)))) (stUp st []) (acc ++ [([i'] ++ ([]:List (Nat×Ob)).map (·.1),([]:List (Nat×Ob)).map (·.1))])):C1 P e kss Q rows ks K (.clo fid []) [.sl k0 zs,y] d nid ops F st acc:=
 ⟨.v (.bool false),[],[i'],.inr ⟨fid,k0,zs,y,i',m',lo',len',k',ys',rfl,hf,rfl,hk0,h2,g2,l2,rfl,rfl,rfl⟩,h⟩
theorem C1.fresh {ys:List T} {m k:Nat} (nid':Nat) (hs:Spc P fid (xs ++ caps) [] (.asl 0 m) [(0,.arr k ys false)]) (h1:imAL (xs ++ caps) = true) (hy:ImXs k ys) (hn:TL.get st nid' = none)
 (h:R P e kss Q rows ks K nid ops (putX F d (.p (.asl nid' m))) (stUp st [(nid',.arr k ys false)]) (acc ++ [([] ++ [nid'],[nid'])])):C1 P e kss Q rows ks K (.clo fid caps) xs d nid ops F st acc:=by
 refine C1.of [] [(nid',some 0)] [] [(nid',.arr k ys false)] hs (ltAs_im h1) rfl trivial (by simp) (by rfl) ?_ (by simp [renOk,TL.get]) (by rfl) ?_ (.inl (by rfl)) h
 ·refine ⟨?_,trivial⟩
  simp only [TL.get,if_true,wrO,ltO1]
  exact ⟨⟨trivial,by simp,ltXs_refl hy,by simp⟩,.inl hn⟩
 ·exact ⟨by simp [TL.get],rfl⟩
theorem C1.cutback {ys zs:List T} {m:Nat} (id nid' k:Nat) (B:List Nat) (hs:Spc P fid ts' [(0,.arr k zs false)] (.asl 1 m) [(0,.dead),(1,.arr k ys false)]) (hg:TL.get st id = some (.arr k zs false)) (hz:ImXs k zs) (hy:ImXs k ys)
 (hA:(flat ys).all noA1 = true) (hn:TL.get st nid' = none) (ha:ltAs st [(0,some id)] B (xs ++ caps) ts') (hB:(B.all fun i=>!([some id].contains (some i))) = true)
 (h:R P e kss Q rows ks K nid ops (putX F d (.p (.asl nid' m))) (stUp st [(id,.dead),(nid',.arr k ys false)]) (acc ++ [(B ++ [id,nid'],[id,nid'])])):C1 P e kss Q rows ks K (.clo fid caps) xs d nid ops F st acc:=by
 have hne:id≠nid':=fun e=>by subst e;rw [hg] at hn;cases hn
 refine C1.of [(0,some id)] [(nid',some 1)] B [(id,.dead),(nid',.arr k ys false)] hs ha (by simp [renOk,TL.get]) ?_ hB (by simp [TL.get]) ?_ ?_ (by rfl) ?_ (.inr ⟨rfl,?_⟩) h
 ·refine ⟨?_,trivial⟩
  simp only [TL.get,if_true,ltO2,hg,ltO1]
  refine ⟨trivial,by simp,ltXs_refl hz,fun hb=>?_⟩
  have:=List.all_eq_true.1 hB id hb
  simp at this
 ·refine ⟨?_,trivial⟩
  simp only [TL.get,if_true,wrO,ltO1,Nat.reduceEqDiff,↓reduceIte,reduceCtorEq]
  exact ⟨⟨trivial,by simp,ltXs_refl hy,by simp⟩,.inl hn⟩
 ·simp [renOk,TL.get,hne]
 ·exact ⟨by simp [TL.get],rfl⟩
 ·simp only [noA1s,Bool.and_eq_true,Bool.or_eq_true]
  exact ⟨.inr hA,trivial⟩
theorem noA_map {α:Type} {f:α→T} (h:∀ a,(f a).cells.all noA1 = true) (l:List α):(flat (l.map f)).all noA1 = true:=by
 rw [List.all_eq_true]
 intro c hc
 simp only [flat,List.mem_flatMap,List.mem_map] at hc
 obtain ⟨_,⟨a,_,rfl⟩,hc⟩:=hc
 exact List.all_eq_true.1 (h a) c hc
end
theorem clA {p:Prop} (h:p:=by
 all_goals (try simp only [ltSto,ltO2,ltO1,ltAs,ltA,ltC,ltC0,ltC0s,ltCs,ltT,ltFr,ltS,wrOk,wrO,TL.get,hasFr,↓reduceIte,Nat.reduceEqDiff,reduceCtorEq,Option.getD_some,Option.isSome_some,List.length_map,List.length_append,List.length_cons,List.length_nil,List.append_nil,List.mem_singleton,List.mem_cons,List.not_mem_nil,and_true,true_and,and_self,imp_self,forall_const,false_implies,implies_true,true_implies,or_false,Bool.false_eq_true,Bool.true_eq_false,ImXs_nil,true_or,or_true,false_or,false_and,and_false,rmK,rm1,List.map_append,List.map_cons,List.map_nil,List.cons_append,List.nil_append])
 all_goals (try (repeat' (first
  | exact ltXs_nil
  | (apply ltXs_map;intro _;exact ⟨rfl,rfl⟩)
  | (apply imXs_map;intro _;exact ⟨rfl,rfl⟩)
  | with_reducible apply imXs_append
  | with_reducible refine imXs_cons ⟨rfl,rfl⟩ ?_
  | exact imXs_nil
  | with_reducible apply ltXs_append
  | with_reducible refine ltXs_cons ⟨rfl,rfl,?_⟩ ?_
  | with_reducible apply And.intro
  | exact ltCs_im rfl
  | exact ltCs_im (by assumption)
  | exact ltXs_refl (by assumption)
  | (refine ⟨⟨?_,rfl,?_,rfl,?_⟩,trivial⟩ <;> first | (simp;done) | (apply imXs_map;intro _;exact ⟨rfl,rfl⟩))
  | trivial
  | rfl
  | (rw [i64_succ (by omega)])
  | omega)))):p:=h
theorem sW {p q:Prop} (h:q) (e:p = q:=by simp only [tl,tl2,tl4,↓un_u,isCallR,entX,argFr,ret,retI,retB,intT,unT,endR,ressR,resR,tupT,bslR,boxR,lenAll,↓reduceIte,Nat.reduceEqDiff,Nat.reduceAdd,Nat.reduceMul,Nat.reduceLT,Nat.reduceLeDiff,reduceCtorEq,Int.reduceLE,Int.reduceLT,ne_eq,Int.reduceEq,not_false_eq_true,decide_true,decide_false,Int.reduceToNat,tl3,Int.reduceBNe,Int.reduceBEq,rmK,rm1,not_true_eq_false];rfl):p:=e.mpr h
theorem sD {p q:Prop} (h:q) (e:p = q:=by simp only [tl,tl2,tl4,↓un_u,isCallR,entX,argFr,ret,retI,retB,intT,unT,endR,ressR,resR,tupT,bslR,boxR,lenAll,↓reduceIte,Nat.reduceEqDiff,Nat.reduceAdd,Nat.reduceMul,Nat.reduceLT,Nat.reduceLeDiff,reduceCtorEq,Int.reduceLE,Int.reduceLT,ne_eq,Int.reduceEq,not_false_eq_true,decide_true,decide_false,Int.reduceToNat,tl3,Int.reduceBNe,Int.reduceBEq,rmK,rm1,not_true_eq_false,decide_eq_true_eq,decide_eq_false_iff_not,Bool.or_eq_true,Bool.or_eq_false_iff,Bool.and_eq_true,Bool.and_eq_false_iff];rfl):p:=e.mpr h
end Go.TL
