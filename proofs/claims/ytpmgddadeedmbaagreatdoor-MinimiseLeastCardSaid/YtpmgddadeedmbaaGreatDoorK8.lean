/- A part of the proof: trees of Go values, short forms, contracts. -/
import Derived.WalkKit
import Derived.Still
import Derived.MapKept
import GoSem.Builtin.Cap
import Derived.Laws.Externs
import GoSem.Extern.SlicesOverlaps
import Derived.Test.YtpmgddadeedmbaaGreatDoorK7
namespace Go.TL
set_option linter.unusedSimpArgs false
set_option linter.unusedVariables false
abbrev vI (n:Int):T:=.v (.int .i64 n)
abbrev vB (b:Bool):T:=.v (.bool b)
abbrev vS (s:ByteArray):T:=.v (.string s)
def zt4 (fr:List (Nat×T)):List (Nat×T)→Prop
 | []=>True
 | (t,x) :: r=>TL.get fr t = some x∧zt4 fr r
section
variable {P:Program} {e:Env} {kss:List (Nat×List Nat)} {Q:Ex→St→Prop} {K:List KF} {fr:List (Nat×T)} {st:Sto}
def LQ {α:Type} (P:Program) (e:Env) (kss:List (Nat×List Nat)) (Q:Ex→St→Prop) (K:List KF) (I:α→Prop) (f:α→List (Nat×T)) (g:α→Sto) (μ:α→Nat) (x:α):Ex→St→Prop
 | .normal,s=>∃ y,I y∧μ y < μ x∧Le e s ⟨f y,g y⟩
 | .exit i,s=>X P e kss Q (.exit i) K s.fr s.st
 | .ret,s=>X P e kss Q .ret K s.fr s.st
theorem qW5 {α:Type} {I:α→Prop} {f:α→List (Nat×T)} {g:α→Sto} {μ:α→Nat} {x:α}:LQ P e kss Q K I f g μ x .normal ⟨fr,st⟩ = ∃ y,I y∧μ y < μ x∧Le e ⟨fr,st⟩ ⟨f y,g y⟩:=_root_.id rfl
theorem zH2 {α:Type} {I:α→Prop} {f:α→List (Nat×T)} {g:α→Sto} {μ:α→Nat} {x:α} {i:Nat}:LQ P e kss Q K I f g μ x (.exit i) ⟨fr,st⟩ = X P e kss Q (.exit i) K fr st:=_root_.id rfl
theorem ja4 {α:Type} {I:α→Prop} {f:α→List (Nat×T)} {g:α→Sto} {μ:α→Nat} {x:α}:LQ P e kss Q K I f g μ x .ret ⟨fr,st⟩ = X P e kss Q .ret K fr st:=_root_.id rfl
theorem jk7 {α:Type} {body:RC} (hm:P.follows .mixedOrders = true) (I:α→Prop) (f:α→List (Nat×T)) (g:α→Sto) (μ:α→Nat) (x0:α) (h0:I x0) (hs:Le e ⟨fr,st⟩ ⟨f x0,g x0⟩)
 (round:∀ x,I x→W P e kss (LQ P e kss Q K I f g μ x) body [] (f x) (g x)):W P e kss Q (.loop body) K fr st:=by
 refine WPR.loop hm I (fun x=>⟨f x,g x⟩) μ x0 h0 hs fun x hI=>?_
 have:zP7 e I (fun x=>⟨f x,g x⟩) μ x (kq P e kss Q K) = LQ P e kss Q K I f g μ x:=by
  funext ex s
  cases ex <;> rfl
 rw [this]
 exact round x hI
theorem Zp.imR {x r:T} {st:Sto} (h:x = r) (hi:Wp x = true):Zp [] x st r []:=h ▸ .im hi
theorem ja5 {a b:Int}:(a≥b) = (b≤a):=rfl
theorem zH3 {a b:Bool}:(bif a then b else false) = (a && b):=by cases a <;> rfl
theorem ja6 {a b:Bool}:(bif a then true else b) = (a || b):=by cases a <;> rfl
end
end Go.TL
namespace Go.TL
abbrev Ren:=List (Nat×Option Nat)
def rho (ρ:Ren) (i:Nat):Option Nat:=match TL.get ρ i with | some (some j)=>some j | _=>none
def ImXs (k:Nat) (xs:List T):Prop:=∀ x∈xs,x.cells.length = k∧imL x.cells = true
def ltS (o:Option Ob) (k n:Nat) (ys:List T):Prop:=match o with
 | some (.arr k' xs _)=>k' = k∧xs.length = n∧ys = xs∧ImXs k xs
 | _=>False
def ltV (o:Option Ob) (k n lo len:Nat) (ys:List T):Prop:=match o with
 | some (.arr k' xs _)=>k' = k∧xs.length = n∧ys = (xs.drop lo).take len∧lo + len≤n∧ImXs k xs
 | _=>False
def ltP (o:Option Ob) (n i j:Nat) (cs:List T):Prop:=match o with
 | some (.arr k xs _)=>xs.length = n∧i < n∧cs = (xs.getD i .junk).cells.drop j∧ImXs k xs
 | _=>False
def ltC0 (st:Sto) (ρ:Ren) (B:List Nat) (x y:T):Prop:=
 match y with
 | .junk=>True
 | .asl i' n'=>match x with
   | .asl i n=>TL.get ρ i' = some (some i)∧n = n'
   | .v (.slice none 0 0)=>TL.get ρ i' = some none∧n' = 0
   | _=>False
 | .ptr i' n' a' b'=>match x with
   | .ptr i n a b=>TL.get ρ i' = some (some i)∧n = n'∧a = a'∧b = b'
   | _=>False
 | .sl k ys=>match x with
   | .asl i n=>i∈B∧ltS (TL.get st i) k n ys
   | .vw i n lo len=>i∈B∧ltV (TL.get st i) k n lo len ys
   | .v (.slice none 0 0)=>ys = []
   | x=>x = .sl k ys
 | .ip cs=>match x with
   | .ptr i n a b=>i∈B∧ltP (TL.get st i) n a b cs
   | x=>x = .ip cs
 | .agg _=>False
 | .clo _ _=>False
 | .tup _=>False
 | .vw i' n' lo' len'=>match x with
   | .vw i n lo len=>TL.get ρ i' = some (some i)∧n = n'∧lo = lo'∧len = len'
   | .asl i n=>TL.get ρ i' = some (some i)∧n = n'∧lo' = 0∧len' = n'
   | _=>False
 | .mp i'=>match x with
   | .mp i=>TL.get ρ i' = some (some i)
   | _=>False
 | y=>x = y
def qx5 (st:Sto) (ρ:Ren) (B:List Nat):List T→List T→Prop
 | [],[]=>True
 | x :: xs,y :: ys=>ltC0 st ρ B x y∧qx5 st ρ B xs ys
 | _,_=>False
def ltC (st:Sto) (ρ:Ren) (B:List Nat) (x y:T):Prop:=
 match y with
 | .clo f ys=>match x with | .clo g xs=>f = g∧qx5 st ρ B xs ys | _=>False
 | y=>ltC0 st ρ B x y
def ltCs (st:Sto) (ρ:Ren) (B:List Nat):List T→List T→Prop
 | [],[]=>True
 | x :: xs,y :: ys=>ltC st ρ B x y∧ltCs st ρ B xs ys
 | _,_=>False
def ltA (st:Sto) (ρ:Ren) (B:List Nat) (x y:T):Prop:=
 match y with
 | .agg ys=>match x with | .agg xs=>ltCs st ρ B xs ys | _=>False
 | .clo f ys=>match x with | .clo g xs=>f = g∧ltCs st ρ B xs ys | _=>False
 | y=>ltC st ρ B x y
def ltAs (st:Sto) (ρ:Ren) (B:List Nat):List T→List T→Prop
 | [],[]=>True
 | x :: xs,y :: ys=>ltA st ρ B x y∧ltAs st ρ B xs ys
 | _,_=>False
def ltT (st:Sto) (ρ:Ren) (B:List Nat) (x y:T):Prop:=
 match y with
 | .tup ys=>match x with | .tup xs=>ltAs st ρ B xs ys | _=>False
 | y=>ltA st ρ B x y
def ltXs (st:Sto) (ρ:Ren) (B:List Nat) (k:Nat) (xs ys:List T):Prop:=xs.length = ys.length∧∀ (i:Nat) (x y:T),xs[i]? = some x→ys[i]? = some y→x.cells.length = k∧y.cells.length = k∧ltCs st ρ B x.cells y.cells
def ltO1 (st:Sto) (ρ:Ren) (B:List Nat) (k:Nat) (ys:List T) (fz':Bool) (i:Nat) (o:Option Ob):Prop:=match o with
 | some (.arr k0 xs fz)=>k0 = k∧(fz = true→fz' = true)∧ltXs st ρ B k xs ys∧(i∈B→fz' = true)
 | _=>False
def ltO2 (st:Sto) (ρ:Ren) (B:List Nat) (k:Nat) (ys:List T) (fz':Bool) (r:Option (Option Nat)):Prop:=match r with
 | some none=>ys = []
 | some (some i)=>ltO1 st ρ B k ys fz' i (TL.get st i)
 | none=>False
def ltM (es:Es) (o:Option Ob):Prop:=match o with | some (.mp es')=>es' = es | _=>False
def ltM2 (st:Sto) (es:Es) (r:Option (Option Nat)):Prop:=match r with
 | some (some i)=>ltM es (TL.get st i)
 | _=>False
def Qq (st:Sto) (ρ:Ren) (B:List Nat):Sto→Prop
 | []=>True
 | (i,.dead) :: r=>Qq st ρ B r
 | (i,.arr k ys fz') :: r=>ltO2 st ρ B k ys fz' (TL.get ρ i)∧Qq st ρ B r
 | (i,.mp es) :: r=>ltM2 st es (TL.get ρ i)∧Qq st ρ B r
 | (_,.full ..) :: _=>False
def ltFr (st:Sto) (ρ:Ren) (B:List Nat) (fr:List (Nat×T)):List (Nat×T)→Prop
 | []=>True
 | (t,y) :: r=>ltT st ρ B ((TL.get fr t).getD .junk) y∧ltFr st ρ B fr r
def Qz (st':Sto) (ρ:Ren):Bool:=(ρ.all fun p=>(TL.get st' p.1).isSome) && decide (ρ.filterMap (·.2)).Nodup
def qW6 (st':Sto) (ρ:Ren):Sto→Bool
 | []=>true
 | (i,_) :: r=>(TL.get st' i).isSome && (TL.get ρ i == some (some i)) && qW6 st' ρ r
section
variable {st st':Sto} {ρ:Ren} {B:List Nat} {d:Nat→Prop}
theorem Ka {α:Type} {l:List (Nat×α)} {i:Nat} {x:α} (h:TL.get l i = some x):(i,x)∈l:=by
 induction l with
 | nil=>cases h
 | cons p r ih=>
   obtain ⟨j,y⟩:=p
   simp only [TL.get] at h
   split at h
   ·rename_i hj;subst hj;injection h with h;subst h;simp
   ·exact List.mem_cons_of_mem _ (ih h)
theorem qx6 (h:Qz st' ρ = true) {i:Nat} {x:Option Nat} (hi:TL.get ρ i = some x):TL.get st' i≠none:=by
 simp only [Qz,Bool.and_eq_true] at h
 have:=List.all_eq_true.1 h.1 (i,x) (Ka hi)
 intro hn
 simp [hn] at this
theorem qe6:∀ {ρ:Ren} {i1 i2 j:Nat},(ρ.filterMap (·.2)).Nodup→(i1,some j)∈ρ→(i2,some j)∈ρ→i1 = i2
 | [],_,_,_,_,h,_=>by cases h
 | (i,x) :: r,i1,i2,j,hn,h1,h2=>by
   cases x with
   | none=>
     simp only [List.filterMap_cons] at hn
     simp only [List.mem_cons,Prod.mk.injEq,reduceCtorEq,and_false,false_or] at h1 h2
     exact qe6 hn h1 h2
   | some y=>
     simp only [List.filterMap_cons,List.nodup_cons,List.mem_filterMap,not_exists,not_and] at hn
     simp only [List.mem_cons,Prod.mk.injEq,Option.some.injEq] at h1 h2
     rcases h1 with ⟨rfl,rfl⟩ | h1
     ·rcases h2 with ⟨rfl,_⟩ | h2
      ·rfl
      ·exact absurd rfl (hn.1 _ h2)
     ·rcases h2 with ⟨rfl,rfl⟩ | h2
      ·exact absurd rfl (hn.1 _ h1)
      ·exact qe6 hn.2 h1 h2
theorem qW7 {k:Nat} {xs:List T} (h:ImXs k xs):(∀ x∈xs,x.cells.length = k)∧∀ c∈flat xs,imT c = true:=by
 refine ⟨fun x hx=>(h x hx).1,fun c hc=>?_⟩
 simp only [flat,List.mem_flatMap] at hc
 obtain ⟨x,hx,hc⟩:=hc
 exact qw8 (h x hx).2 c hc
theorem qJ2 (hd:∀ i x,TL.get ρ i = some x→d i) {x y:T} (h:ltC0 st ρ B x y):Lt st d (rho ρ) B x y:=by
 unfold ltC0 at h
 split at h
 ·exact .junk x
 ·rename_i i' n'
  split at h
  ·obtain ⟨h1,rfl⟩:=h
   exact .asl _ _ _ (by simp [rho,h1]) (hd _ _ h1)
  ·obtain ⟨h1,rfl⟩:=h
   exact .ghost _ (by simp [rho,h1]) (hd _ _ h1)
  ·exact h.elim
 ·split at h
  ·obtain ⟨h1,rfl,rfl,rfl⟩:=h
   exact .ptr _ _ _ _ _ (by simp [rho,h1]) (hd _ _ h1)
  ·exact h.elim
 ·rename_i k ys
  split at h
  ·rename_i i n
   obtain ⟨h1,h2⟩:=h
   unfold ltS at h2
   split at h2
   ·rename_i k' xs fz hg
    obtain ⟨rfl,rfl,rfl,h3⟩:=h2
    obtain ⟨h4,h5⟩:=qW7 h3
    exact .shut _ _ _ _ _ fz h1 hg rfl rfl h4 (fun j c c' hc hc'=>by
     rw [hc] at hc';injection hc' with hc';subst hc'
     exact .im _ (h5 _ (List.mem_of_getElem? hc))) h5
   ·exact h2.elim
  ·rename_i i n lo len
   obtain ⟨h1,h2⟩:=h
   unfold ltV at h2
   split at h2
   ·rename_i k' xs fz hg
    obtain ⟨rfl,rfl,rfl,hle,h3⟩:=h2
    obtain ⟨h4,h5⟩:=qW7 h3
    have hsub:∀ c∈flat ((xs.drop lo).take len),imT c = true:=fun c hc=>by
     simp only [flat,List.mem_flatMap] at hc
     obtain ⟨y,hy,hc⟩:=hc
     exact h5 c (by simp only [flat,List.mem_flatMap];exact ⟨y,List.mem_of_mem_drop (List.mem_of_mem_take hy),hc⟩)
    exact .shutv _ _ _ _ _ _ _ fz h1 hg rfl (by simp;omega) (fun y hy=>h4 y (List.mem_of_mem_drop (List.mem_of_mem_take hy))) (fun j c c' hc hc'=>by
     rw [hc] at hc';injection hc' with hc';subst hc'
     exact .im _ (hsub _ (List.mem_of_getElem? hc))) hsub
   ·exact h2.elim
  ·subst h;exact .nil k
  ·subst h;exact .im _ rfl
 ·rename_i cs
  split at h
  ·rename_i i n a b
   obtain ⟨h1,h2⟩:=h
   unfold ltP at h2
   split at h2
   ·rename_i k xs fz hg
    obtain ⟨h3,h4,h5,h6⟩:=h2
    refine .ptrip _ _ _ _ k xs _ fz h1 hg h3 h4 h5 fun c hc=>?_
    subst h5
    have hx:xs.getD a .junk∈xs:=by
     rw [List.getD_eq_getElem?_getD,List.getElem?_eq_getElem (by omega)]
     exact List.getElem_mem _
    exact qw8 (h6 _ hx).2 c (List.mem_of_mem_drop hc)
   ·exact h2.elim
  ·subst h;exact .im _ rfl
 ·exact h.elim
 ·exact h.elim
 ·exact h.elim
 ·split at h
  ·obtain ⟨h1,rfl,rfl,rfl⟩:=h
   exact .vw _ _ _ _ _ (by simp [rho,h1]) (hd _ _ h1)
  ·obtain ⟨h1,rfl,rfl,rfl⟩:=h
   exact .aslv _ _ _ (by simp [rho,h1]) (hd _ _ h1)
  ·exact h.elim
 ·split at h
  ·exact .mp _ _ (by simp [rho,h]) (hd _ _ h)
  ·exact h.elim
 ·rename_i h1 h2 h3 h4 h9 h5 h6 h7 h8 h10
  subst h
  cases x with
  | v x=>exact .im _ rfl
  | ip cs=>exact absurd rfl (h9 _)
  | ub p q=>exact .im _ rfl
  | junk=>exact .junk _
  | asl=>exact absurd rfl (h2 _ _)
  | ptr=>exact absurd rfl (h3 _ _ _ _)
  | sl=>exact absurd rfl (h4 _ _)
  | agg=>exact absurd rfl (h5 _)
  | clo=>exact absurd rfl (h6 _ _)
  | tup=>exact absurd rfl (h7 _)
  | vw=>exact absurd rfl (h8 _ _ _ _)
  | mp=>exact absurd rfl (h10 _)
theorem qx7 (hd:∀ i x,TL.get ρ i = some x→d i):∀ {xs ys:List T},qx5 st ρ B xs ys→xs.length = ys.length∧∀ (j:Nat) (c c':T),xs[j]? = some c→ys[j]? = some c'→Lt st d (rho ρ) B c c'
 | [],[],_=>⟨rfl,fun j c c' h=>by simp at h⟩
 | [],_ :: _,h=>h.elim
 | _ :: _,[],h=>h.elim
 | x :: xs,y :: ys,h=>by
   obtain ⟨h1,h2⟩:=h
   obtain ⟨h3,h4⟩:=qx7 hd h2
   refine ⟨by simp [h3],fun j c c' hc hc'=>?_⟩
   cases j with
   | zero=>simp at hc hc';subst hc hc';exact qJ2 hd h1
   | succ j=>exact h4 j c c' (by simpa using hc) (by simpa using hc')
theorem qW8 (hd:∀ i x,TL.get ρ i = some x→d i) {x y:T} (h:ltC st ρ B x y):Lt st d (rho ρ) B x y:=by
 unfold ltC at h
 split at h
 ·split at h
  ·obtain ⟨rfl,h⟩:=h;obtain ⟨h1,h2⟩:=qx7 hd h;exact .clo _ _ _ h1 h2
  ·exact h.elim
 ·exact qJ2 hd h
theorem Yf (hd:∀ i x,TL.get ρ i = some x→d i):∀ {xs ys:List T},ltCs st ρ B xs ys→xs.length = ys.length∧∀ (j:Nat) (c c':T),xs[j]? = some c→ys[j]? = some c'→Lt st d (rho ρ) B c c'
 | [],[],_=>⟨rfl,fun j c c' h=>by simp at h⟩
 | [],_ :: _,h=>h.elim
 | _ :: _,[],h=>h.elim
 | x :: xs,y :: ys,h=>by
   obtain ⟨h1,h2⟩:=h
   obtain ⟨h3,h4⟩:=Yf hd h2
   refine ⟨by simp [h3],fun j c c' hc hc'=>?_⟩
   cases j with
   | zero=>simp at hc hc';subst hc hc';exact qW8 hd h1
   | succ j=>exact h4 j c c' (by simpa using hc) (by simpa using hc')
theorem qW9 (hd:∀ i x,TL.get ρ i = some x→d i) {x y:T} (h:ltA st ρ B x y):Lt st d (rho ρ) B x y:=by
 unfold ltA at h
 split at h
 ·split at h
  ·obtain ⟨h1,h2⟩:=Yf hd h;exact .agg _ _ h1 h2
  ·exact h.elim
 ·split at h
  ·obtain ⟨rfl,h⟩:=h;obtain ⟨h1,h2⟩:=Yf hd h;exact .clo _ _ _ h1 h2
  ·exact h.elim
 ·exact qW8 hd h
theorem ql5 (hd:∀ i x,TL.get ρ i = some x→d i):∀ {xs ys:List T},ltAs st ρ B xs ys→xs.length = ys.length∧∀ (j:Nat) (c c':T),xs[j]? = some c→ys[j]? = some c'→Lt st d (rho ρ) B c c'
 | [],[],_=>⟨rfl,fun j c c' h=>by simp at h⟩
 | [],_ :: _,h=>h.elim
 | _ :: _,[],h=>h.elim
 | x :: xs,y :: ys,h=>by
   obtain ⟨h1,h2⟩:=h
   obtain ⟨h3,h4⟩:=ql5 hd h2
   refine ⟨by simp [h3],fun j c c' hc hc'=>?_⟩
   cases j with
   | zero=>simp at hc hc';subst hc hc';exact qW9 hd h1
   | succ j=>exact h4 j c c' (by simpa using hc) (by simpa using hc')
theorem qX0 (hd:∀ i x,TL.get ρ i = some x→d i) {x y:T} (h:ltT st ρ B x y):Lt st d (rho ρ) B x y:=by
 unfold ltT at h
 split at h
 ·split at h
  ·obtain ⟨h1,h2⟩:=ql5 hd h;exact .tup _ _ h1 h2
  ·exact h.elim
 ·exact qW9 hd h
theorem qX1 {k:Nat} {xs ys:List T} (h:ltXs st ρ B k xs ys) (hd:∀ i x,TL.get ρ i = some x→d i):(∀ y∈ys,y.cells.length = k)∧∀ (j:Nat) (c c':T),(flat xs)[j]? = some c→(flat ys)[j]? = some c'→Lt st d (rho ρ) B c c':=by
 obtain ⟨hl,h⟩:=h
 have hx:∀ x∈xs,x.cells.length = k:=by
  intro x hx
  obtain ⟨i,hi,rfl⟩:=List.getElem_of_mem hx
  exact (h i xs[i] (ys[i]'(by omega)) (by simp) (by simp)).1
 have hy:∀ y∈ys,y.cells.length = k:=by
  intro y hy
  obtain ⟨i,hi,rfl⟩:=List.getElem_of_mem hy
  exact (h i (xs[i]'(by omega)) ys[i] (by simp) (by simp)).2.1
 refine ⟨hy,fun j c c' hc hc'=>?_⟩
 have hj:j < xs.length * k:=by rw [← qt hx];exact (List.getElem?_eq_some_iff.1 hc).1
 have hk:0 < k:=by
  rcases Nat.eq_zero_or_pos k with h0 | h0
  ·rw [h0] at hj;simp at hj
  ·exact h0
 have hi:j / k < xs.length:=by rw [Nat.div_lt_iff_lt_mul hk];exact hj
 have he:j = (j / k) * k + j % k:=by rw [Nat.mul_comm];exact (Nat.div_add_mod j k).symm
 have at1:∀ {zs:List T},(∀ z∈zs,z.cells.length = k)→∀ (i m:Nat) (z:T),zs[i]? = some z→m < k→(flat zs)[i * k + m]? = z.cells[m]?:=by
  intro zs
  induction zs with
  | nil=>intro _ i m z hz;simp at hz
  | cons z0 zs ih=>
    intro hk' i m z hz hm
    have hz0:=hk' z0 (by simp)
    simp only [flat,List.flatMap_cons]
    cases i with
    | zero=>simp at hz;subst hz;rw [List.getElem?_append_left (by omega)];simp
    | succ i=>
      rw [List.getElem?_append_right (by rw [hz0,Nat.succ_mul];omega),hz0,show (i + 1) * k + m - k = i * k + m by rw [Nat.succ_mul];omega]
      exact ih (fun z hz=>hk' z (by simp [hz])) i m z (by simpa using hz) hm
 rw [he,at1 hx (j / k) (j % k) xs[j / k] (by simp [hi]) (Nat.mod_lt _ hk)] at hc
 rw [he,at1 hy (j / k) (j % k) (ys[j / k]'(by omega)) (by simp) (Nat.mod_lt _ hk)] at hc'
 have h3:=(h (j / k) xs[j / k] (ys[j / k]'(by omega)) (by simp [hi]) (by simp)).2.2
 exact (Yf hd h3).2 _ c c' hc hc'
theorem qe7:∀ {l:Sto},Qq st ρ B l→∀ {i k:Nat} {ys:List T} {fz:Bool},TL.get l i = some (.arr k ys fz)→ltO2 st ρ B k ys fz (TL.get ρ i)
 | [],_,i,k,ys,fz,h=>by cases h
 | (j,.dead) :: r,hs,i,k,ys,fz,h=>by
   simp only [TL.get] at h
   split at h
   ·injection h with h;cases h
   ·exact qe7 (l:=r) hs h
 | (j,.arr k0 y0 f0) :: r,hs,i,k,ys,fz,h=>by
   simp only [TL.get] at h
   split at h
   ·rename_i hj;subst hj
    injection h with h;injection h with h1 h2 h3;subst h1 h2 h3
    exact hs.1
   ·exact qe7 (l:=r) hs.2 h
 | (j,.mp es) :: r,hs,i,k,ys,fz,h=>by
   simp only [TL.get] at h
   split at h
   ·injection h with h;cases h
   ·exact qe7 (l:=r) hs.2 h
 | (j,.full ..) :: r,hs,i,k,ys,fz,h=>hs.elim
theorem qt9:∀ {l:Sto},Qq st ρ B l→∀ {i:Nat} {es:Es},TL.get l i = some (.mp es)→ltM2 st es (TL.get ρ i)
 | [],_,i,es,h=>by cases h
 | (j,.dead) :: r,hs,i,es,h=>by
   simp only [TL.get] at h
   split at h
   ·injection h with h;cases h
   ·exact qt9 (l:=r) hs h
 | (j,.arr k0 y0 f0) :: r,hs,i,es,h=>by
   simp only [TL.get] at h
   split at h
   ·injection h with h;cases h
   ·exact qt9 (l:=r) hs.2 h
 | (j,.mp es0) :: r,hs,i,es,h=>by
   simp only [TL.get] at h
   split at h
   ·rename_i hj;subst hj
    injection h with h;injection h with h;subst h
    exact hs.1
   ·exact qt9 (l:=r) hs.2 h
 | (j,.full ..) :: r,hs,i,es,h=>hs.elim
theorem qu0:∀ {l:Sto},Qq st ρ B l→∀ {i:Nat} {a b:Nat} {g:Bool},TL.get l i≠some (.full a b g)
 | [],_,i,a,b,g,h=>by cases h
 | (j,.dead) :: r,hs,i,a,b,g,h=>by
   simp only [TL.get] at h
   split at h
   ·injection h with h;cases h
   ·exact qu0 (l:=r) hs h
 | (j,.arr k0 y0 f0) :: r,hs,i,a,b,g,h=>by
   simp only [TL.get] at h
   split at h
   ·injection h with h;cases h
   ·exact qu0 (l:=r) hs.2 h
 | (j,.mp es0) :: r,hs,i,a,b,g,h=>by
   simp only [TL.get] at h
   split at h
   ·injection h with h;cases h
   ·exact qu0 (l:=r) hs.2 h
 | (j,.full ..) :: r,hs,i,a,b,g,h=>hs.elim
theorem qX2:∀ {l:Sto},qW6 st' ρ l = true→∀ {i:Nat},TL.get l i≠none→TL.get st' i≠none∧TL.get ρ i = some (some i)
 | [],_,i,h=>by simp [TL.get] at h
 | (j,o) :: r,hh,i,h=>by
   simp only [qW6,Bool.and_eq_true,beq_iff_eq] at hh
   simp only [TL.get] at h
   split at h
   ·rename_i hj;subst hj
    exact ⟨by intro hn;simp [hn] at hh,hh.1.2⟩
   ·exact qX2 hh.2 h
theorem je3 {e:Env} {fr fr':List (Nat×T)} (hr:Qz st' ρ = true) (hh:qW6 st' ρ e.st0 = true) (hs:Qq st ρ B st') (hf:ltFr st ρ B fr fr'):LeS e ⟨fr,st⟩ ⟨fr',st'⟩ (rho ρ) B where
 o:={
  ob:=fun i k ys fz hg=>by
   have h:=qe7 hs hg
   unfold ltO2 at h
   split at h
   ·rename_i hρ;exact .inl ⟨by simp [rho,hρ],h⟩
   ·rename_i j hρ
    unfold ltO1 at h
    split at h
    ·rename_i k0 xs f0 hg0
     obtain ⟨rfl,h2,h3,h4⟩:=h
     obtain ⟨h5,h6⟩:=qX1 h3 (fun _ _ h=>qx6 hr h)
     exact .inr ⟨j,xs,f0,by simp [rho,hρ],hg0,h3.1,h2,h5,h6,h4⟩
    ·exact h.elim
   ·exact h.elim
  inj:=fun i1 i2 j _ _ h1 h2=>by
   simp only [Qz,Bool.and_eq_true,decide_eq_true_eq] at hr
   unfold rho at h1 h2
   split at h1
   ·rename_i j1 g1
    split at h2
    ·rename_i j2 g2
     injection h1 with h1;injection h2 with h2;subst h1 h2
     exact qe6 hr.2 (Ka g1) (Ka g2)
    ·cases h2
   ·cases h1
  mp:=fun i es hg=>by
   have h:=qt9 hs hg
   unfold ltM2 at h
   split at h
   ·rename_i j hρ
    unfold ltM at h
    split at h
    ·rename_i es' hg0
     subst h
     exact ⟨j,by simp [rho,hρ],hg0⟩
    ·exact h.elim
   ·exact h.elim
  nf:=fun i a b g=>qu0 hs }
 fr:=by
  intro t y hy
  have:∀ {l:List (Nat×T)},ltFr st ρ B fr l→TL.get l t = some y→ltT st ρ B ((TL.get fr t).getD .junk) y:=by
   intro l
   induction l with
   | nil=>intro _ h;cases h
   | cons p r ih=>
     obtain ⟨u,z⟩:=p
     intro h hg
     simp only [TL.get] at hg
     split at hg
     ·rename_i hu;subst hu;injection hg with hg;subst hg;exact h.1
     ·exact ih h.2 hg
  exact qX0 (fun _ _ h=>qx6 hr h) (this hf hy)
 hnd:=fun id hd=>by
  obtain ⟨h1,h2⟩:=qX2 hh hd
  exact ⟨h1,fun k xs fz _=>by simp [rho,h2],fun es _=>by simp [rho,h2]⟩
theorem Le.of {e:Env} {fr fr':List (Nat×T)} (ρ:Ren) (B:List Nat) (hr:Qz st' ρ = true) (hh:qW6 st' ρ e.st0 = true) (hs:Qq st ρ B st') (hf:ltFr st ρ B fr fr'):Le e ⟨fr,st⟩ ⟨fr',st'⟩:=(je3 hr hh hs hf).le
theorem Zp.of {st0:Sto} {x r:T} (ρ:Ren) (B:List Nat) (hr:Qz st' ρ = true) (hh:qW6 st' ρ st0 = true) (hs:Qq st ρ B st') (hf:ltT st ρ B x r):Zp st0 x st r st':=
 .les ⟨rho ρ,B,je3 hr hh hs ⟨by simpa [TL.get] using hf,trivial⟩⟩
theorem Zp.cut {st0:Sto} {x r:T} {st st':Sto} (id nid m:Nat) {k:Nat} {xs:List T} (hg:TL.get st id = some (.arr k xs false)) (hn:TL.get st nid = none) (hm:m≤xs.length)
 (h:Zp st0 (cut2 id nid xs.length m x) (Yn id nid m k xs st) r st'):Zp st0 x st r st':=
 fun e he=>(Le.cut id nid m hg hn hm).trans (h e he)
theorem qe8 {x:T} (h:imT0 x = true):ltC0 st ρ B x x:=by
 cases x <;> first | (simp [imT0] at h;done) | trivial | rfl
theorem qX3:∀ {l:List T},qQ9 l = true→qx5 st ρ B l l
 | [],_=>trivial
 | c :: r,h=>by
   simp only [qQ9,Bool.and_eq_true] at h
   exact ⟨qe8 h.1,qX3 h.2⟩
theorem zH4 {x:T} (h:imT x = true):ltC st ρ B x x:=by
 cases x with
 | clo f cs=>exact ⟨rfl,qX3 h⟩
 | v a=>exact qe8 (st:=st) (ρ:=ρ) (B:=B) (x:=.v a) h
 | sl k xs=>exact qe8 (st:=st) (ρ:=ρ) (B:=B) (x:=.sl k xs) h
 | ip cs=>exact qe8 (st:=st) (ρ:=ρ) (B:=B) (x:=.ip cs) h
 | junk=>trivial
 | ub p q=>exact qe8 (st:=st) (ρ:=ρ) (B:=B) (x:=.ub p q) h
 | _=>simp [imT,imT0] at h
theorem Qr {k:Nat} {xs:List T} (h:ImXs k xs):ltXs st ρ B k xs xs:=by
 refine ⟨rfl,fun i x y hx hy=>?_⟩
 rw [hx] at hy;injection hy with hy;subst hy
 obtain ⟨h1,h2⟩:=h x (List.mem_of_getElem? hx)
 refine ⟨h1,h1,?_⟩
 clear h1 hx
 have:∀ l:List T,imL l = true→ltCs st ρ B l l:=by
  intro l
  induction l with
  | nil=>intro _;trivial
  | cons c r ih=>
    intro hl
    simp only [imL,Bool.and_eq_true] at hl
    refine ⟨?_,ih hl.2⟩
    exact zH4 hl.1
 exact this _ h2
theorem qY {k:Nat}:ltXs st ρ B k [] []:=⟨rfl,fun i x y hx=>by simp at hx⟩
theorem qM {k:Nat} {a b c d:List T} (h1:ltXs st ρ B k a c) (h2:ltXs st ρ B k b d):ltXs st ρ B k (a ++ b) (c ++ d):=by
 refine ⟨by simp [h1.1,h2.1],fun i x y hx hy=>?_⟩
 by_cases hi:i < a.length
 ·rw [List.getElem?_append_left hi] at hx
  rw [List.getElem?_append_left (by rw [← h1.1];exact hi)] at hy
  exact h1.2 i x y hx hy
 ·rw [List.getElem?_append_right (by omega)] at hx
  rw [List.getElem?_append_right (by rw [← h1.1];omega),← h1.1] at hy
  exact h2.2 _ x y hx hy
theorem qO {k:Nat} {x y:T} {xs ys:List T} (h0:x.cells.length = k∧y.cells.length = k∧ltCs st ρ B x.cells y.cells) (h:ltXs st ρ B k xs ys):ltXs st ρ B k (x :: xs) (y :: ys):=by
 have h1:ltXs st ρ B k [x] [y]:=by
  refine ⟨rfl,fun i a b ha hb=>?_⟩
  cases i with
  | zero=>simp at ha hb;subst ha hb;exact h0
  | succ i=>simp at ha
 exact qM h1 h
theorem qA {α:Type} {k:Nat} {f:α→T} (h:∀ a,(f a).cells.length = k∧imL (f a).cells = true) (l:List α):ImXs k (l.map f):=by
 intro x hx
 simp only [List.mem_map] at hx
 obtain ⟨n,_,rfl⟩:=hx
 exact h n
end
end Go.TL
namespace Go.TL
def wrO (st st1 st1':Sto) (ρ1 ρ2:Ren) (id k:Nat) (ys:List T) (fz:Bool) (r:Option (Option Nat)):Prop:=match r with
 | none=>fz = true∧(match TL.get st id with | some (.arr k0 xs _)=>k0 = k∧xs = ys | _=>False)∧(∀ p∈ρ1,p.2≠some id)
 | some (some i')=>ltO1 st1' ρ2 [] k ys fz i' (TL.get st1' i')∧(TL.get st id = none∨(TL.get ρ1 i' = some (some id)∧(TL.get st1 i').isSome = true))
 | some none=>False
def wrOk (st st1 st1':Sto) (ρ1 ρ2:Ren):List (Nat×Ob)→Prop
 | []=>True
 | (_,.dead) :: r=>wrOk st st1 st1' ρ1 ρ2 r
 | (id,.arr k ys fz) :: r=>wrO st st1 st1' ρ1 ρ2 id k ys fz (TL.get ρ2 id)∧wrOk st st1 st1' ρ1 ρ2 r
 | _ :: _=>False
def zd1:List (Nat×Ob)→Ren→Bool
 | [],_=>true
 | (_,.dead) :: r,ρ=>zd1 r ρ
 | (id,.arr _ ys _) :: r,ρ=>((rho ρ id).isNone || (flat ys).all noA1) && zd1 r ρ
 | _ :: _,_=>false
def fzOk (wr:Sto):List Nat→Bool
 | []=>true
 | i :: r=>(match TL.get wr i with | some (.arr _ _ true)=>true | _=>false) && fzOk wr r
section
variable {P:Program} {st st1 st1':Sto} {ρ1 ρ2:Ren} {B:List Nat} {wr:List (Nat×Ob)}
theorem qN1:∀ {l:List (Nat×Ob)},wrOk st st1 st1' ρ1 ρ2 l→∀ {i k:Nat} {ys:List T} {fz:Bool},TL.get l i = some (.arr k ys fz)→wrO st st1 st1' ρ1 ρ2 i k ys fz (TL.get ρ2 i)
 | [],_,i,k,ys,fz,h=>by cases h
 | (j,.dead) :: r,hs,i,k,ys,fz,h=>by
   simp only [TL.get] at h
   split at h
   ·injection h with h;cases h
   ·exact qN1 (l:=r) hs h
 | (j,.arr k0 y0 f0) :: r,hs,i,k,ys,fz,h=>by
   simp only [TL.get] at h
   split at h
   ·rename_i hj;subst hj
    injection h with h;injection h with h1 h2 h3;subst h1 h2 h3
    exact hs.1
   ·exact qN1 (l:=r) hs.2 h
theorem zd2:∀ {l:List (Nat×Ob)},wrOk st st1 st1' ρ1 ρ2 l→∀ {i:Nat} {es:Es},TL.get l i = some (.mp es)→False
 | [],_,i,es,h=>by cases h
 | (j,.dead) :: r,hs,i,es,h=>by
   simp only [TL.get] at h
   split at h
   ·injection h with h;cases h
   ·exact zd2 (l:=r) hs h
 | (j,.arr k0 y0 f0) :: r,hs,i,es,h=>by
   simp only [TL.get] at h
   split at h
   ·injection h with h;cases h
   ·exact zd2 (l:=r) hs.2 h
 | (j,.mp _) :: r,hs,i,es,h=>hs.elim
 | (j,.full ..) :: r,hs,i,es,h=>hs.elim
theorem zd3:∀ {l:List (Nat×Ob)},wrOk st st1 st1' ρ1 ρ2 l→∀ {i a b:Nat} {g:Bool},TL.get l i = some (.full a b g)→False
 | [],_,i,a,b,g,h=>by cases h
 | (j,.dead) :: r,hs,i,a,b,g,h=>by
   simp only [TL.get] at h
   split at h
   ·injection h with h;cases h
   ·exact zd3 (l:=r) hs h
 | (j,.arr k0 y0 f0) :: r,hs,i,a,b,g,h=>by
   simp only [TL.get] at h
   split at h
   ·injection h with h;cases h
   ·exact zd3 (l:=r) hs.2 h
 | (j,.mp _) :: r,hs,i,a,b,g,h=>hs.elim
 | (j,.full ..) :: r,hs,i,a,b,g,h=>hs.elim
theorem qx8:∀ {l:List (Nat×Ob)} {ρ:Ren},zd1 l ρ = true→∀ {i k:Nat} {ys:List T} {fz:Bool},TL.get l i = some (.arr k ys fz)→rho ρ i≠none→∀ c∈flat ys,noA1 c = true
 | [],ρ,_,i,k,ys,fz,h=>by cases h
 | (j,.dead) :: r,ρ,hs,i,k,ys,fz,h=>by
   simp only [TL.get] at h
   split at h
   ·injection h with h;cases h
   ·exact qx8 (l:=r) hs h
 | (j,.arr k0 y0 f0) :: r,ρ,hs,i,k,ys,fz,h=>by
   simp only [zd1,Bool.and_eq_true,Bool.or_eq_true] at hs
   simp only [TL.get] at h
   split at h
   ·rename_i hj;subst hj
    injection h with h;injection h with h1 h2 h3;subst h1 h2 h3
    intro hn c hc
    rcases hs.1 with h1 | h1
    ·rw [Option.isNone_iff_eq_none] at h1;exact absurd h1 hn
    ·exact List.all_eq_true.1 h1 c hc
   ·exact qx8 (l:=r) hs.2 h
theorem zo1 {wr:Sto}:∀ {B:List Nat},fzOk wr B = true→∀ i∈B,∃ k xs,TL.get wr i = some (.arr k xs true)
 | [],_,i,h=>by simp at h
 | j :: r,h,i,hi=>by
   simp only [fzOk,Bool.and_eq_true] at h
   rcases List.mem_cons.1 hi with rfl | hi
   ·have h1:=h.1
    split at h1
    ·rename_i k xs hg;exact ⟨k,xs,hg⟩
    ·cases h1
   ·exact zo1 h.2 i hi
def ql6:Ren→Bool
 | []=>true
 | (_,some _) :: r=>ql6 r
 | _=>false
theorem qx9:∀ {ρ:Ren},ql6 ρ = true→∀ {i:Nat} {x:Option Nat},TL.get ρ i = some x→∃ j,x = some j
 | [],_,i,x,h=>by cases h
 | (j,none) :: r,hs,i,x,h=>by simp [ql6] at hs
 | (j,some y) :: r,hs,i,x,h=>by
   simp only [TL.get] at h
   split at h
   ·injection h with h;exact ⟨y,h.symm⟩
   ·exact qx9 (ρ:=r) hs h
theorem ZV {ρ:Ren} {i j:Nat}:rho ρ i = some j↔TL.get ρ i = some (some j):=by
 unfold rho
 cases h:TL.get ρ i with
 | none=>simp
 | some x=>cases x <;> simp
theorem je4 {st':Sto} {ρ:Ren} (h:Qz st' ρ = true) {i1 i2 j:Nat} (h1:rho ρ i1 = some j) (h2:rho ρ i2 = some j):i1 = i2:=by
 simp only [Qz,Bool.and_eq_true,decide_eq_true_eq] at h
 exact qe6 h.2 (Ka (ZV.1 h1)) (Ka (ZV.1 h2))
theorem zd4 {ρ:Ren} {i j:Nat} (h:rho ρ i = some j):(ρ.map (·.2)).contains (some j) = true:=by
 simp only [List.contains_eq_mem,decide_eq_true_eq,List.mem_map]
 exact ⟨_,Ka (ZV.1 h),rfl⟩
def ptw (R:T→T→Prop):List T→List T→Prop
 | [],[]=>True
 | x :: xs,y :: ys=>R x y∧ptw R xs ys
 | _,_=>False
def ltD (st:Sto) (B:List Nat):Nat→T→T→Prop
 | 0,x,y=>x = y∧imT x = true
 | d + 1,x,y=>match y with
   | .sl k ys=>match x with
     | .asl i n=>i∈B∧(match TL.get st i with
       | some (.arr k' xs _)=>k' = k∧xs.length = n∧ptw (fun a b=>a.cells.length = k∧b.cells.length = k∧imL b.cells = true∧ptw (ltD st B d) a.cells b.cells) xs ys
       | _=>False)
     | .v (.slice none 0 0)=>ys = []
     | x=>x = .sl k ys
   | y=>x = y∧imT x = true
def ltAD (st:Sto) (B:List Nat) (x y:T):Prop:=
 match y with
 | .agg ys=>match x with | .agg xs=>ptw (ltD st B 3) xs ys | _=>False
 | y=>ltD st B 3 x y
theorem ql7 {R:T→T→Prop}:∀ {xs ys:List T},ptw R xs ys→xs.length = ys.length∧∀ (j:Nat) (c c':T),xs[j]? = some c→ys[j]? = some c'→R c c'
 | [],[],_=>⟨rfl,fun j c c' h=>by simp at h⟩
 | [],_ :: _,h=>h.elim
 | _ :: _,[],h=>h.elim
 | x :: xs,y :: ys,h=>by
   obtain ⟨h1,h2⟩:=h
   obtain ⟨h3,h4⟩:=ql7 h2
   refine ⟨by simp [h3],fun j c c' hc hc'=>?_⟩
   cases j with
   | zero=>simp at hc hc';subst hc hc';exact h1
   | succ j=>exact h4 j c c' (by simpa using hc) (by simpa using hc')
theorem zo2 {R:T→T→Prop} {k:Nat}:∀ {xs ys:List T},ptw (fun a b=>a.cells.length = k∧b.cells.length = k∧imL b.cells = true∧ptw R a.cells b.cells) xs ys→ptw R (flat xs) (flat ys)∧(∀ y∈ys,y.cells.length = k)∧∀ c∈flat ys,imT c = true
 | [],[],_=>⟨trivial,by simp,by simp [flat]⟩
 | [],_ :: _,h=>h.elim
 | _ :: _,[],h=>h.elim
 | x :: xs,y :: ys,h=>by
   obtain ⟨⟨h1,h2,h3,h4⟩,h5⟩:=h
   obtain ⟨q1,q2,q3⟩:=zo2 h5
   have app:∀ {a b c d:List T},ptw R a b→ptw R c d→ptw R (a ++ c) (b ++ d):=by
    intro a
    induction a with
    | nil=>intro b c d h h';cases b with | nil=>exact h' | cons _ _=>exact h.elim
    | cons x a ih=>intro b c d h h';cases b with | nil=>exact h.elim | cons _ _=>exact ⟨h.1,ih h.2 h'⟩
   refine ⟨by simp only [flat,List.flatMap_cons];exact app h4 q1,?_,?_⟩
   ·intro z hz
    rcases List.mem_cons.1 hz with rfl | hz
    ·exact h2
    ·exact q2 z hz
   ·intro c hc
    simp only [flat,List.flatMap_cons,List.mem_append] at hc
    rcases hc with hc | hc
    ·exact qw8 h3 c hc
    ·exact q3 c hc
theorem qy0 {st:Sto} {B:List Nat} {d:Nat→Prop} {ρ:Nat→Option Nat}:∀ {n:Nat} {x y:T},ltD st B n x y→Lt st d ρ B x y
 | 0,x,y,h=>by obtain ⟨rfl,h⟩:=h;exact .im _ h
 | n + 1,x,y,h=>by
   unfold ltD at h
   split at h
   ·rename_i k ys
    split at h
    ·rename_i i m
     obtain ⟨h1,h2⟩:=h
     split at h2
     ·rename_i k' xs fz hg
      obtain ⟨rfl,rfl,h3⟩:=h2
      obtain ⟨q1,q2,q3⟩:=zo2 h3
      exact .shut _ _ _ _ _ fz h1 hg rfl (ql7 h3).1.symm q2 (fun j c c' hc hc'=>qy0 ((ql7 q1).2 j c c' hc hc')) q3
     ·exact h2.elim
    ·subst h;exact .nil k
    ·subst h;exact .im _ rfl
   ·obtain ⟨rfl,h⟩:=h;exact .im _ h
theorem zt5 {st:Sto} {B:List Nat} {d:Nat→Prop} {ρ:Nat→Option Nat} {x y:T} (h:ltAD st B x y):Lt st d ρ B x y:=by
 unfold ltAD at h
 split at h
 ·split at h
  ·obtain ⟨h1,h2⟩:=ql7 h
   exact .agg _ _ h1 fun j c c' hc hc'=>qy0 (h2 j c c' hc hc')
  ·exact h.elim
 ·exact qy0 h
theorem qM7.ofL {fid:FuncId} {caps xs ts':List T} {r val:T} (ρ1 ρ2:Ren) (B:List Nat) (wr:List (Nat×Ob)) (hs:Spc P fid ts' st1 r st1')
 (hes:(xs ++ caps).length = ts'.length∧∀ (j:Nat) (c c':T),(xs ++ caps)[j]? = some c→ts'[j]? = some c'→Lt st (fun i=>TL.get st1 i≠none) (rho ρ1) B c c') (h1:Qz st1 ρ1 = true) (ho:Qq st ρ1 B st1) (hB:(B.all fun i=>!(ρ1.map (·.2)).contains (some i)) = true)
 (hk:(ρ1.all fun p=>match p.2 with | some i=>(TL.get wr i).isSome | none=>true) = true)
 (hw:wrOk st st1 st1' ρ1 ρ2 wr) (h2:Qz wr ρ2 = true) (h3:ql6 ρ2 = true) (hv:ltT st1' ρ2 [] r val)
 (hf:fzOk (wr ++ st) B = true∨(noA2 val = true∧zd1 wr ρ2 = true)):qM7 P st (.clo fid caps) xs val wr (B ++ wr.map (·.1)):=by
 have d1:∀ i x,TL.get ρ1 i = some x→TL.get st1 i≠none:=fun _ _ h=>qx6 h1 h
 have d2:∀ i x,TL.get ρ2 i = some x→TL.get wr i≠none∧rho ρ2 i≠none:=fun i x h=>⟨qx6 h2 h,by
  obtain ⟨j,rfl⟩:=qx9 h3 h
  rw [ZV.2 h];simp⟩
 refine .inl ⟨fid,caps,ts',st1,st1',r,rho ρ1,rho ρ2,B,rfl,hs,?_⟩
 refine ⟨hes.1,hes.2,(je3 (e:={ S:=fun _=>False,base:=0,hnd:=fun _=>False,w0:=default,n:=1,st0:=[] }) (fr:=[]) (fr':=[]) h1 rfl ho trivial).o,fun id hid=>⟨by simp [hid],fun id' hd hr=>?_⟩,fun id' id hd hr=>?_,fun id ob hg=>?_,fun i1 i2 id' _ _ g1 g2=>je4 h2 g1 g2,qX0 d2 hv,?_⟩
 ·have h5:=List.all_eq_true.1 hB id hid
  rw [zd4 hr] at h5
  simp at h5
 ·have h5:=List.all_eq_true.1 hk _ (Ka (ZV.1 hr))
  intro hn
  simp [hn] at h5
 ·refine ⟨by simp only [List.mem_append,List.mem_map];exact .inr ⟨_,Ka hg,rfl⟩,?_⟩
  cases ob with
  | dead=>exact .inl rfl
  | mp es=>exact (zd2 hw hg).elim
  | full i n g=>exact (zd3 hw hg).elim
  | arr k ys fz=>
    have h5:=qN1 hw hg
    unfold wrO at h5
    split at h5
    ·rename_i h6
     obtain ⟨rfl,h7,h8⟩:=h5
     split at h7
     ·rename_i k0 x0 f0 hg0
      obtain ⟨rfl,rfl⟩:=h7
      refine .inr (.inl ⟨_,_,f0,rfl,hg0,by simp [rho,h6],fun id' hd hr=>?_⟩)
      exact h8 _ (Ka (ZV.1 hr)) rfl
     ·exact h7.elim
    ·rename_i i' h6
     obtain ⟨h7,h8⟩:=h5
     unfold ltO1 at h7
     split at h7
     ·rename_i k0 xs f0 hg0
      obtain ⟨rfl,h9,h10,h11⟩:=h7
      obtain ⟨h12,h13⟩:=qX1 h10 d2
      refine .inr (.inr ⟨k0,ys,fz,i',xs,f0,rfl,ZV.2 h6,hg0,h10.1,h9,h12,h13,?_⟩)
      rcases h8 with h8 | ⟨h8,h14⟩
      ·exact .inl h8
      ·refine .inr ⟨ZV.2 h8,?_⟩
       intro hn;simp [hn] at h14
     ·exact h7.elim
    ·exact h5.elim
 ·rcases hf with hf | ⟨hf,hg⟩
  ·exact .inl (zo1 hf)
  ·exact .inr ⟨hf,fun id k xs fz hw0 hr=>qx8 hg hw0 hr⟩
theorem qM7.of {fid:FuncId} {caps xs ts':List T} {r val:T} (ρ1 ρ2:Ren) (B:List Nat) (wr:List (Nat×Ob)) (hs:Spc P fid ts' st1 r st1')
 (ha:ltAs st ρ1 B (xs ++ caps) ts') (h1:Qz st1 ρ1 = true) (ho:Qq st ρ1 B st1) (hB:(B.all fun i=>!(ρ1.map (·.2)).contains (some i)) = true)
 (hk:(ρ1.all fun p=>match p.2 with | some i=>(TL.get wr i).isSome | none=>true) = true)
 (hw:wrOk st st1 st1' ρ1 ρ2 wr) (h2:Qz wr ρ2 = true) (h3:ql6 ρ2 = true) (hv:ltT st1' ρ2 [] r val)
 (hf:fzOk (wr ++ st) B = true∨(noA2 val = true∧zd1 wr ρ2 = true)):qM7 P st (.clo fid caps) xs val wr (B ++ wr.map (·.1)):=
 .ofL ρ1 ρ2 B wr hs (ql5 (fun _ _ h=>qx6 h1 h) ha) h1 ho hB hk hw h2 h3 hv hf
theorem qe9 {st:Sto} {ρ:Ren} {B:List Nat} {x:T} (h:imT x = true):ltC st ρ B x x:=by
 exact zH4 h
theorem qQ {st:Sto} {ρ:Ren} {B:List Nat}:∀ {l:List T},imL l = true→ltCs st ρ B l l
 | [],_=>trivial
 | c :: r,h=>by
   simp only [imL,Bool.and_eq_true] at h
   exact ⟨qe9 h.1,qQ h.2⟩
theorem Wq {st:Sto} {ρ:Ren} {B:List Nat} {x:T} (h:imA x = true):ltA st ρ B x x:=by
 cases x with
 | agg cs=>exact qQ h
 | clo f cs=>exact ⟨rfl,qQ h⟩
 | tup cs=>simp [imA,imT,imT0] at h
 | junk=>trivial
 | v a=>exact qe9 (st:=st) (ρ:=ρ) (B:=B) (x:=.v a) h
 | sl k xs=>exact qe9 (st:=st) (ρ:=ρ) (B:=B) (x:=.sl k xs) h
 | ptr a b c d=>exact qe9 (st:=st) (ρ:=ρ) (B:=B) (x:=.ptr a b c d) h
 | ip cs=>exact qe9 (st:=st) (ρ:=ρ) (B:=B) (x:=.ip cs) h
 | asl a b=>exact qe9 (st:=st) (ρ:=ρ) (B:=B) (x:=.asl a b) h
 | ub a b=>exact qe9 (st:=st) (ρ:=ρ) (B:=B) (x:=.ub a b) h
 | vw a b c d=>exact qe9 (st:=st) (ρ:=ρ) (B:=B) (x:=.vw a b c d) h
 | mp a=>exact qe9 (st:=st) (ρ:=ρ) (B:=B) (x:=.mp a) h
theorem qy1 {st:Sto} {ρ:Ren} {B:List Nat}:∀ {l:List T},imAL l = true→ltAs st ρ B l l
 | [],_=>trivial
 | c :: r,h=>by
   simp only [imAL,Bool.and_eq_true] at h
   exact ⟨Wq h.1,qy1 h.2⟩
theorem qf0 {st:Sto} {ρ:Ren} {B:List Nat} {x:T} (h:Wp x = true):ltT st ρ B x x:=by
 cases x with
 | tup cs=>exact qy1 h
 | agg cs=>exact Wq (st:=st) (ρ:=ρ) (B:=B) (x:=.agg cs) h
 | clo f cs=>exact Wq (st:=st) (ρ:=ρ) (B:=B) (x:=.clo f cs) h
 | junk=>trivial
 | v a=>exact Wq (st:=st) (ρ:=ρ) (B:=B) (x:=.v a) h
 | sl k xs=>exact Wq (st:=st) (ρ:=ρ) (B:=B) (x:=.sl k xs) h
 | ptr a b c d=>exact Wq (st:=st) (ρ:=ρ) (B:=B) (x:=.ptr a b c d) h
 | ip cs=>exact Wq (st:=st) (ρ:=ρ) (B:=B) (x:=.ip cs) h
 | asl a b=>exact Wq (st:=st) (ρ:=ρ) (B:=B) (x:=.asl a b) h
 | ub a b=>exact Wq (st:=st) (ρ:=ρ) (B:=B) (x:=.ub a b) h
 | vw a b c d=>exact Wq (st:=st) (ρ:=ρ) (B:=B) (x:=.vw a b c d) h
 | mp a=>exact Wq (st:=st) (ρ:=ρ) (B:=B) (x:=.mp a) h
variable {e:Env} {kss:List (Nat×List Nat)} {Q:Ex→St→Prop} {K:List KF} {rows:Option (List Nat)} {ks:List Nat} {nid:Nat} {ops:List ROp} {F:XF} {acc:Acc}
theorem C1.of {fid:FuncId} {caps xs ts':List T} {r val:T} {d:Option Nat} (ρ1 ρ2:Ren) (B:List Nat) (wr:List (Nat×Ob)) (hs:Spc P fid ts' st1 r st1')
 (ha:ltAs st ρ1 B (xs ++ caps) ts') (h1:Qz st1 ρ1 = true) (ho:Qq st ρ1 B st1) (hB:(B.all fun i=>!(ρ1.map (·.2)).contains (some i)) = true)
 (hk:(ρ1.all fun p=>match p.2 with | some i=>(TL.get wr i).isSome | none=>true) = true)
 (hw:wrOk st st1 st1' ρ1 ρ2 wr) (h2:Qz wr ρ2 = true) (h3:ql6 ρ2 = true) (hv:ltT st1' ρ2 [] r val)
 (hf:fzOk (wr ++ st) B = true∨(noA2 val = true∧zd1 wr ρ2 = true))
 (h:R P e kss Q rows ks K nid ops (putX F d (.p val)) (stUp st wr) (acc ++ [(B ++ wr.map (·.1),wr.map (·.1))])):C1 P e kss Q rows ks K (.clo fid caps) xs d nid ops F st acc:=
 ⟨val,wr,_,.of ρ1 ρ2 B wr hs ha h1 ho hB hk hw h2 h3 hv hf,h⟩
theorem C2.of {L:List (Nat×Bool)} {c:Prop} {fid:FuncId} {caps xs ts':List T} {r val:T} {d:Option Nat} (ρ1:Ren) (B:List Nat) (hs:c→Spc P fid ts' st1 r st1')
 (ha:c→ltAs st ρ1 B (xs ++ caps) ts') (h1:Qz st1 ρ1 = true) (ho:c→Qq st ρ1 B st1) (hB:(B.all fun i=>!(ρ1.map (·.2)).contains (some i)) = true)
 (hk:(ρ1.all fun p=>match p.2 with | some _=>false | none=>true) = true) (hv:c→ltT st1' [] [] r val)
 (hf:c→fzOk st B = true∨noA2 val = true)
 (h:R P e kss Q rows ks K nid ops (putX F d (.g L c val)) st (acc ++ [(B ++ [],[])])):C2 P e kss Q rows ks K L c (.clo fid caps) xs d nid ops F st acc:=
 ⟨val,[],_,fun hc=>.of ρ1 [] B [] (hs hc) (ha hc) h1 (ho hc) hB (List.all_eq_true.2 fun p hp=>by
   have:=List.all_eq_true.1 hk p hp
   split <;> simp_all) trivial rfl rfl (hv hc) (by rcases hf hc with h | h;exact .inl h;exact .inr ⟨h,rfl⟩),.inl ⟨rfl,h⟩⟩
theorem C1.lend {fid:FuncId} {caps xs ts':List T} {r:T} {d:Option Nat} (B:List Nat) (hs:Spc P fid ts' [] r [])
 (ha:ltAs st [] B (xs ++ caps) ts') (h2:Wp r = true) (h3:noA2 r = true)
 (h:R P e kss Q rows ks K nid ops (putX F d (.p r)) st (acc ++ [(B ++ [],[])])):C1 P e kss Q rows ks K (.clo fid caps) xs d nid ops F st acc:=
 .of [] [] B [] hs ha rfl trivial (by simp) rfl trivial rfl rfl (qf0 h2) (.inr ⟨h3,rfl⟩) h
theorem C2.lend {L:List (Nat×Bool)} {c:Prop} {fid:FuncId} {caps xs ts':List T} {r:T} {d:Option Nat} (B:List Nat) (hs:c→Spc P fid ts' [] r [])
 (ha:c→ltAs st [] B (xs ++ caps) ts') (h2:Wp r = true) (h3:noA2 r = true)
 (h:R P e kss Q rows ks K nid ops (putX F d (.g L c r)) st (acc ++ [(B ++ [],[])])):C2 P e kss Q rows ks K L c (.clo fid caps) xs d nid ops F st acc:=
 .of [] B hs ha rfl (fun _=>trivial) (by simp) rfl (fun _=>qf0 h2) (fun _=>.inr h3) h
theorem ptwA {st:Sto} {B:List Nat} {d:Nat→Prop} {ρ:Nat→Option Nat} {xs ys:List T} (h:ptw (ltAD st B) xs ys):xs.length = ys.length∧∀ (j:Nat) (c c':T),xs[j]? = some c→ys[j]? = some c'→Lt st d ρ B c c':=
 ⟨(ql7 h).1,fun j c c' hc hc'=>zt5 ((ql7 h).2 j c c' hc hc')⟩
theorem C1.lendD {fid:FuncId} {caps xs ts':List T} {r:T} {d:Option Nat} (B:List Nat) (hs:Spc P fid ts' [] r [])
 (ha:ptw (ltAD st B) (xs ++ caps) ts') (h2:Wp r = true) (h3:noA2 r = true)
 (h:R P e kss Q rows ks K nid ops (putX F d (.p r)) (stUp st []) (acc ++ [(B ++ ([]:List (Nat×Ob)).map (·.1),([]:List (Nat×Ob)).map (·.1))])):C1 P e kss Q rows ks K (.clo fid caps) xs d nid ops F st acc:=
 ⟨r,[],_,.ofL [] [] B [] hs (ptwA ha) rfl trivial (by simp) rfl trivial rfl rfl (qf0 h2) (.inr ⟨h3,rfl⟩),h⟩
theorem C2.lendD {L:List (Nat×Bool)} {c:Prop} {fid:FuncId} {caps xs ts':List T} {r:T} {d:Option Nat} (B:List Nat) (hs:c→Spc P fid ts' [] r [])
 (ha:c→ptw (ltAD st B) (xs ++ caps) ts') (h2:Wp r = true) (h3:noA2 r = true)
 (h:R P e kss Q rows ks K nid ops (putX F d (.g L c r)) st (acc ++ [(B ++ [],[])])):C2 P e kss Q rows ks K L c (.clo fid caps) xs d nid ops F st acc:=
 ⟨r,[],_,fun hc=>.ofL [] [] B [] (hs hc) (ptwA (ha hc)) rfl trivial (by simp) rfl trivial rfl rfl (qf0 h2) (.inr ⟨h3,rfl⟩),.inl ⟨rfl,h⟩⟩
end
end Go.TL
namespace Go.TL
theorem tl:type_of% (
And.intro @zW0 (And.intro @zW1 (And.intro @jh9 (And.intro @zz6 (And.intro @ji0 (And.intro @zz7 (And.intro @zW2 (And.intro @zz8 (And.intro @ji2 (And.intro @ji3 (And.intro @ji4 (And.intro @qH5 (And.intro @qS9 (And.intro @zA0 (And.intro @qw9 (And.intro @qp4 (And.intro @ji5 (And.intro @zA1 (And.intro @zA2 (And.intro @R_op (And.intro @ji6 (And.intro @zA3 (And.intro @zA4 (And.intro @zA5 (And.intro @ji8 (And.intro @ji9 (And.intro @zA6 (And.intro @zA7 (And.intro @jj2 (And.intro @jj0 (And.intro @jj1 (And.intro @qW5 (And.intro @zH2 (And.intro @ja4 (And.intro @zh5 (And.intro @qT0 (And.intro @qT1 (And.intro @qT2 (And.intro @qT3 (And.intro @qH6 (And.intro @zB0 (And.intro @zB1 (And.intro @qH7 (And.intro @zW3 (And.intro @zB2 (And.intro @jj3 (And.intro @zh6 (And.intro @jj4 (And.intro @zB3 (And.intro @zW4 (And.intro @zW5 (And.intro @zh7 (And.intro @zh8 (And.intro @zW6 (And.intro @zB4 (And.intro @zB5 (And.intro @zW7 (And.intro @zW8 (And.intro @zW9 (And.intro @zB6 (And.intro @zX0 (And.intro @zB7 (And.intro @zh9 (And.intro @zi0 (And.intro @zi1 (And.intro @zX1 (And.intro @zX2 (And.intro @zB8 (And.intro @zB9 (And.intro @zC0 (And.intro @zX3 (And.intro @zX4 (And.intro @zi2 (And.intro @zi3 (And.intro @zC1 (And.intro @zi4 (And.intro @qH8 (And.intro @zC2 (And.intro @zC3 (And.intro @zX5 (And.intro @zX6 (And.intro @rv_t (And.intro @rv_k (And.intro @qH9 (And.intro @qx0 (And.intro @zC4 (And.intro @zC5 (And.intro @zC6 (And.intro @zC7 (And.intro @zC8 (And.intro @zi5 (And.intro @zC9 (And.intro @zH3 (And.intro @ja6 (And.intro @zD0 (And.intro @zD1 (And.intro @zD3 (And.intro @zF2 (And.intro @zj9 (And.intro @qI3 (And.intro @qx2 (And.intro @zj7 (And.intro @qI4 (And.intro @qx3 (And.intro @zj8 (And.intro @qU2 (And.intro @zF5 (And.intro @zZ4 (And.intro @zZ5 (And.intro @zl7 (And.intro @qU3 (And.intro @qI5 (And.intro @jk3 (And.intro @jk4 (And.intro @jk5 (And.intro @zD4 (And.intro @qT6 (And.intro @qx4 (And.intro @qp5 (And.intro @qp6 (And.intro @qI6 (And.intro @ji1 (And.intro @zz9 (And.intro @zD2 (And.intro @zX7 (And.intro @zX8 (And.intro @zX9 (And.intro @zi8 (And.intro @qT8 (And.intro @zD5 (And.intro @zD6 (And.intro @zi6 (And.intro @qT4 (And.intro @qI0 (And.intro @zi7 (And.intro @zi9 (And.intro @qT7 (And.intro @qx1 (And.intro @qT9 (And.intro @qU0 (And.intro @qU1 (And.intro @zj0 (And.intro @zD7 (And.intro @zD8 (And.intro @zY0 (And.intro @zD9 (And.intro @zE0 (And.intro @qI1 (And.intro @zE1 (And.intro @zY1 (And.intro @jj6 (And.intro @zY2 (And.intro @zY3 (And.intro @jj7 (And.intro @zE2 (And.intro @zY4 (And.intro @zE3 (And.intro @zE4 (And.intro @zY5 (And.intro @zE5 (And.intro @zE6 (And.intro @zY6 (And.intro @zY7 (And.intro @zj1 (And.intro @zj2 (And.intro @zE7 (And.intro @zE8 (And.intro @zj3 (And.intro @zj4 (And.intro @zj5 (And.intro @zE9 (And.intro @qI2 (And.intro @zY8 (And.intro @zF0 (And.intro @zd0 (And.intro @zl8 (And.intro @zY9 (And.intro @zj6 (And.intro @zF6 (And.intro @zZ6 (And.intro @qN0 (And.intro @zF1 (And.intro @zZ7 (And.intro @qU5 (And.intro @qI7 (And.intro @zZ8 (And.intro @zF7 (And.intro @zl9 (And.intro @zm1 (And.intro @zZ9 (And.intro @zF8 (And.intro @zm0 (And.intro @zF9 (And.intro @zm2 (And.intro @zm3 (And.intro @zG0 (And.intro @ja0 (And.intro @zm4 (And.intro @ja1 (And.intro @zG2 (And.intro @zm5 (And.intro @zm6 (And.intro @zG4 (And.intro @zG1 (And.intro @zG3 (And.intro @zm7 (And.intro @zm8 (And.intro @qU6 (And.intro @qU7 (And.intro @qU8 (And.intro @qU9 (And.intro @qV0 (And.intro @qV1 (And.intro @YZ (And.intro @zm9 (And.intro @qV3 (And.intro @zn0 (And.intro @zG5 (And.intro @qV2 (And.intro @qV4 (And.intro @zn1 (And.intro @qV5 (And.intro @qV6 (And.intro @zn2 (And.intro @ja2 (And.intro @zG6 (And.intro @zn3 (And.intro @qI8 (And.intro @zn4 (And.intro @qV7 (And.intro @qI9 (And.intro @qV8 (And.intro @qJ0 (And.intro @ja3 (And.intro @zG7 (And.intro @zG8 (And.intro @zn5 (And.intro @zn6 (And.intro @zG9 (And.intro @zn7 (And.intro @qV9 (And.intro @qJ1 (And.intro @zH0 (And.intro @zn8 (And.intro @zH1 (And.intro @qW0 (And.intro @zn9 (And.intro @qW1 (And.intro @zo0 (And.intro @qW2 (And.intro @qW3 (@qW4)))))))))))))))))))))))))))))))))))))))))))))))))))))))))))))))))))))))))))))))))))))))))))))))))))))))))))))))))))))))))))))))))))))))))))))))))))))))))))))))))))))))))))))))))))))))))))))))))))))))))))))))))))))))))))))))))))))))))))))))))))))))))))):=And.intro @zW0 (And.intro @zW1 (And.intro @jh9 (And.intro @zz6 (And.intro @ji0 (And.intro @zz7 (And.intro @zW2 (And.intro @zz8 (And.intro @ji2 (And.intro @ji3 (And.intro @ji4 (And.intro @qH5 (And.intro @qS9 (And.intro @zA0 (And.intro @qw9 (And.intro @qp4 (And.intro @ji5 (And.intro @zA1 (And.intro @zA2 (And.intro @R_op (And.intro @ji6 (And.intro @zA3 (And.intro @zA4 (And.intro @zA5 (And.intro @ji8 (And.intro @ji9 (And.intro @zA6 (And.intro @zA7 (And.intro @jj2 (And.intro @jj0 (And.intro @jj1 (And.intro @qW5 (And.intro @zH2 (And.intro @ja4 (And.intro @zh5 (And.intro @qT0 (And.intro @qT1 (And.intro @qT2 (And.intro @qT3 (And.intro @qH6 (And.intro @zB0 (And.intro @zB1 (And.intro @qH7 (And.intro @zW3 (And.intro @zB2 (And.intro @jj3 (And.intro @zh6 (And.intro @jj4 (And.intro @zB3 (And.intro @zW4 (And.intro @zW5 (And.intro @zh7 (And.intro @zh8 (And.intro @zW6 (And.intro @zB4 (And.intro @zB5 (And.intro @zW7 (And.intro @zW8 (And.intro @zW9 (And.intro @zB6 (And.intro @zX0 (And.intro @zB7 (And.intro @zh9 (And.intro @zi0 (And.intro @zi1 (And.intro @zX1 (And.intro @zX2 (And.intro @zB8 (And.intro @zB9 (And.intro @zC0 (And.intro @zX3 (And.intro @zX4 (And.intro @zi2 (And.intro @zi3 (And.intro @zC1 (And.intro @zi4 (And.intro @qH8 (And.intro @zC2 (And.intro @zC3 (And.intro @zX5 (And.intro @zX6 (And.intro @rv_t (And.intro @rv_k (And.intro @qH9 (And.intro @qx0 (And.intro @zC4 (And.intro @zC5 (And.intro @zC6 (And.intro @zC7 (And.intro @zC8 (And.intro @zi5 (And.intro @zC9 (And.intro @zH3 (And.intro @ja6 (And.intro @zD0 (And.intro @zD1 (And.intro @zD3 (And.intro @zF2 (And.intro @zj9 (And.intro @qI3 (And.intro @qx2 (And.intro @zj7 (And.intro @qI4 (And.intro @qx3 (And.intro @zj8 (And.intro @qU2 (And.intro @zF5 (And.intro @zZ4 (And.intro @zZ5 (And.intro @zl7 (And.intro @qU3 (And.intro @qI5 (And.intro @jk3 (And.intro @jk4 (And.intro @jk5 (And.intro @zD4 (And.intro @qT6 (And.intro @qx4 (And.intro @qp5 (And.intro @qp6 (And.intro @qI6 (And.intro @ji1 (And.intro @zz9 (And.intro @zD2 (And.intro @zX7 (And.intro @zX8 (And.intro @zX9 (And.intro @zi8 (And.intro @qT8 (And.intro @zD5 (And.intro @zD6 (And.intro @zi6 (And.intro @qT4 (And.intro @qI0 (And.intro @zi7 (And.intro @zi9 (And.intro @qT7 (And.intro @qx1 (And.intro @qT9 (And.intro @qU0 (And.intro @qU1 (And.intro @zj0 (And.intro @zD7 (And.intro @zD8 (And.intro @zY0 (And.intro @zD9 (And.intro @zE0 (And.intro @qI1 (And.intro @zE1 (And.intro @zY1 (And.intro @jj6 (And.intro @zY2 (And.intro @zY3 (And.intro @jj7 (And.intro @zE2 (And.intro @zY4 (And.intro @zE3 (And.intro @zE4 (And.intro @zY5 (And.intro @zE5 (And.intro @zE6 (And.intro @zY6 (And.intro @zY7 (And.intro @zj1 (And.intro @zj2 (And.intro @zE7 (And.intro @zE8 (And.intro @zj3 (And.intro @zj4 (And.intro @zj5 (And.intro @zE9 (And.intro @qI2 (And.intro @zY8 (And.intro @zF0 (And.intro @zd0 (And.intro @zl8 (And.intro @zY9 (And.intro @zj6 (And.intro @zF6 (And.intro @zZ6 (And.intro @qN0 (And.intro @zF1 (And.intro @zZ7 (And.intro @qU5 (And.intro @qI7 (And.intro @zZ8 (And.intro @zF7 (And.intro @zl9 (And.intro @zm1 (And.intro @zZ9 (And.intro @zF8 (And.intro @zm0 (And.intro @zF9 (And.intro @zm2 (And.intro @zm3 (And.intro @zG0 (And.intro @ja0 (And.intro @zm4 (And.intro @ja1 (And.intro @zG2 (And.intro @zm5 (And.intro @zm6 (And.intro @zG4 (And.intro @zG1 (And.intro @zG3 (And.intro @zm7 (And.intro @zm8 (And.intro @qU6 (And.intro @qU7 (And.intro @qU8 (And.intro @qU9 (And.intro @qV0 (And.intro @qV1 (And.intro @YZ (And.intro @zm9 (And.intro @qV3 (And.intro @zn0 (And.intro @zG5 (And.intro @qV2 (And.intro @qV4 (And.intro @zn1 (And.intro @qV5 (And.intro @qV6 (And.intro @zn2 (And.intro @ja2 (And.intro @zG6 (And.intro @zn3 (And.intro @qI8 (And.intro @zn4 (And.intro @qV7 (And.intro @qI9 (And.intro @qV8 (And.intro @qJ0 (And.intro @ja3 (And.intro @zG7 (And.intro @zG8 (And.intro @zn5 (And.intro @zn6 (And.intro @zG9 (And.intro @zn7 (And.intro @qV9 (And.intro @qJ1 (And.intro @zH0 (And.intro @zn8 (And.intro @zH1 (And.intro @qW0 (And.intro @zn9 (And.intro @qW1 (And.intro @zo0 (And.intro @qW2 (And.intro @qW3 (@qW4)))))))))))))))))))))))))))))))))))))))))))))))))))))))))))))))))))))))))))))))))))))))))))))))))))))))))))))))))))))))))))))))))))))))))))))))))))))))))))))))))))))))))))))))))))))))))))))))))))))))))))))))))))))))))))))))))))))))))))))))))))))))))))
theorem tl2:type_of% (
And.intro @Option.getD_some.{0} (And.intro @Option.isSome_some.{0} (And.intro @List.map_cons.{0,0} (And.intro @List.map_nil.{0,0} (And.intro @List.all_cons.{0} (And.intro @List.all_nil.{0} (And.intro @List.contains_cons.{0} (And.intro @List.contains_nil.{0} (And.intro @Bool.and_true (And.intro @Bool.true_and (And.intro @Bool.and_self (And.intro @Bool.or_true (And.intro @Bool.true_or (And.intro @Bool.or_false (And.intro @Bool.false_or (And.intro @true_and (And.intro @and_true (And.intro @BEq.rfl.{0} (And.intro @forall_const.{0} (And.intro @true_implies (And.intro @implies_true.{0} (And.intro @cond_true.{1} (And.intro @cond_false.{1} (And.intro @Bool.true_eq_false (And.intro @Bool.false_eq_true (And.intro @false_implies (And.intro @Bool.not_true (And.intro @Bool.not_false (And.intro @List.append_nil.{0} (And.intro @eq_self.{1} (And.intro @imp_self (And.intro @Bool.not_eq_true' (And.intro @ja5 (And.intro @and_false (And.intro @false_and (And.intro @or_false (And.intro @false_or (And.intro @List.length_cons.{0} (And.intro @List.length_nil.{0} (And.intro @List.length_map.{0,0} (And.intro @List.length_append.{0} (@and_self)))))))))))))))))))))))))))))))))))))))))):=And.intro @Option.getD_some.{0} (And.intro @Option.isSome_some.{0} (And.intro @List.map_cons.{0,0} (And.intro @List.map_nil.{0,0} (And.intro @List.all_cons.{0} (And.intro @List.all_nil.{0} (And.intro @List.contains_cons.{0} (And.intro @List.contains_nil.{0} (And.intro @Bool.and_true (And.intro @Bool.true_and (And.intro @Bool.and_self (And.intro @Bool.or_true (And.intro @Bool.true_or (And.intro @Bool.or_false (And.intro @Bool.false_or (And.intro @true_and (And.intro @and_true (And.intro @BEq.rfl.{0} (And.intro @forall_const.{0} (And.intro @true_implies (And.intro @implies_true.{0} (And.intro @cond_true.{1} (And.intro @cond_false.{1} (And.intro @Bool.true_eq_false (And.intro @Bool.false_eq_true (And.intro @false_implies (And.intro @Bool.not_true (And.intro @Bool.not_false (And.intro @List.append_nil.{0} (And.intro @eq_self.{1} (And.intro @imp_self (And.intro @Bool.not_eq_true' (And.intro @ja5 (And.intro @and_false (And.intro @false_and (And.intro @or_false (And.intro @false_or (And.intro @List.length_cons.{0} (And.intro @List.length_nil.{0} (And.intro @List.length_map.{0,0} (And.intro @List.length_append.{0} (@and_self)))))))))))))))))))))))))))))))))))))))))
theorem tl4:type_of% (
And.intro @jj8 (And.intro @zF3 (And.intro @jj9 (And.intro @jk0 (And.intro @jk1 (And.intro @jk2 (And.intro @zk0 (And.intro @zk1 (And.intro @zk2 (And.intro @zk3 (And.intro @zk4 (And.intro @zk5 (And.intro @zk6 (And.intro @zk7 (And.intro @zk8 (And.intro @zk9 (And.intro @zZ0 (And.intro @zZ1 (And.intro @zZ2 (And.intro @zZ3 (And.intro @zF4 (And.intro @zl0 (And.intro @zl1 (And.intro @zl2 (And.intro @zl3 (And.intro @zl4 (And.intro @zl5 (And.intro @zl6 (And.intro @qp7 (And.intro @qp8 (@qU4))))))))))))))))))))))))))))))):=And.intro @jj8 (And.intro @zF3 (And.intro @jj9 (And.intro @jk0 (And.intro @jk1 (And.intro @jk2 (And.intro @zk0 (And.intro @zk1 (And.intro @zk2 (And.intro @zk3 (And.intro @zk4 (And.intro @zk5 (And.intro @zk6 (And.intro @zk7 (And.intro @zk8 (And.intro @zk9 (And.intro @zZ0 (And.intro @zZ1 (And.intro @zZ2 (And.intro @zZ3 (And.intro @zF4 (And.intro @zl0 (And.intro @zl1 (And.intro @zl2 (And.intro @zl3 (And.intro @zl4 (And.intro @zl5 (And.intro @zl6 (And.intro @qp7 (And.intro @qp8 (@qU4))))))))))))))))))))))))))))))
end Go.TL
namespace Go.TL
abbrev vL (bs:List UInt8):T:=.sl 1 (bs.map yF)
def u8 (n:Int):UInt8:=UInt8.ofNat (n % 256).toNat
theorem jk8 (n:Int):((u8 n).toNat:Int) = n % 256:=by
 unfold u8
 have h:(n % 256).toNat < 256:=by omega
 rw [UInt8.toNat_ofNat']
 omega
theorem zd5 (b:UInt8):(b.toNat:Int) < 256:=by have:=b.toNat_lt;omega
theorem qJ3 {b:UInt8}:(yF b).cells = [yF b]:=rfl
theorem qX4 {st:Sto} {b:UInt8}:live st (yF b) = True:=by simp [yF,live,Value.oneCell']
theorem qJ4 {bs:List UInt8} {i:Nat} (h:i < bs.length):(bs.map yF).getD i .junk = .v (.int .u8 (bs.getD i 0).toNat):=by
 simp [List.getD,List.getElem?_eq_getElem h,yF]
theorem qp9 (bs:List UInt8):(bs.map yF).map YM = bs:=by
 induction bs with
 | nil=>rfl
 | cons b r ih=>
   simp only [List.map_cons,ih]
   congr 1
   simp [yF,YM]
theorem qX5 {bs:List UInt8}:∀ y∈bs.map yF,QU y = true:=by
 intro y hy
 obtain ⟨b,_,rfl⟩:=List.mem_map.1 hy
 rfl
theorem qJ5 {bs:List UInt8}:(∀ y∈bs.map yF,QU y = true) = True:=eq_true qX5
theorem zH5 {α:Type} {f:α→T} (h:∀ a,imL (f a).cells = true) (l:List α):qL7 (l.map f):=by
 intro x hx c hc
 obtain ⟨a,_,rfl⟩:=List.mem_map.1 hx
 exact qw8 (h a) c hc
theorem qy2 {bs:List UInt8}:qL7 (bs.map yF) = True:=eq_true (zH5 (fun _=>rfl) bs)
theorem qa0 {α β:Type} (f:α→β) (a b:Int) (l:List α):cutT a b (l.map f) = (cutT a b l).map f:=by
 simp [cutT,List.map_take,List.map_drop]
theorem zS0 {α:Type} {a:Nat} {l:List α}:cutT (a:Int) (l.length:Int) l = l.drop a:=by simp [cutT]
theorem qJ6 {α:Type} {b:Nat} {l:List α}:cutT 0 (b:Int) l = l.take b:=by simp [cutT]
theorem qN2 {k:Nat}:ImXs k [] = True:=by simp [ImXs]
abbrev vIs (l:List Int):T:=.sl 1 (l.map vI)
theorem qh {α:Type} {l:List α} {i:Nat} {d:α} (h:i < l.length):l.getD i d = l[i]:=by simp [List.getD,h]
def frzC (i:Nat) (o:Option Ob) (l:List (Nat×Ob)):List (Nat×Ob):=match o with
 | some (.arr k xs _)=>(i,.arr k xs true) :: l
 | _=>l
def frz (st:Sto):List Nat→List (Nat×Ob)
 | []=>[]
 | i :: r=>frzC i (TL.get st i) (frz st r)
def zS1 (st:Sto) (i:Nat):Bool:=match TL.get st i with | some (.arr ..)=>true | _=>false
theorem zH6 {st:Sto}:frz st [] = []:=_root_.id rfl
theorem qu1 {st:Sto} {i:Nat} {r:List Nat}:frz st (i :: r) = frzC i (TL.get st i) (frz st r):=_root_.id rfl
theorem qN3 {i k:Nat} {xs:List T} {fz:Bool} {l:List (Nat×Ob)}:frzC i (some (.arr k xs fz)) l = (i,.arr k xs true) :: l:=_root_.id rfl
theorem Kb {st:Sto}:∀ (B:List Nat),wrOk st [] [] [] [] (frz st B)
 | []=>trivial
 | i :: r=>by
   rw [qu1]
   cases h:TL.get st i with
   | none=>exact Kb r
   | some o=>cases o with
     | dead=>exact Kb r
     | mp es=>exact Kb r
     | full i n g=>exact Kb r
     | arr k xs fz=>
       refine ⟨?_,Kb r⟩
       simp only [TL.get,wrO,h]
       exact ⟨trivial,⟨trivial,trivial⟩,by simp⟩
theorem zd6 {st:Sto}:∀ (B:List Nat) (i:Nat),i∈B→zS1 st i = true→∃ k xs,TL.get (frz st B) i = some (.arr k xs true)
 | [],i,h,_=>by simp at h
 | j :: r,i,h,hi=>by
   rw [qu1]
   by_cases hj:j = i
   ·subst hj
    unfold zS1 at hi
    split at hi
    ·rename_i k xs fz hg
     rw [hg,qN3]
     exact ⟨k,xs,by simp [TL.get]⟩
    ·cases hi
   ·obtain ⟨k,xs,h3⟩:=zd6 r i (by rcases List.mem_cons.1 h with h | h;exact absurd h.symm hj;exact h) hi
    refine ⟨k,xs,?_⟩
    unfold frzC
    split
    ·simp [TL.get,hj,h3]
    ·exact h3
theorem zd7 {wr:Sto}:∀ {B:List Nat},(∀ i∈B,∃ k xs,TL.get wr i = some (.arr k xs true))→fzOk wr B = true
 | [],_=>rfl
 | i :: r,h=>by
   obtain ⟨k,xs,h1⟩:=h i (by simp)
   simp only [fzOk,h1,Bool.true_and]
   exact zd7 fun j hj=>h j (by simp [hj])
section
variable {P:Program} {st:Sto} {e:Env} {kss:List (Nat×List Nat)} {Q:Ex→St→Prop} {K:List KF} {rows:Option (List Nat)} {ks:List Nat} {nid:Nat} {ops:List ROp} {F:XF} {acc:Acc}
theorem C1.shut {fid:FuncId} {caps xs ts':List T} {r:T} {d:Option Nat} (B:List Nat) (hs:Spc P fid ts' [] r [])
 (ha:ltAs st [] B (xs ++ caps) ts') (h2:Wp r = true) (hB:B.all (zS1 st) = true)
 (h:R P e kss Q rows ks K nid ops (putX F d (.p r)) (stUp st (frz st B)) (acc ++ [(B ++ (frz st B).map (·.1),(frz st B).map (·.1))])):C1 P e kss Q rows ks K (.clo fid caps) xs d nid ops F st acc:=
 .of [] [] B (frz st B) hs ha rfl trivial (by simp) rfl (Kb B) rfl rfl (qf0 h2) (.inl (zd7 fun i hi=>by
  obtain ⟨k,xs,h3⟩:=zd6 B i hi (List.all_eq_true.1 hB i hi)
  exact ⟨k,xs,by rw [zS,h3];rfl⟩)) h
theorem C1.shutD {fid:FuncId} {caps xs ts':List T} {r:T} {d:Option Nat} (B:List Nat) (hs:Spc P fid ts' [] r [])
 (ha:ptw (ltAD st B) (xs ++ caps) ts') (h2:Wp r = true) (hB:B.all (zS1 st) = true)
 (h:R P e kss Q rows ks K nid ops (putX F d (.p r)) (stUp st (frz st B)) (acc ++ [(B ++ (frz st B).map (·.1),(frz st B).map (·.1))])):C1 P e kss Q rows ks K (.clo fid caps) xs d nid ops F st acc:=
 ⟨r,frz st B,_,.ofL [] [] B (frz st B) hs (ptwA ha) rfl trivial (by simp) rfl (Kb B) rfl rfl (qf0 h2) (.inl (zd7 fun i hi=>by
   obtain ⟨k,xs,h3⟩:=zd6 B i hi (List.all_eq_true.1 hB i hi)
   exact ⟨k,xs,by rw [zS,h3];rfl⟩)),h⟩
end
section
variable {st:Sto}
theorem qX6 {n:Nat} {d:T}:([]:List T).getD n d = d:=_root_.id rfl
theorem qJ7:T.junk.cells = [.junk]:=_root_.id rfl
theorem zo3:conT st .junk = none:=_root_.id rfl
theorem qJ8 {p:Prop}:zR9 none p = none:=_root_.id rfl
theorem qX7 {op:BinOp} {ib:Bool} {y:T}:binR op ib .junk y = none:=by cases y <;> rfl
theorem qJ9 {op:BinOp} {ib:Bool} {y:T}:binR op ib (.v undef) y = none:=by
 cases y <;> first | rfl | (rename_i v;cases v <;> rfl)
theorem qX8 {cells:List T}:qM4 cells [] = some cells:=_root_.id rfl
theorem qK0 {cells:List T} {off n:Nat} {x:T} {r:List ((Nat×Nat)×T)}:qM4 cells (((off,n),x) :: r) = if x.cells.length = n∧off + n≤cells.length then qM4 (cells.take off ++ x.cells ++ cells.drop (off + n)) r else none:=_root_.id rfl
theorem zH7 {a b:ByteArray}:strT .eql a b = retB (a.toList == b.toList):=_root_.id rfl
theorem zH8 {a b:ByteArray}:strT .neq a b = retB (!(a.toList == b.toList)):=_root_.id rfl
theorem zH9 {a b:ByteArray}:strT .add a b = some ⟨a.size + b.size≤9223372036854775807,.v (.string (a ++ b)),[]⟩:=_root_.id rfl
theorem zI0 {a b:ByteArray}:strT .gtr a b = retB (!(Op.bytesLess a.toList b.toList || a.toList == b.toList)):=_root_.id rfl
theorem zI1 {a b:ByteArray}:strT .leq a b = retB (Op.bytesLess a.toList b.toList || a.toList == b.toList):=_root_.id rfl
theorem zI2 {a b:ByteArray}:strT .geq a b = retB (!Op.bytesLess a.toList b.toList):=_root_.id rfl
theorem zI3 {a b:ByteArray}:strT .lss a b = retB (Op.bytesLess a.toList b.toList):=_root_.id rfl
theorem ex_0 {a:T} {r:List T}:QX (.tup (a :: r)) 0 = ret a:=_root_.id rfl
theorem ex_1 {a:T} {r:List T} {n:Nat}:QX (.tup (a :: r)) (n + 1) = QX (.tup r) n:=by simp [QX]
theorem mn_2 {a b:Int}:qq6 minI [vI a,vI b] = retI .i64 (minI a b):=_root_.id rfl
theorem mx_2 {a b:Int}:qq6 maxI [vI a,vI b] = retI .i64 (maxI a b):=_root_.id rfl
theorem tl3:type_of% (And.intro @qX6 (And.intro @qJ7 (And.intro @zo3 (And.intro @qJ8 (And.intro @qX7 (And.intro @qJ9 (And.intro @zA8 (And.intro @qy2 (And.intro @zH6 (And.intro @qu1 (And.intro @qN3 (And.intro @qX8 (And.intro @qK0 (And.intro @zH7 (And.intro @zH8 (And.intro @zH9 (And.intro @zI3 (And.intro @zI0 (And.intro @zI1 (And.intro @zI2 (And.intro @ex_0 (And.intro @ex_1 (And.intro @mn_2 (And.intro @mx_2 (And.intro @ByteArray.toList_mk (And.intro @qp9 (And.intro @qJ5 (And.intro @qJ3 (And.intro @qX4 (And.intro @List.take_succ_cons.{0} (And.intro @List.drop_succ_cons.{0} (And.intro @List.take_zero.{0} (And.intro @List.drop_zero.{0} (And.intro @List.take_nil.{0} (And.intro @List.drop_nil.{0} (And.intro @List.cons_append.{0} (And.intro @List.nil_append.{0} (And.intro @Nat.zero_add (And.intro @List.set_cons_zero.{0} (@List.set_cons_succ.{0})))))))))))))))))))))))))))))))))))))))):=
 And.intro @qX6 (And.intro @qJ7 (And.intro @zo3 (And.intro @qJ8 (And.intro @qX7 (And.intro @qJ9 (And.intro @zA8 (And.intro @qy2 (And.intro @zH6 (And.intro @qu1 (And.intro @qN3 (And.intro @qX8 (And.intro @qK0 (And.intro @zH7 (And.intro @zH8 (And.intro @zH9 (And.intro @zI3 (And.intro @zI0 (And.intro @zI1 (And.intro @zI2 (And.intro @ex_0 (And.intro @ex_1 (And.intro @mn_2 (And.intro @mx_2 (And.intro @ByteArray.toList_mk (And.intro @qp9 (And.intro @qJ5 (And.intro @qJ3 (And.intro @qX4 (And.intro @List.take_succ_cons.{0} (And.intro @List.drop_succ_cons.{0} (And.intro @List.take_zero.{0} (And.intro @List.drop_zero.{0} (And.intro @List.take_nil.{0} (And.intro @List.drop_nil.{0} (And.intro @List.cons_append.{0} (And.intro @List.nil_append.{0} (And.intro @Nat.zero_add (And.intro @List.set_cons_zero.{0} (@List.set_cons_succ.{0})))))))))))))))))))))))))))))))))))))))
end
end Go.TL
namespace Go.TL
section
variable {P:Program} {e:Env} {kss:List (Nat×List Nat)} {Q:Ex→St→Prop} {K:List KF} {fr:List (Nat×T)} {st:Sto}
def rm1 (k:Nat):List (Nat×T)→List (Nat×T)
 | []=>[]
 | (t,x) :: r=>if t = k then rm1 k r else (t,x) :: rm1 k r
def rmK:List Nat→List (Nat×T)→List (Nat×T)
 | [],fr=>fr
 | k :: ks,fr=>rm1 k (rmK ks fr)
theorem qy {α:Type} {body:RC} (hm:P.follows .mixedOrders = true) (ks:List Nat) (I:α→Prop) (ch:α→List (Nat×T)) (g:α→Sto) (μ:α→Nat) (x0:α) (h0:I x0) (hs:Le e ⟨fr,st⟩ ⟨ch x0 ++ rmK ks fr,g x0⟩)
 (round:∀ x,I x→W P e kss (LQ P e kss Q K I (fun x=>ch x ++ rmK ks fr) g μ x) body [] (ch x ++ rmK ks fr) (g x)):W P e kss Q (.loop body) K fr st:=
 jk7 hm I (fun x=>ch x ++ rmK ks fr) g μ x0 h0 hs round
end
theorem qe {α:Type} {f:α→T} {l:List α} {i:Nat} (h:i < l.length):(l.map f).getD i .junk = f l[i]:=by
 rw [qh (by simpa using h)];simp
theorem qj {i:Nat} (h:i < 4611686018427387904):IntKind.i64.wrap ((i:Int) + 1) = ((i + 1:Nat):Int):=by
 rw [IntWalk.i64_in _ (by omega)];omega
theorem wQ {i:Nat} (h:0 < i) (h2:i < 4611686018427387904):IntKind.i64.wrap ((i:Int) - 1) = ((i - 1:Nat):Int):=by
 rw [IntWalk.i64_in _ (by omega)];omega
theorem zy {α:Type} {st:Sto} {ρ:Ren} {B:List Nat} {k:Nat} {f:α→T} (h:∀ a,(f a).cells.length = k∧imL (f a).cells = true) (l:List α):ltXs st ρ B k (l.map f) (l.map f):=Qr (qA h l)
theorem zc {α:Type} {l:List α} {i:Nat} (h:i < l.length):l.take (i + 1) = l.take i ++ [l[i]]:=List.take_succ_eq_append_getElem h
theorem qR {k:Nat} {a b:List T} (h1:ImXs k a) (h2:ImXs k b):ImXs k (a ++ b):=fun x hx=>by
 rcases List.mem_append.1 hx with h | h
 ·exact h1 x h
 ·exact h2 x h
theorem qG {k:Nat} {x:T} {a:List T} (h0:x.cells.length = k∧imL x.cells = true) (h:ImXs k a):ImXs k (x :: a):=fun y hy=>by
 rcases List.mem_cons.1 hy with rfl | hy
 ·exact h0
 ·exact h y hy
theorem qV {k:Nat}:ImXs k []:=fun x hx=>by simp at hx
theorem qf1 {α:Type} {p:α→Bool} {l:List α} {i:Nat} (h:i < l.length) (hp:p l[i] = true):l.any p = true:=List.any_eq_true.2 ⟨l[i],List.getElem_mem h,hp⟩
theorem jD {α:Type} {p:α→Bool} {l:List α} {i:Nat} (h:i < l.length) (h1:(l.take i).any p = false) (hp:p l[i] = false):(l.take (i + 1)).any p = false:=by
 rw [zc h,List.any_append,h1]
 simp [hp]
theorem yH {α:Type} {p:α→Bool}:∀ {l:List α} {i:Nat} (h:i < l.length),(l.take i).any p = false→p l[i] = true→l.findIdx p = i
 | [],i,h,_,_=>by simp at h
 | x :: r,0,h,_,hp=>by simp at hp;simp [List.findIdx_cons,hp]
 | x :: r,i + 1,h,h1,hp=>by
   simp only [List.take_succ_cons,List.any_cons,Bool.or_eq_false_iff] at h1
   rw [List.findIdx_cons,h1.1,cond_false,yH (l:=r) (i:=i) (by simpa using h) h1.2 (by simpa using hp)]
def idxI {α:Type} (p:α→Bool) (l:List α):Int:=if l.any p = true then l.findIdx p else -1
theorem qa1 {α:Type} (p:α→Bool) (l:List α):decide (0≤idxI p l) = l.any p:=by
 unfold idxI
 cases h:l.any p <;> simp
def qa2 {α:Type} (eq:α→α→Bool):List α→List α→Bool
 | [],[]=>true
 | a :: as,b :: bs=>eq a b && qa2 eq as bs
 | _,_=>false
section
variable {α:Type} {eq:α→α→Bool}
theorem zo4:∀ {a b:List α},a.length≠b.length→qa2 eq a b = false
 | [],[],h=>absurd rfl h
 | [],_ :: _,_=>rfl
 | _ :: _,[],_=>rfl
 | a :: as,b :: bs,h=>by
   simp only [qa2]
   rw [zo4 (a:=as) (b:=bs) (by simpa using h),Bool.and_false]
theorem Wr:∀ {a b c d:List α},a.length = b.length→qa2 eq (a ++ c) (b ++ d) = (qa2 eq a b && qa2 eq c d)
 | [],[],c,d,_=>by simp [qa2]
 | [],_ :: _,_,_,h=>by simp at h
 | _ :: _,[],_,_,h=>by simp at h
 | a :: as,b :: bs,c,d,h=>by
   simp only [List.cons_append,qa2]
   rw [Wr (by simpa using h),Bool.and_assoc]
theorem qK1 {a b:List α} {i:Nat} (ha:i < a.length) (hb:i < b.length):qa2 eq (a.take (i + 1)) (b.take (i + 1)) = (qa2 eq (a.take i) (b.take i) && eq a[i] b[i]):=by
 rw [zc ha,zc hb,Wr (by simp;omega)]
 simp [qa2]
theorem zd8 {a b:List α} {i:Nat} (hl:a.length = b.length) (ha:i < a.length) (h:eq a[i] (b[i]'(by omega)) = false):qa2 eq a b = false:=by
 have e:qa2 eq a b = qa2 eq (a.take (i + 1) ++ a.drop (i + 1)) (b.take (i + 1) ++ b.drop (i + 1)):=by rw [List.take_append_drop,List.take_append_drop]
 rw [e,Wr (by simp;omega),qK1 ha (by omega),h]
 simp
end
theorem je5 {x:T} (h:imT0 x = true):imT x = true:=by
 cases x <;> first | exact h | (simp [imT0] at h)
theorem zI4:∀ {l:List T},qQ9 l = true→imL l = true
 | [],_=>rfl
 | x :: r,h=>by
   simp only [qQ9,Bool.and_eq_true] at h
   simp only [imL,Bool.and_eq_true]
   exact ⟨je5 h.1,zI4 h.2⟩
theorem je6 {x:T} (h:imT x = true):imA x = true:=by
 cases x with
 | clo f cs=>exact zI4 h
 | agg cs=>simp [imT,imT0] at h
 | _=>exact h
theorem je7 {l:List T} (h:imL l = true):imAL l = true:=by
 induction l with
 | nil=>rfl
 | cons c r ih=>
   simp only [imL,Bool.and_eq_true] at h
   simp only [imAL,Bool.and_eq_true]
   refine ⟨?_,ih h.2⟩
   exact je6 h.1
theorem qf2 {x:T} {f:FuncId} {caps:List T} (h0:imA x = true) (h:imL caps = true):imAL [x,.clo f caps] = true:=by
 show (imA x && (imL caps && true)) = true
 rw [h0,h];rfl
theorem Ws {x:T} {l:List T} (h0:imA x = true) (h:imL l = true):imAL (x :: l) = true:=by
 simp only [imAL,h0,je7 h,Bool.and_self]
def nx (l:List UInt8) (at_:Nat) (n:Int):Int×Nat:=
 if n < 1∨l.length≤at_ then (0,at_)
 else if 256 < n∧at_ + 1 < l.length then (((l.getD at_ 0).toNat * 256 + (l.getD (at_ + 1) 0).toNat) % n,at_ + 2)
 else ((l.getD at_ 0).toNat % n,at_ + 1)
abbrev oC (l:List UInt8) (at_:Nat):Ob:=.arr 2 [.agg [vL l,vI at_]] false
theorem qq9 (l:List UInt8) (at_:Nat) (n:Int) (h:at_≤l.length):(nx l at_ n).2≤l.length:=by
 unfold nx
 split
 ·exact h
 ·split
  ·simp only;omega
  ·simp only;omega
theorem Qj (l:List UInt8) (at_:Nat) (n:Int) (h:1≤n):0≤(nx l at_ n).1∧(nx l at_ n).1 < n:=by
 unfold nx
 split
 ·simp only;omega
 ·split
  ·exact ⟨Int.emod_nonneg _ (by omega),Int.emod_lt_of_pos _ (by omega)⟩
  ·exact ⟨Int.emod_nonneg _ (by omega),Int.emod_lt_of_pos _ (by omega)⟩
section
variable {P:Program} {e:Env} {kss:List (Nat×List Nat)} {Q:Ex→St→Prop} {K:List KF} {rows:Option (List Nat)} {ks:List Nat} {nid:Nat} {ops:List ROp} {F:XF} {acc:Acc} {st:Sto} {fid:FuncId} {xs caps ts':List T} {r:T} {d:Option Nat}
theorem C1.draw (id:Nat) (l:List UInt8) (a a':Nat)
 (hs:Spc P fid (.ptr 0 1 0 0 :: xs) [(0,oC l a)] r [(0,oC l a')]) (hg:TL.get st id = some (oC l a)) (hx:imAL xs = true) (h2:Wp r = true)
 (h:R P e kss Q rows ks K nid ops (putX F d (.p r)) (stUp st [(id,oC l a')]) (acc ++ [([] ++ [(id,oC l a')].map (·.1),[(id,oC l a')].map (·.1))])):C1 P e kss Q rows ks K (.clo fid []) (.ptr id 1 0 0 :: xs) d nid ops F st acc:=by
 refine C1.of [(0,some id)] [(id,some 0)] [] [(id,oC l a')] hs ?_ (by simp [Qz,TL.get]) ?_ (by rfl) (by simp [TL.get]) ?_ (by simp [Qz,TL.get]) (by rfl) (qf0 h2) (.inl (by rfl)) h
 ·rw [List.append_nil]
  exact ⟨by simp [ltA,ltC,ltC0,TL.get],qy1 hx⟩
 ·refine ⟨?_,trivial⟩
  simp only [TL.get,if_true,ltO2,hg,ltO1]
  exact ⟨trivial,by simp,qO ⟨rfl,rfl,rfl,rfl,trivial⟩ qY,by simp⟩
 ·refine ⟨?_,trivial⟩
  simp only [TL.get,if_true,wrO,ltO1]
  exact ⟨⟨trivial,by simp,qO ⟨rfl,rfl,rfl,rfl,trivial⟩ qY,by simp⟩,.inr ⟨trivial,rfl⟩⟩
theorem C1.keep (id k:Nat) (ys:List T)
 (hs:Spc P fid ts' [(0,.arr k ys false)] r [(0,.arr k ys false)]) (hg:TL.get st id = some (.arr k ys false)) (him:ImXs k ys) (ha:ltAs st [(0,some id)] [] (xs ++ caps) ts') (h2:Wp r = true)
 (h:R P e kss Q rows ks K nid ops (putX F d (.p r)) (stUp st [(id,.arr k ys false)]) (acc ++ [([] ++ [(id,Ob.arr k ys false)].map (·.1),[(id,Ob.arr k ys false)].map (·.1))])):C1 P e kss Q rows ks K (.clo fid caps) xs d nid ops F st acc:=by
 refine C1.of [(0,some id)] [(id,some 0)] [] [(id,.arr k ys false)] hs ha (by simp [Qz,TL.get]) ?_ (by rfl) (by simp [TL.get]) ?_ (by simp [Qz,TL.get]) (by rfl) (qf0 h2) (.inl (by rfl)) h
 ·refine ⟨?_,trivial⟩
  simp only [TL.get,if_true,ltO2,hg,ltO1]
  exact ⟨trivial,by simp,Qr him,by simp⟩
 ·refine ⟨?_,trivial⟩
  simp only [TL.get,if_true,wrO,ltO1]
  exact ⟨⟨trivial,by simp,Qr him,by simp⟩,.inr ⟨trivial,rfl⟩⟩
theorem C1.upd (id k:Nat) (ys zs:List T)
 (hs:Spc P fid ts' [(0,.arr k ys false)] r [(0,.arr k zs false)]) (hg:TL.get st id = some (.arr k ys false)) (him:ImXs k ys) (him2:ImXs k zs) (ha:ltAs st [(0,some id)] [] (xs ++ caps) ts') (h2:Wp r = true)
 (h:R P e kss Q rows ks K nid ops (putX F d (.p r)) (stUp st [(id,.arr k zs false)]) (acc ++ [([] ++ [(id,Ob.arr k zs false)].map (·.1),[(id,Ob.arr k zs false)].map (·.1))])):C1 P e kss Q rows ks K (.clo fid caps) xs d nid ops F st acc:=by
 refine C1.of [(0,some id)] [(id,some 0)] [] [(id,.arr k zs false)] hs ha (by simp [Qz,TL.get]) ?_ (by rfl) (by simp [TL.get]) ?_ (by simp [Qz,TL.get]) (by rfl) (qf0 h2) (.inl (by rfl)) h
 ·refine ⟨?_,trivial⟩
  simp only [TL.get,if_true,ltO2,hg,ltO1]
  exact ⟨trivial,by simp,Qr him,by simp⟩
 ·refine ⟨?_,trivial⟩
  simp only [TL.get,if_true,wrO,ltO1]
  exact ⟨⟨trivial,by simp,Qr him2,by simp⟩,.inr ⟨trivial,rfl⟩⟩
theorem C1.newdraw {l:List UInt8} {a:Nat} (nid':Nat) (hs:Spc P fid (xs ++ caps) [] (.ptr 0 1 0 0) [(0,oC l a)]) (h1:imAL (xs ++ caps) = true) (hn:TL.get st nid' = none)
 (h:R P e kss Q rows ks K nid ops (putX F d (.p (.ptr nid' 1 0 0))) (stUp st [(nid',oC l a)]) (acc ++ [([] ++ [nid'],[nid'])])):C1 P e kss Q rows ks K (.clo fid caps) xs d nid ops F st acc:=by
 refine C1.of [] [(nid',some 0)] [] [(nid',oC l a)] hs (qy1 h1) rfl trivial (by simp) (by rfl) ?_ (by simp [Qz,TL.get]) (by rfl) ?_ (.inl (by rfl)) h
 ·refine ⟨?_,trivial⟩
  simp only [TL.get,if_true,wrO,ltO1]
  exact ⟨⟨trivial,by simp,qO ⟨rfl,rfl,rfl,rfl,trivial⟩ qY,by simp⟩,.inl hn⟩
 ·exact ⟨by simp [TL.get],rfl,rfl,rfl⟩
theorem C2.one {L:List (Nat×Bool)} {c:Prop} {f:T} {as:List T} (hc:c) (h:C1 P e kss Q rows ks K f as d nid ops F st acc):C2 P e kss Q rows ks K L c f as d nid ops F st acc:=by
 obtain ⟨val,wr,rd,h1,h2⟩:=h
 exact ⟨val,wr,rd,fun _=>h1,.inr (.inl ⟨hc,h2⟩)⟩
theorem C2.no {L:List (Nat×Bool)} {c:Prop} {f:T} {as:List T} (hc:¬ c) (h:R P e kss Q rows ks K nid ops (putX F d (.p (.v undef))) st (acc ++ [([],[])])):C2 P e kss Q rows ks K L c f as d nid ops F st acc:=
 ⟨.junk,[],[],fun h=>absurd h hc,.inr (.inr ⟨hc,h⟩)⟩
theorem C1.fresh {ys:List T} {m k:Nat} (nid':Nat) (hs:Spc P fid (xs ++ caps) [] (.asl 0 m) [(0,.arr k ys false)]) (h1:imAL (xs ++ caps) = true) (hy:ImXs k ys) (hn:TL.get st nid' = none)
 (h:R P e kss Q rows ks K nid ops (putX F d (.p (.asl nid' m))) (stUp st [(nid',.arr k ys false)]) (acc ++ [([] ++ [nid'],[nid'])])):C1 P e kss Q rows ks K (.clo fid caps) xs d nid ops F st acc:=by
 refine C1.of [] [(nid',some 0)] [] [(nid',.arr k ys false)] hs (qy1 h1) rfl trivial (by simp) (by rfl) ?_ (by simp [Qz,TL.get]) (by rfl) ?_ (.inl (by rfl)) h
 ·refine ⟨?_,trivial⟩
  simp only [TL.get,if_true,wrO,ltO1]
  exact ⟨⟨trivial,by simp,Qr hy,by simp⟩,.inl hn⟩
 ·exact ⟨by simp [TL.get],rfl⟩
end
theorem clA {p:Prop} (h:p:=by
 all_goals (try simp only [Qq,ltO2,ltO1,ltAs,ltA,ltC,ltC0,qx5,ltCs,ltT,ltFr,ltS,wrOk,wrO,TL.get,zt4,↓reduceIte,Nat.reduceEqDiff,reduceCtorEq,Option.getD_some,Option.isSome_some,List.length_map,List.length_append,List.length_cons,List.length_nil,List.append_nil,List.mem_singleton,List.mem_cons,List.not_mem_nil,and_true,true_and,and_self,imp_self,forall_const,false_implies,implies_true,true_implies,or_false,Bool.false_eq_true,Bool.true_eq_false,qN2,true_or,or_true,false_or,false_and,and_false,rmK,rm1,List.map_append,List.map_cons,List.map_nil,List.cons_append,List.nil_append])
 all_goals (try (repeat' (first
  | exact qY
  | (apply zy;intro _;exact ⟨rfl,rfl⟩)
  | (apply qA;intro _;exact ⟨rfl,rfl⟩)
  | with_reducible apply qR
  | with_reducible refine qG ⟨rfl,rfl⟩ ?_
  | exact qV
  | with_reducible apply qM
  | with_reducible refine qO ⟨rfl,rfl,?_⟩ ?_
  | with_reducible apply And.intro
  | exact qQ rfl
  | exact qQ (by assumption)
  | exact Qr (by assumption)
  | (refine ⟨⟨?_,rfl,?_,rfl,?_⟩,trivial⟩ <;> first | (simp;done) | (apply qA;intro _;exact ⟨rfl,rfl⟩))
  | trivial
  | rfl
  | (rw [qj (by omega)])
  | omega)))):p:=h
theorem sW {p q:Prop} (h:q) (e:p = q:=by simp only [tl,tl2,tl4,↓un_u,zx,entX,KL,ret,retI,retB,intT,unT,endR,qe5,resR,tupT,bslR,boxR,KD,↓reduceIte,Nat.reduceEqDiff,Nat.reduceAdd,Nat.reduceMul,Nat.reduceLT,Nat.reduceLeDiff,reduceCtorEq,Int.reduceLE,Int.reduceLT,ne_eq,Int.reduceEq,not_false_eq_true,decide_true,decide_false,Int.reduceToNat,tl3,Int.reduceBNe,Int.reduceBEq,rmK,rm1,not_true_eq_false];rfl):p:=e.mpr h
theorem sD {p q:Prop} (h:q) (e:p = q:=by simp only [tl,tl2,tl4,↓un_u,zx,entX,KL,ret,retI,retB,intT,unT,endR,qe5,resR,tupT,bslR,boxR,KD,↓reduceIte,Nat.reduceEqDiff,Nat.reduceAdd,Nat.reduceMul,Nat.reduceLT,Nat.reduceLeDiff,reduceCtorEq,Int.reduceLE,Int.reduceLT,ne_eq,Int.reduceEq,not_false_eq_true,decide_true,decide_false,Int.reduceToNat,tl3,Int.reduceBNe,Int.reduceBEq,rmK,rm1,not_true_eq_false,decide_eq_true_eq,decide_eq_false_iff_not,Bool.or_eq_true,Bool.or_eq_false_iff,Bool.and_eq_true,Bool.and_eq_false_iff];rfl):p:=e.mpr h
end Go.TL
