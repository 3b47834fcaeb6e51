/- A part of the proof: trees of Go values, short forms, contracts. -/
import Derived.WalkKit
import Derived.Still
import Derived.MapKept
import GoSem.Builtin.Cap
import Derived.Laws.Externs
import GoSem.Extern.SlicesOverlaps
import Derived.Test.YtnfagfikoblhfaaGreatDoorK7
namespace Go.TL
set_option linter.unusedSimpArgs false
set_option linter.unusedVariables false
abbrev vI (n:Int):T:=.v (.int .i64 n)
abbrev vB (b:Bool):T:=.v (.bool b)
abbrev vU64 (n:Int):T:=.v (.int .u64 n)
abbrev vS (s:ByteArray):T:=.v (.string s)
def qh1 (fr:List (Nat×T)):List (Nat×T)→Prop
 | []=>True
 | (t,x)::r=>TL.get fr t=some x∧qh1 fr r
section
variable {P:Program} {e:Env} {kss:List (Nat×List Nat)} {Q:Ex→St→Prop} {K:List KF} {fr:List (Nat×T)} {st:Sto}
theorem jA2 {fr fr':List (Nat×T)} (h:qh1 fr fr') {t:Nat} {x:T} (hx:TL.get fr' t=some x):TL.get fr t=some x:=by
 induction fr' with
 | nil=>cases hx
 | cons p r ih=>
   obtain⟨u,y⟩:=p;obtain⟨h1,h2⟩:=h;simp only[TL.get] at hx;split at hx
   ·rename_i hu;subst hu;injection hx with hx;subst hx;exact h1
   ·exact ih h2 hx
theorem Le.ofFr {fr fr':List (Nat×T)} {st:Sto} (h:qh1 fr fr'):Le e ⟨fr,st⟩ ⟨fr',st⟩:=
 fun ι a w hR=>⟨ι,hR.drop rfl fun t x hx=>jA2 h hx⟩
def LQ {α:Type} (P:Program) (e:Env) (kss:List (Nat×List Nat)) (Q:Ex→St→Prop) (K:List KF) (I:α→Prop) (f:α→List (Nat×T)) (g:α→Sto) (μ:α→Nat) (x:α):Ex→St→Prop
 | .normal,s=>∃ y,I y∧μ y<μ x∧Le e s ⟨f y,g y⟩
 | .exit i,s=>X P e kss Q (.exit i) K s.fr s.st
 | .ret,s=>X P e kss Q .ret K s.fr s.st
theorem zK3 {α:Type} {I:α→Prop} {f:α→List (Nat×T)} {g:α→Sto} {μ:α→Nat} {x:α}:LQ P e kss Q K I f g μ x .normal ⟨fr,st⟩=∃ y,I y∧μ y<μ x∧Le e ⟨fr,st⟩ ⟨f y,g y⟩:=_root_.id rfl
theorem jA3 {α:Type} {I:α→Prop} {f:α→List (Nat×T)} {g:α→Sto} {μ:α→Nat} {x:α} {i:Nat}:LQ P e kss Q K I f g μ x (.exit i) ⟨fr,st⟩=X P e kss Q (.exit i) K fr st:=_root_.id rfl
theorem jW0 {α:Type} {I:α→Prop} {f:α→List (Nat×T)} {g:α→Sto} {μ:α→Nat} {x:α}:LQ P e kss Q K I f g μ x .ret ⟨fr,st⟩=X P e kss Q .ret K fr st:=_root_.id rfl
theorem zs6 {α:Type} {body:RC} (hm:P.follows .mixedOrders=true) (I:α→Prop) (f:α→List (Nat×T)) (g:α→Sto) (μ:α→Nat) (x0:α) (h0:I x0) (hs:Le e ⟨fr,st⟩ ⟨f x0,g x0⟩)
 (round:∀ x,I x→W P e kss (LQ P e kss Q K I f g μ x) body [] (f x) (g x)):W P e kss Q (.loop body) K fr st:=by
 refine WPR.loop hm I (fun x=>⟨f x,g x⟩) μ x0 h0 hs fun x hI=>?_;have:jK6 e I (fun x=>⟨f x,g x⟩) μ x (kq P e kss Q K)=LQ P e kss Q K I f g μ x:=by
  funext ex s
  cases ex <;> rfl
 rw[this];exact round x hI
theorem Zq.imR {x r:T} {st:Sto} (h:x=r) (hi:qj9 x=true):Zq [] x st r []:=h ▸ .im hi
theorem jW1 {a b:Int}:(a≥b)=(b≤a):=rfl
theorem jA4 {a b:Bool}:(bif a then b else false)=(a&&b):=by cases a <;> rfl
theorem jW2 {a b:Bool}:(bif a then true else b)=(a||b):=by cases a <;> rfl
end
end Go.TL
namespace Go.TL
abbrev Ren:=List (Nat×Option Nat)
def rho (ρ:Ren) (i:Nat):Option Nat:=match TL.get ρ i with | some (some j)=>some j | _=>none
def ImXs (k:Nat) (xs:List T):Prop:=∀ x∈xs,x.cells.length=k∧imL x.cells=true
def ltS (o:Option Ob) (k n:Nat) (ys:List T):Prop:=match o with
 | some (.arr k' xs _)=>k'=k∧xs.length=n∧ys=xs∧ImXs k xs
 | _=>False
def ltV (o:Option Ob) (k n lo len:Nat) (ys:List T):Prop:=match o with
 | some (.arr k' xs _)=>k'=k∧xs.length=n∧ys=(xs.drop lo).take len∧lo+len≤n∧ImXs k xs
 | _=>False
def ltP (o:Option Ob) (n i j:Nat) (cs:List T):Prop:=match o with
 | some (.arr k xs _)=>xs.length=n∧i<n∧cs=(xs.getD i .junk).cells.drop j∧ImXs k xs
 | _=>False
def ltC0 (st:Sto) (ρ:Ren) (B:List Nat) (x y:T):Prop:=
 match y with
 | .junk=>True
 | .asl i' n'=>match x with
   | .asl i n=>TL.get ρ i'=some (some i)∧n=n'
   | .v (.slice none 0 0)=>TL.get ρ i'=some none∧n'=0
   | _=>False
 | .ptr i' n' a' b'=>match x with
   | .ptr i n a b=>TL.get ρ i'=some (some i)∧n=n'∧a=a'∧b=b'
   | _=>False
 | .sl k ys=>match x with
   | .asl i n=>i∈B∧ltS (TL.get st i) k n ys
   | .vw i n lo len=>i∈B∧ltV (TL.get st i) k n lo len ys
   | .v (.slice none 0 0)=>ys=[]
   | x=>x = .sl k ys
 | .ip cs=>match x with
   | .ptr i n a b=>i∈B∧ltP (TL.get st i) n a b cs
   | x=>x = .ip cs
 | .agg _=>False
 | .clo _ _=>False
 | .tup _=>False
 | .vw i' n' lo' len'=>match x with
   | .vw i n lo len=>TL.get ρ i'=some (some i)∧n=n'∧lo=lo'∧len=len'
   | .asl i n=>TL.get ρ i'=some (some i)∧n=n'∧lo'=0∧len'=n'
   | _=>False
 | .mp i'=>match x with
   | .mp i=>TL.get ρ i'=some (some i)
   | _=>False
 | y=>x=y
def za4 (st:Sto) (ρ:Ren) (B:List Nat):List T→List T→Prop
 | [],[]=>True
 | x::xs,y::ys=>ltC0 st ρ B x y∧za4 st ρ B xs ys
 | _,_=>False
def ltC (st:Sto) (ρ:Ren) (B:List Nat) (x y:T):Prop:=
 match y with
 | .clo f ys=>match x with | .clo g xs=>f=g∧za4 st ρ B xs ys | _=>False
 | y=>ltC0 st ρ B x y
def ltCs (st:Sto) (ρ:Ren) (B:List Nat):List T→List T→Prop
 | [],[]=>True
 | x::xs,y::ys=>ltC st ρ B x y∧ltCs st ρ B xs ys
 | _,_=>False
def ltA (st:Sto) (ρ:Ren) (B:List Nat) (x y:T):Prop:=
 match y with
 | .agg ys=>match x with | .agg xs=>ltCs st ρ B xs ys | _=>False
 | .clo f ys=>match x with | .clo g xs=>f=g∧ltCs st ρ B xs ys | _=>False
 | y=>ltC st ρ B x y
def ltAs (st:Sto) (ρ:Ren) (B:List Nat):List T→List T→Prop
 | [],[]=>True
 | x::xs,y::ys=>ltA st ρ B x y∧ltAs st ρ B xs ys
 | _,_=>False
def ltT (st:Sto) (ρ:Ren) (B:List Nat) (x y:T):Prop:=
 match y with
 | .tup ys=>match x with | .tup xs=>ltAs st ρ B xs ys | _=>False
 | y=>ltA st ρ B x y
def ltXs (st:Sto) (ρ:Ren) (B:List Nat) (k:Nat) (xs ys:List T):Prop:=xs.length=ys.length∧∀ (i:Nat) (x y:T),xs[i]?=some x→ys[i]?=some y→x.cells.length=k∧y.cells.length=k∧ltCs st ρ B x.cells y.cells
def ltO1 (st:Sto) (ρ:Ren) (B:List Nat) (k:Nat) (ys:List T) (fz':Bool) (i:Nat) (o:Option Ob):Prop:=match o with
 | some (.arr k0 xs fz)=>k0=k∧(fz=true→fz'=true)∧ltXs st ρ B k xs ys∧(i∈B→fz'=true)
 | _=>False
def ltO2 (st:Sto) (ρ:Ren) (B:List Nat) (k:Nat) (ys:List T) (fz':Bool) (r:Option (Option Nat)):Prop:=match r with
 | some none=>ys=[]
 | some (some i)=>ltO1 st ρ B k ys fz' i (TL.get st i)
 | none=>False
def ltM (es:Es) (o:Option Ob):Prop:=match o with | some (.mp es')=>es'=es | _=>False
def ltM2 (st:Sto) (es:Es) (r:Option (Option Nat)):Prop:=match r with
 | some (some i)=>ltM es (TL.get st i)
 | _=>False
def Jg (st:Sto) (ρ:Ren) (B:List Nat):Sto→Prop
 | []=>True
 | (i,.dead)::r=>Jg st ρ B r
 | (i,.arr k ys fz')::r=>ltO2 st ρ B k ys fz' (TL.get ρ i)∧Jg st ρ B r
 | (i,.mp es)::r=>ltM2 st es (TL.get ρ i)∧Jg st ρ B r
 | (_,.full ..)::_=>False
def ltFr (st:Sto) (ρ:Ren) (B:List Nat) (fr:List (Nat×T)):List (Nat×T)→Prop
 | []=>True
 | (t,y)::r=>ltT st ρ B ((TL.get fr t).getD .junk) y∧ltFr st ρ B fr r
def Zr (st':Sto) (ρ:Ren):Bool:=(ρ.all fun p=>(TL.get st' p.1).isSome)&&decide (ρ.filterMap (·.2)).Nodup
def zK4 (st':Sto) (ρ:Ren):Sto→Bool
 | []=>true
 | (i,_)::r=>(TL.get st' i).isSome&&(TL.get ρ i==some (some i))&&zK4 st' ρ r
section
variable {st st':Sto} {ρ:Ren} {B:List Nat} {d:Nat→Prop}
theorem qc0 {α:Type} {l:List (Nat×α)} {i:Nat} {x:α} (h:TL.get l i=some x):(i,x)∈l:=by
 induction l with
 | nil=>cases h
 | cons p r ih=>
   obtain⟨j,y⟩:=p;simp only[TL.get] at h;split at h
   ·rename_i hj;subst hj;injection h with h;subst h;simp
   ·exact CQ _ (ih h)
theorem za5 (h:Zr st' ρ=true) {i:Nat} {x:Option Nat} (hi:TL.get ρ i=some x):TL.get st' i≠none:=by
 simp only[Zr,Bq] at h;have:=Bk.1 h.1 (i,x) (qc0 hi);intro hn;simp [hn] at this
theorem qA8:∀ {ρ:Ren} {i1 i2 j:Nat},(ρ.filterMap (·.2)).Nodup→(i1,some j)∈ρ→(i2,some j)∈ρ→i1=i2
 | [],_,_,_,_,h,_=>by cases h
 | (i,x)::r,i1,i2,j,hn,h1,h2=>by
   cases x with
   | none=>
     simp only[List.filterMap_cons] at hn;simp only[Ck,Prod.mk.injEq,reduceCtorEq,and_false,false_or] at h1 h2;exact qA8 hn h1 h2
   | some y=>
     simp only[List.filterMap_cons,List.nodup_cons,List.mem_filterMap,not_exists,not_and] at hn;simp only[Ck,Prod.mk.injEq,Option.some.injEq] at h1 h2;rcases h1 with⟨rfl,rfl⟩ | h1
     ·rcases h2 with⟨rfl,_⟩ | h2
      ·rfl
      ·exact absurd rfl (hn.1 _ h2)
     ·rcases h2 with⟨rfl,rfl⟩ | h2
      ·exact absurd rfl (hn.1 _ h1)
      ·exact qA8 hn.2 h1 h2
theorem zK5 {k:Nat} {xs:List T} (h:ImXs k xs):(∀ x∈xs,x.cells.length=k)∧∀ c∈flat xs,imT c=true:=by
 refine⟨fun x hx=>(h x hx).1,fun c hc=>?_⟩;simp only[flat,Ek] at hc;obtain⟨x,hx,hc⟩:=hc;exact qZ7 (h x hx).2 c hc
theorem zs7 (hd:∀ i x,TL.get ρ i=some x→d i) {x y:T} (h:ltC0 st ρ B x y):Lt st d (rho ρ) B x y:=by
 unfold ltC0 at h;split at h
 ·exact .junk x
 ·rename_i i' n';split at h
  ·obtain⟨h1,rfl⟩:=h;exact .asl _ _ _ (by simp [rho,h1]) (hd _ _ h1)
  ·obtain⟨h1,rfl⟩:=h;exact .ghost _ (by simp [rho,h1]) (hd _ _ h1)
  ·exact h.elim
 ·split at h
  ·obtain⟨h1,rfl,rfl,rfl⟩:=h;exact .ptr _ _ _ _ _ (by simp [rho,h1]) (hd _ _ h1)
  ·exact h.elim
 ·rename_i k ys;split at h
  ·rename_i i n;obtain⟨h1,h2⟩:=h;unfold ltS at h2;split at h2
   ·rename_i k' xs fz hg;obtain⟨rfl,rfl,rfl,h3⟩:=h2;obtain⟨h4,h5⟩:=zK5 h3;exact .shut _ _ _ _ _ fz h1 hg rfl rfl h4 (fun j c c' hc hc'=>by
     rw[hc] at hc';injection hc' with hc';subst hc'
     exact .im _ (h5 _ (BX hc))) h5
   ·exact h2.elim
  ·rename_i i n lo len;obtain⟨h1,h2⟩:=h;unfold ltV at h2;split at h2
   ·rename_i k' xs fz hg;obtain⟨rfl,rfl,rfl,hle,h3⟩:=h2;obtain⟨h4,h5⟩:=zK5 h3;have hsub:∀ c∈flat ((xs.drop lo).take len),imT c=true:=fun c hc=>by
     simp only[flat,Ek] at hc;obtain⟨y,hy,hc⟩:=hc;exact h5 c (by simp only[flat,Ek];exact⟨y,EW (EX hy),hc⟩)
    exact .shutv _ _ _ _ _ _ _ fz h1 hg rfl (by simp;omega) (fun y hy=>h4 y (EW (EX hy))) (fun j c c' hc hc'=>by
     rw[hc] at hc';injection hc' with hc';subst hc'
     exact .im _ (hsub _ (BX hc))) hsub
   ·exact h2.elim
  ·subst h;exact .nil k
  ·subst h;exact .im _ rfl
 ·rename_i cs;split at h
  ·rename_i i n a b;obtain⟨h1,h2⟩:=h;unfold ltP at h2;split at h2
   ·rename_i k xs fz hg;obtain⟨h3,h4,h5,h6⟩:=h2;refine .ptrip _ _ _ _ k xs _ fz h1 hg h3 h4 h5 fun c hc=>?_;subst h5;have hx:xs.getD a .junk∈xs:=by
     rw[CY,CK (by omega)];exact AX _
    exact qZ7 (h6 _ hx).2 c (EW hc)
   ·exact h2.elim
  ·subst h;exact .im _ rfl
 ·exact h.elim
 ·exact h.elim
 ·exact h.elim
 ·split at h
  ·obtain⟨h1,rfl,rfl,rfl⟩:=h;exact .vw _ _ _ _ _ (by simp [rho,h1]) (hd _ _ h1)
  ·obtain⟨h1,rfl,rfl,rfl⟩:=h;exact .aslv _ _ _ (by simp [rho,h1]) (hd _ _ h1)
  ·exact h.elim
 ·split at h
  ·exact .mp _ _ (by simp [rho,h]) (hd _ _ h)
  ·exact h.elim
 ·rename_i h1 h2 h3 h4 h9 h5 h6 h7 h8 h10;subst h;cases x with
  | v x=>exact .im _ rfl
  | ip cs=>exact absurd rfl (h9 _)
  | ub p q=>exact .im _ rfl
  | junk=>exact .junk _
  | asl=>exact absurd rfl (h2 _ _)
  | ptr=>exact absurd rfl (h3 _ _ _ _)
  | sl=>exact absurd rfl (h4 _ _)
  | agg=>exact absurd rfl (h5 _)
  | clo=>exact absurd rfl (h6 _ _)
  | tup=>exact absurd rfl (h7 _)
  | vw=>exact absurd rfl (h8 _ _ _ _)
  | mp=>exact absurd rfl (h10 _)
theorem za6 (hd:∀ i x,TL.get ρ i=some x→d i):∀ {xs ys:List T},za4 st ρ B xs ys→xs.length=ys.length∧∀ (j:Nat) (c c':T),xs[j]?=some c→ys[j]?=some c'→Lt st d (rho ρ) B c c'
 | [],[],_=>⟨rfl,fun j c c' h=>by simp at h⟩
 | [],_::_,h=>h.elim
 | _::_,[],h=>h.elim
 | x::xs,y::ys,h=>by
   obtain⟨h1,h2⟩:=h;obtain⟨h3,h4⟩:=za6 hd h2;refine⟨by simp [h3],fun j c c' hc hc'=>?_⟩;cases j with
   | zero=>simp at hc hc';subst hc hc';exact zs7 hd h1
   | succ j=>exact h4 j c c' (by simpa using hc) (by simpa using hc')
theorem zK6 (hd:∀ i x,TL.get ρ i=some x→d i) {x y:T} (h:ltC st ρ B x y):Lt st d (rho ρ) B x y:=by
 unfold ltC at h;split at h
 ·split at h
  ·obtain⟨rfl,h⟩:=h;obtain⟨h1,h2⟩:=za6 hd h;exact .clo _ _ _ h1 h2
  ·exact h.elim
 ·exact zs7 hd h
theorem qp6 (hd:∀ i x,TL.get ρ i=some x→d i):∀ {xs ys:List T},ltCs st ρ B xs ys→xs.length=ys.length∧∀ (j:Nat) (c c':T),xs[j]?=some c→ys[j]?=some c'→Lt st d (rho ρ) B c c'
 | [],[],_=>⟨rfl,fun j c c' h=>by simp at h⟩
 | [],_::_,h=>h.elim
 | _::_,[],h=>h.elim
 | x::xs,y::ys,h=>by
   obtain⟨h1,h2⟩:=h;obtain⟨h3,h4⟩:=qp6 hd h2;refine⟨by simp [h3],fun j c c' hc hc'=>?_⟩;cases j with
   | zero=>simp at hc hc';subst hc hc';exact zK6 hd h1
   | succ j=>exact h4 j c c' (by simpa using hc) (by simpa using hc')
theorem zK7 (hd:∀ i x,TL.get ρ i=some x→d i) {x y:T} (h:ltA st ρ B x y):Lt st d (rho ρ) B x y:=by
 unfold ltA at h;split at h
 ·split at h
  ·obtain⟨h1,h2⟩:=qp6 hd h;exact .agg _ _ h1 h2
  ·exact h.elim
 ·split at h
  ·obtain⟨rfl,h⟩:=h;obtain⟨h1,h2⟩:=qp6 hd h;exact .clo _ _ _ h1 h2
  ·exact h.elim
 ·exact zK6 hd h
theorem qJ4 (hd:∀ i x,TL.get ρ i=some x→d i):∀ {xs ys:List T},ltAs st ρ B xs ys→xs.length=ys.length∧∀ (j:Nat) (c c':T),xs[j]?=some c→ys[j]?=some c'→Lt st d (rho ρ) B c c'
 | [],[],_=>⟨rfl,fun j c c' h=>by simp at h⟩
 | [],_::_,h=>h.elim
 | _::_,[],h=>h.elim
 | x::xs,y::ys,h=>by
   obtain⟨h1,h2⟩:=h;obtain⟨h3,h4⟩:=qJ4 hd h2;refine⟨by simp [h3],fun j c c' hc hc'=>?_⟩;cases j with
   | zero=>simp at hc hc';subst hc hc';exact zK7 hd h1
   | succ j=>exact h4 j c c' (by simpa using hc) (by simpa using hc')
theorem zK8 (hd:∀ i x,TL.get ρ i=some x→d i) {x y:T} (h:ltT st ρ B x y):Lt st d (rho ρ) B x y:=by
 unfold ltT at h;split at h
 ·split at h
  ·obtain⟨h1,h2⟩:=qJ4 hd h;exact .tup _ _ h1 h2
  ·exact h.elim
 ·exact zK7 hd h
theorem zK9 {k:Nat} {xs ys:List T} (h:ltXs st ρ B k xs ys) (hd:∀ i x,TL.get ρ i=some x→d i):(∀ y∈ys,y.cells.length=k)∧∀ (j:Nat) (c c':T),(flat xs)[j]?=some c→(flat ys)[j]?=some c'→Lt st d (rho ρ) B c c':=by
 obtain⟨hl,h⟩:=h;have hx:∀ x∈xs,x.cells.length=k:=by
  intro x hx;obtain⟨i,hi,rfl⟩:=CX hx;exact (h i xs[i] (ys[i]'(by omega)) (by simp) (by simp)).1
 have hy:∀ y∈ys,y.cells.length=k:=by
  intro y hy;obtain⟨i,hi,rfl⟩:=CX hy;exact (h i (xs[i]'(by omega)) ys[i] (by simp) (by simp)).2.1
 refine⟨hy,fun j c c' hc hc'=>?_⟩;have hj:j<xs.length*k:=by rw[← qG hx];exact (List.getElem?_eq_some_iff.1 hc).1
 have hk:0<k:=by
  rcases DQ k with h0 | h0
  ·rw[h0] at hj;simp at hj
  ·exact h0
 have hi:j / k<xs.length:=by rw[Nat.div_lt_iff_lt_mul hk];exact hj
 have he:j=(j / k)*k+j % k:=by rw[Nat.mul_comm];exact (Nat.div_add_mod j k).symm
 have at1:∀ {zs:List T},(∀ z∈zs,z.cells.length=k)→∀ (i m:Nat) (z:T),zs[i]?=some z→m<k→(flat zs)[i*k+m]?=z.cells[m]?:=by
  intro zs
  induction zs with
  | nil=>intro _ i m z hz;simp at hz
  | cons z0 zs ih=>
    intro hk' i m z hz hm;have hz0:=hk' z0 (by simp);simp only[flat,Gq];cases i with
    | zero=>simp at hz;subst hz;rw[BK (by omega)];simp
    | succ i=>
      rw[BJ (by rw[hz0,Nat.succ_mul];omega),hz0,show (i+1)*k+m-k=i*k+m by rw[Nat.succ_mul];omega];exact ih (fun z hz=>hk' z (by simp [hz])) i m z (by simpa using hz) hm
 rw[he,at1 hx (j / k) (j % k) xs[j / k] (by simp [hi]) (Nat.mod_lt _ hk)] at hc;rw[he,at1 hy (j / k) (j % k) (ys[j / k]'(by omega)) (by simp) (Nat.mod_lt _ hk)] at hc';have h3:=(h (j / k) xs[j / k] (ys[j / k]'(by omega)) (by simp [hi]) (by simp)).2.2;exact (qp6 hd h3).2 _ c c' hc hc'
theorem qA9:∀ {l:Sto},Jg st ρ B l→∀ {i k:Nat} {ys:List T} {fz:Bool},TL.get l i=some (.arr k ys fz)→ltO2 st ρ B k ys fz (TL.get ρ i)
 | [],_,i,k,ys,fz,h=>by cases h
 | (j,.dead)::r,hs,i,k,ys,fz,h=>by
   simp only[TL.get] at h;split at h
   ·injection h with h;cases h
   ·exact qA9 (l:=r) hs h
 | (j,.arr k0 y0 f0)::r,hs,i,k,ys,fz,h=>by
   simp only[TL.get] at h;split at h
   ·rename_i hj;subst hj;injection h with h;injection h with h1 h2 h3;subst h1 h2 h3;exact hs.1
   ·exact qA9 (l:=r) hs.2 h
 | (j,.mp es)::r,hs,i,k,ys,fz,h=>by
   simp only[TL.get] at h;split at h
   ·injection h with h;cases h
   ·exact qA9 (l:=r) hs.2 h
 | (j,.full ..)::r,hs,i,k,ys,fz,h=>hs.elim
theorem qW7:∀ {l:Sto},Jg st ρ B l→∀ {i:Nat} {es:Es},TL.get l i=some (.mp es)→ltM2 st es (TL.get ρ i)
 | [],_,i,es,h=>by cases h
 | (j,.dead)::r,hs,i,es,h=>by
   simp only[TL.get] at h;split at h
   ·injection h with h;cases h
   ·exact qW7 (l:=r) hs h
 | (j,.arr k0 y0 f0)::r,hs,i,es,h=>by
   simp only[TL.get] at h;split at h
   ·injection h with h;cases h
   ·exact qW7 (l:=r) hs.2 h
 | (j,.mp es0)::r,hs,i,es,h=>by
   simp only[TL.get] at h;split at h
   ·rename_i hj;subst hj;injection h with h;injection h with h;subst h;exact hs.1
   ·exact qW7 (l:=r) hs.2 h
 | (j,.full ..)::r,hs,i,es,h=>hs.elim
theorem qW8:∀ {l:Sto},Jg st ρ B l→∀ {i:Nat} {a b:Nat} {g:Bool},TL.get l i≠some (.full a b g)
 | [],_,i,a,b,g,h=>by cases h
 | (j,.dead)::r,hs,i,a,b,g,h=>by
   simp only[TL.get] at h;split at h
   ·injection h with h;cases h
   ·exact qW8 (l:=r) hs h
 | (j,.arr k0 y0 f0)::r,hs,i,a,b,g,h=>by
   simp only[TL.get] at h;split at h
   ·injection h with h;cases h
   ·exact qW8 (l:=r) hs.2 h
 | (j,.mp es0)::r,hs,i,a,b,g,h=>by
   simp only[TL.get] at h;split at h
   ·injection h with h;cases h
   ·exact qW8 (l:=r) hs.2 h
 | (j,.full ..)::r,hs,i,a,b,g,h=>hs.elim
theorem zL0:∀ {l:Sto},zK4 st' ρ l=true→∀ {i:Nat},TL.get l i≠none→TL.get st' i≠none∧TL.get ρ i=some (some i)
 | [],_,i,h=>by simp [TL.get] at h
 | (j,o)::r,hh,i,h=>by
   simp only[zK4,Bq,AY] at hh;simp only[TL.get] at h;split at h
   ·rename_i hj;subst hj;exact⟨by intro hn;simp [hn] at hh,hh.1.2⟩
   ·exact zL0 hh.2 h
theorem ka2 {e:Env} {fr fr':List (Nat×T)} (hr:Zr st' ρ=true) (hh:zK4 st' ρ e.st0=true) (hs:Jg st ρ B st') (hf:ltFr st ρ B fr fr'):LeS e ⟨fr,st⟩ ⟨fr',st'⟩ (rho ρ) B where
 o:={
  ob:=fun i k ys fz hg=>by
   have h:=qA9 hs hg;unfold ltO2 at h;split at h
   ·rename_i hρ;exact .inl ⟨by simp [rho,hρ],h⟩
   ·rename_i j hρ;unfold ltO1 at h;split at h
    ·rename_i k0 xs f0 hg0;obtain⟨rfl,h2,h3,h4⟩:=h;obtain⟨h5,h6⟩:=zK9 h3 (fun _ _ h=>za5 hr h);exact .inr ⟨j,xs,f0,by simp [rho,hρ],hg0,h3.1,h2,h5,h6,h4⟩
    ·exact h.elim
   ·exact h.elim
  inj:=fun i1 i2 j _ _ h1 h2=>by
   simp only[Zr,Bq,AZ] at hr;unfold rho at h1 h2;split at h1
   ·rename_i j1 g1;split at h2
    ·rename_i j2 g2;injection h1 with h1;injection h2 with h2;subst h1 h2;exact qA8 hr.2 (qc0 g1) (qc0 g2)
    ·cases h2
   ·cases h1
  mp:=fun i es hg=>by
   have h:=qW7 hs hg;unfold ltM2 at h;split at h
   ·rename_i j hρ;unfold ltM at h;split at h
    ·rename_i es' hg0;subst h;exact⟨j,by simp [rho,hρ],hg0⟩
    ·exact h.elim
   ·exact h.elim
  nf:=fun i a b g=>qW8 hs }
 fr:=by
  intro t y hy;have:∀ {l:List (Nat×T)},ltFr st ρ B fr l→TL.get l t=some y→ltT st ρ B ((TL.get fr t).getD .junk) y:=by
   intro l
   induction l with
   | nil=>intro _ h;cases h
   | cons p r ih=>
     obtain⟨u,z⟩:=p;intro h hg;simp only[TL.get] at hg;split at hg
     ·rename_i hu;subst hu;injection hg with hg;subst hg;exact h.1
     ·exact ih h.2 hg
  exact zK8 (fun _ _ h=>za5 hr h) (this hf hy)
 hnd:=fun id hd=>by
  obtain⟨h1,h2⟩:=zL0 hh hd;exact⟨h1,fun k xs fz _=>by simp [rho,h2],fun es _=>by simp [rho,h2]⟩
theorem Le.of {e:Env} {fr fr':List (Nat×T)} (ρ:Ren) (B:List Nat) (hr:Zr st' ρ=true) (hh:zK4 st' ρ e.st0=true) (hs:Jg st ρ B st') (hf:ltFr st ρ B fr fr'):Le e ⟨fr,st⟩ ⟨fr',st'⟩:=(ka2 hr hh hs hf).le
theorem Zq.of {st0:Sto} {x r:T} (ρ:Ren) (B:List Nat) (hr:Zr st' ρ=true) (hh:zK4 st' ρ st0=true) (hs:Jg st ρ B st') (hf:ltT st ρ B x r):Zq st0 x st r st':=
 .les ⟨rho ρ,B,ka2 hr hh hs ⟨by simpa [TL.get] using hf,trivial⟩⟩
theorem Zq.cut {st0:Sto} {x r:T} {st st':Sto} (id nid m:Nat) {k:Nat} {xs:List T} (hg:TL.get st id=some (.arr k xs false)) (hn:TL.get st nid=none) (hm:m≤xs.length)
 (h:Zq st0 (cut2 id nid xs.length m x) (qq6 id nid m k xs st) r st'):Zq st0 x st r st':=
 fun e he=>(Le.cut id nid m hg hn hm).trans (h e he)
theorem qB0 {x:T} (h:imT0 x=true):ltC0 st ρ B x x:=by
 cases x <;> first | (simp [imT0] at h;done) | trivial | rfl
theorem zL1:∀ {l:List T},zE7 l=true→za4 st ρ B l l
 | [],_=>trivial
 | c::r,h=>by
   simp only[zE7,Bq] at h;exact⟨qB0 h.1,zL1 h.2⟩
theorem jA5 {x:T} (h:imT x=true):ltC st ρ B x x:=by
 cases x with
 | clo f cs=>exact⟨rfl,zL1 h⟩
 | v a=>exact qB0 (st:=st) (ρ:=ρ) (B:=B) (x:=.v a) h
 | sl k xs=>exact qB0 (st:=st) (ρ:=ρ) (B:=B) (x:=.sl k xs) h
 | ip cs=>exact qB0 (st:=st) (ρ:=ρ) (B:=B) (x:=.ip cs) h
 | junk=>trivial
 | ub p q=>exact qB0 (st:=st) (ρ:=ρ) (B:=B) (x:=.ub p q) h
 | _=>simp [imT,imT0] at h
theorem ym {k:Nat} {xs:List T} (h:ImXs k xs):ltXs st ρ B k xs xs:=by
 refine⟨rfl,fun i x y hx hy=>?_⟩;rw[hx] at hy;injection hy with hy;subst hy
 obtain⟨h1,h2⟩:=h x (BX hx);refine⟨h1,h1,?_⟩;clear h1 hx;have:∀ l:List T,imL l=true→ltCs st ρ B l l:=by
  intro l
  induction l with
  | nil=>intro _;trivial
  | cons c r ih=>
    intro hl;simp only[imL,Bq] at hl;refine⟨?_,ih hl.2⟩;exact jA5 hl.1
 exact this _ h2
theorem ze {k:Nat}:ltXs st ρ B k [] []:=⟨rfl,fun i x y hx=>by simp at hx⟩
theorem qU {k:Nat} {a b c d:List T} (h1:ltXs st ρ B k a c) (h2:ltXs st ρ B k b d):ltXs st ρ B k (a++b) (c++d):=by
 refine⟨by simp [h1.1,h2.1],fun i x y hx hy=>?_⟩;by_cases hi:i<a.length
 ·rw[BK hi] at hx;rw[BK (by rw[← h1.1];exact hi)] at hy;exact h1.2 i x y hx hy
 ·rw[BJ (by omega)] at hx;rw[BJ (by rw[← h1.1];omega),← h1.1] at hy;exact h2.2 _ x y hx hy
theorem qW {k:Nat} {x y:T} {xs ys:List T} (h0:x.cells.length=k∧y.cells.length=k∧ltCs st ρ B x.cells y.cells) (h:ltXs st ρ B k xs ys):ltXs st ρ B k (x::xs) (y::ys):=by
 have h1:ltXs st ρ B k [x] [y]:=by
  refine⟨rfl,fun i a b ha hb=>?_⟩;cases i with
  | zero=>simp at ha hb;subst ha hb;exact h0
  | succ i=>simp at ha
 exact qU h1 h
theorem qH {α:Type} {k:Nat} {f:α→T} (h:∀ a,(f a).cells.length=k∧imL (f a).cells=true) (l:List α):ImXs k (l.map f):=by
 intro x hx;simp only[Cj] at hx;obtain⟨n,_,rfl⟩:=hx;exact h n
end
end Go.TL
namespace Go.TL
def wrO (st st1 st1':Sto) (ρ1 ρ2:Ren) (id k:Nat) (ys:List T) (fz:Bool) (r:Option (Option Nat)):Prop:=match r with
 | none=>fz=true∧(match TL.get st id with | some (.arr k0 xs _)=>k0=k∧xs=ys | _=>False)∧(∀ p∈ρ1,p.2≠some id)
 | some (some i')=>ltO1 st1' ρ2 [] k ys fz i' (TL.get st1' i')∧(TL.get st id=none∨(TL.get ρ1 i'=some (some id)∧(TL.get st1 i').isSome=true))
 | some none=>False
def wrOk (st st1 st1':Sto) (ρ1 ρ2:Ren):List (Nat×Ob)→Prop
 | []=>True
 | (_,.dead)::r=>wrOk st st1 st1' ρ1 ρ2 r
 | (id,.arr k ys fz)::r=>wrO st st1 st1' ρ1 ρ2 id k ys fz (TL.get ρ2 id)∧wrOk st st1 st1' ρ1 ρ2 r
 | _::_=>False
def zT2:List (Nat×Ob)→Ren→Bool
 | [],_=>true
 | (_,.dead)::r,ρ=>zT2 r ρ
 | (id,.arr _ ys _)::r,ρ=>((rho ρ id).isNone||(flat ys).all noA1)&&zT2 r ρ
 | _::_,_=>false
def fzOk (wr:Sto):List Nat→Bool
 | []=>true
 | i::r=>(match TL.get wr i with | some (.arr _ _ true)=>true | _=>false)&&fzOk wr r
section
variable {P:Program} {st st1 st1':Sto} {ρ1 ρ2:Ren} {B:List Nat} {wr:List (Nat×Ob)}
theorem zx0:∀ {l:List (Nat×Ob)},wrOk st st1 st1' ρ1 ρ2 l→∀ {i k:Nat} {ys:List T} {fz:Bool},TL.get l i=some (.arr k ys fz)→wrO st st1 st1' ρ1 ρ2 i k ys fz (TL.get ρ2 i)
 | [],_,i,k,ys,fz,h=>by cases h
 | (j,.dead)::r,hs,i,k,ys,fz,h=>by
   simp only[TL.get] at h;split at h
   ·injection h with h;cases h
   ·exact zx0 (l:=r) hs h
 | (j,.arr k0 y0 f0)::r,hs,i,k,ys,fz,h=>by
   simp only[TL.get] at h;split at h
   ·rename_i hj;subst hj;injection h with h;injection h with h1 h2 h3;subst h1 h2 h3;exact hs.1
   ·exact zx0 (l:=r) hs.2 h
theorem zT3:∀ {l:List (Nat×Ob)},wrOk st st1 st1' ρ1 ρ2 l→∀ {i:Nat} {es:Es},TL.get l i=some (.mp es)→False
 | [],_,i,es,h=>by cases h
 | (j,.dead)::r,hs,i,es,h=>by
   simp only[TL.get] at h;split at h
   ·injection h with h;cases h
   ·exact zT3 (l:=r) hs h
 | (j,.arr k0 y0 f0)::r,hs,i,es,h=>by
   simp only[TL.get] at h;split at h
   ·injection h with h;cases h
   ·exact zT3 (l:=r) hs.2 h
 | (j,.mp _)::r,hs,i,es,h=>hs.elim
 | (j,.full ..)::r,hs,i,es,h=>hs.elim
theorem zT4:∀ {l:List (Nat×Ob)},wrOk st st1 st1' ρ1 ρ2 l→∀ {i a b:Nat} {g:Bool},TL.get l i=some (.full a b g)→False
 | [],_,i,a,b,g,h=>by cases h
 | (j,.dead)::r,hs,i,a,b,g,h=>by
   simp only[TL.get] at h;split at h
   ·injection h with h;cases h
   ·exact zT4 (l:=r) hs h
 | (j,.arr k0 y0 f0)::r,hs,i,a,b,g,h=>by
   simp only[TL.get] at h;split at h
   ·injection h with h;cases h
   ·exact zT4 (l:=r) hs.2 h
 | (j,.mp _)::r,hs,i,a,b,g,h=>hs.elim
 | (j,.full ..)::r,hs,i,a,b,g,h=>hs.elim
theorem za7:∀ {l:List (Nat×Ob)} {ρ:Ren},zT2 l ρ=true→∀ {i k:Nat} {ys:List T} {fz:Bool},TL.get l i=some (.arr k ys fz)→rho ρ i≠none→∀ c∈flat ys,noA1 c=true
 | [],ρ,_,i,k,ys,fz,h=>by cases h
 | (j,.dead)::r,ρ,hs,i,k,ys,fz,h=>by
   simp only[TL.get] at h;split at h
   ·injection h with h;cases h
   ·exact za7 (l:=r) hs h
 | (j,.arr k0 y0 f0)::r,ρ,hs,i,k,ys,fz,h=>by
   simp only[zT2,Bq,DZ] at hs;simp only[TL.get] at h;split at h
   ·rename_i hj;subst hj;injection h with h;injection h with h1 h2 h3;subst h1 h2 h3;intro hn c hc;rcases hs.1 with h1 | h1
    ·rw[Option.isNone_iff_eq_none] at h1;exact absurd h1 hn
    ·exact Bk.1 h1 c hc
   ·exact za7 (l:=r) hs.2 h
theorem jf9 {wr:Sto}:∀ {B:List Nat},fzOk wr B=true→∀ i∈B,∃ k xs,TL.get wr i=some (.arr k xs true)
 | [],_,i,h=>by simp at h
 | j::r,h,i,hi=>by
   simp only[fzOk,Bq] at h;rcases Ck.1 hi with rfl | hi
   ·have h1:=h.1;split at h1
    ·rename_i k xs hg;exact⟨k,xs,hg⟩
    ·cases h1
   ·exact jf9 h.2 i hi
def qJ5:Ren→Bool
 | []=>true
 | (_,some _)::r=>qJ5 r
 | _=>false
theorem za8:∀ {ρ:Ren},qJ5 ρ=true→∀ {i:Nat} {x:Option Nat},TL.get ρ i=some x→∃ j,x=some j
 | [],_,i,x,h=>by cases h
 | (j,none)::r,hs,i,x,h=>by simp [qJ5] at hs
 | (j,some y)::r,hs,i,x,h=>by
   simp only[TL.get] at h;split at h
   ·injection h with h;exact⟨y,h.symm⟩
   ·exact za8 (ρ:=r) hs h
theorem WJ {ρ:Ren} {i j:Nat}:rho ρ i=some j↔TL.get ρ i=some (some j):=by
 unfold rho;cases h:TL.get ρ i with
 | none=>simp
 | some x=>cases x <;> simp
theorem ka3 {st':Sto} {ρ:Ren} (h:Zr st' ρ=true) {i1 i2 j:Nat} (h1:rho ρ i1=some j) (h2:rho ρ i2=some j):i1=i2:=by
 simp only[Zr,Bq,AZ] at h;exact qA8 h.2 (qc0 (WJ.1 h1)) (qc0 (WJ.1 h2))
theorem zT5 {ρ:Ren} {i j:Nat} (h:rho ρ i=some j):(ρ.map (·.2)).contains (some j)=true:=by
 simp only[List.contains_eq_mem,AZ,Cj];exact⟨_,qc0 (WJ.1 h),rfl⟩
def ptw (R:T→T→Prop):List T→List T→Prop
 | [],[]=>True
 | x::xs,y::ys=>R x y∧ptw R xs ys
 | _,_=>False
def ltD (st:Sto) (B:List Nat):Nat→T→T→Prop
 | 0,x,y=>x=y∧imT x=true
 | d+1,x,y=>match y with
   | .sl k ys=>match x with
     | .asl i n=>i∈B∧(match TL.get st i with
       | some (.arr k' xs _)=>k'=k∧xs.length=n∧ptw (fun a b=>a.cells.length=k∧b.cells.length=k∧imL b.cells=true∧ptw (ltD st B d) a.cells b.cells) xs ys
       | _=>False)
     | .v (.slice none 0 0)=>ys=[]
     | x=>x = .sl k ys
   | y=>x=y∧imT x=true
def ltAD (st:Sto) (B:List Nat) (x y:T):Prop:=
 match y with
 | .agg ys=>match x with | .agg xs=>ptw (ltD st B 3) xs ys | _=>False
 | y=>ltD st B 3 x y
theorem qJ6 {R:T→T→Prop}:∀ {xs ys:List T},ptw R xs ys→xs.length=ys.length∧∀ (j:Nat) (c c':T),xs[j]?=some c→ys[j]?=some c'→R c c'
 | [],[],_=>⟨rfl,fun j c c' h=>by simp at h⟩
 | [],_::_,h=>h.elim
 | _::_,[],h=>h.elim
 | x::xs,y::ys,h=>by
   obtain⟨h1,h2⟩:=h;obtain⟨h3,h4⟩:=qJ6 h2;refine⟨by simp [h3],fun j c c' hc hc'=>?_⟩;cases j with
   | zero=>simp at hc hc';subst hc hc';exact h1
   | succ j=>exact h4 j c c' (by simpa using hc) (by simpa using hc')
theorem jg0 {R:T→T→Prop} {k:Nat}:∀ {xs ys:List T},ptw (fun a b=>a.cells.length=k∧b.cells.length=k∧imL b.cells=true∧ptw R a.cells b.cells) xs ys→ptw R (flat xs) (flat ys)∧(∀ y∈ys,y.cells.length=k)∧∀ c∈flat ys,imT c=true
 | [],[],_=>⟨trivial,by simp,by simp [flat]⟩
 | [],_::_,h=>h.elim
 | _::_,[],h=>h.elim
 | x::xs,y::ys,h=>by
   obtain⟨⟨h1,h2,h3,h4⟩,h5⟩:=h;obtain⟨q1,q2,q3⟩:=jg0 h5;have app:∀ {a b c d:List T},ptw R a b→ptw R c d→ptw R (a++c) (b++d):=by
    intro a
    induction a with
    | nil=>intro b c d h h';cases b with | nil=>exact h' | cons _ _=>exact h.elim
    | cons x a ih=>intro b c d h h';cases b with | nil=>exact h.elim | cons _ _=>exact⟨h.1,ih h.2 h'⟩
   refine⟨by simp only[flat,Gq];exact app h4 q1,?_,?_⟩
   ·intro z hz;rcases Ck.1 hz with rfl | hz
    ·exact h2
    ·exact q2 z hz
   ·intro c hc;simp only[flat,Gq,Dz] at hc;rcases hc with hc | hc
    ·exact qZ7 h3 c hc
    ·exact q3 c hc
theorem za9 {st:Sto} {B:List Nat} {d:Nat→Prop} {ρ:Nat→Option Nat}:∀ {n:Nat} {x y:T},ltD st B n x y→Lt st d ρ B x y
 | 0,x,y,h=>by obtain⟨rfl,h⟩:=h;exact .im _ h
 | n+1,x,y,h=>by
   unfold ltD at h;split at h
   ·rename_i k ys;split at h
    ·rename_i i m;obtain⟨h1,h2⟩:=h;split at h2
     ·rename_i k' xs fz hg;obtain⟨rfl,rfl,h3⟩:=h2;obtain⟨q1,q2,q3⟩:=jg0 h3;exact .shut _ _ _ _ _ fz h1 hg rfl (qJ6 h3).1.symm q2 (fun j c c' hc hc'=>za9 ((qJ6 q1).2 j c c' hc hc')) q3
     ·exact h2.elim
    ·subst h;exact .nil k
    ·subst h;exact .im _ rfl
   ·obtain⟨rfl,h⟩:=h;exact .im _ h
theorem jm5 {st:Sto} {B:List Nat} {d:Nat→Prop} {ρ:Nat→Option Nat} {x y:T} (h:ltAD st B x y):Lt st d ρ B x y:=by
 unfold ltAD at h;split at h
 ·split at h
  ·obtain⟨h1,h2⟩:=qJ6 h;exact .agg _ _ h1 fun j c c' hc hc'=>za9 (h2 j c c' hc hc')
  ·exact h.elim
 ·exact za9 h
theorem zw5.ofL {fid:FuncId} {caps xs ts':List T} {r val:T} (ρ1 ρ2:Ren) (B:List Nat) (wr:List (Nat×Ob)) (hs:Spc P fid ts' st1 r st1')
 (hes:(xs++caps).length=ts'.length∧∀ (j:Nat) (c c':T),(xs++caps)[j]?=some c→ts'[j]?=some c'→Lt st (fun i=>TL.get st1 i≠none) (rho ρ1) B c c') (h1:Zr st1 ρ1=true) (ho:Jg st ρ1 B st1) (hB:(B.all fun i=>!(ρ1.map (·.2)).contains (some i))=true)
 (hk:(ρ1.all fun p=>match p.2 with | some i=>(TL.get wr i).isSome | none=>true)=true)
 (hw:wrOk st st1 st1' ρ1 ρ2 wr) (h2:Zr wr ρ2=true) (h3:qJ5 ρ2=true) (hv:ltT st1' ρ2 [] r val)
 (hf:fzOk (wr++st) B=true∨(noA2 val=true∧zT2 wr ρ2=true)):zw5 P st (.clo fid caps) xs val wr (B++wr.map (·.1)):=by
 have d1:∀ i x,TL.get ρ1 i=some x→TL.get st1 i≠none:=fun _ _ h=>za5 h1 h;have d2:∀ i x,TL.get ρ2 i=some x→TL.get wr i≠none∧rho ρ2 i≠none:=fun i x h=>⟨za5 h2 h,by
  obtain⟨j,rfl⟩:=za8 h3 h;rw[WJ.2 h];simp⟩
 refine .inl ⟨fid,caps,ts',st1,st1',r,rho ρ1,rho ρ2,B,rfl,hs,?_⟩;refine⟨hes.1,hes.2,(ka2 (e:={ S:=fun _=>False,base:=0,hnd:=fun _=>False,w0:=default,n:=1,st0:=[] }) (fr:=[]) (fr':=[]) h1 rfl ho trivial).o,fun id hid=>⟨by simp [hid],fun id' hd hr=>?_⟩,fun id' id hd hr=>?_,fun id ob hg=>?_,fun i1 i2 id' _ _ g1 g2=>ka3 h2 g1 g2,zK8 d2 hv,?_⟩
 ·have h5:=Bk.1 hB id hid;rw[zT5 hr] at h5;simp at h5
 ·have h5:=Bk.1 hk _ (qc0 (WJ.1 hr));intro hn;simp [hn] at h5
 ·refine⟨by simp only[Dz,Cj];exact .inr ⟨_,qc0 hg,rfl⟩,?_⟩;cases ob with
  | dead=>exact .inl rfl
  | mp es=>exact (zT3 hw hg).elim
  | full i n g=>exact (zT4 hw hg).elim
  | arr k ys fz=>
    have h5:=zx0 hw hg;unfold wrO at h5;split at h5
    ·rename_i h6;obtain⟨rfl,h7,h8⟩:=h5;split at h7
     ·rename_i k0 x0 f0 hg0;obtain⟨rfl,rfl⟩:=h7;refine .inr (.inl ⟨_,_,f0,rfl,hg0,by simp [rho,h6],fun id' hd hr=>?_⟩);exact h8 _ (qc0 (WJ.1 hr)) rfl
     ·exact h7.elim
    ·rename_i i' h6;obtain⟨h7,h8⟩:=h5;unfold ltO1 at h7;split at h7
     ·rename_i k0 xs f0 hg0;obtain⟨rfl,h9,h10,h11⟩:=h7;obtain⟨h12,h13⟩:=zK9 h10 d2;refine .inr (.inr ⟨k0,ys,fz,i',xs,f0,rfl,WJ.2 h6,hg0,h10.1,h9,h12,h13,?_⟩);rcases h8 with h8 | ⟨h8,h14⟩
      ·exact .inl h8
      ·refine .inr ⟨WJ.2 h8,?_⟩;intro hn;simp [hn] at h14
     ·exact h7.elim
    ·exact h5.elim
 ·rcases hf with hf | ⟨hf,hg⟩
  ·exact .inl (jf9 hf)
  ·exact .inr ⟨hf,fun id k xs fz hw0 hr=>za7 hg hw0 hr⟩
theorem zw5.of {fid:FuncId} {caps xs ts':List T} {r val:T} (ρ1 ρ2:Ren) (B:List Nat) (wr:List (Nat×Ob)) (hs:Spc P fid ts' st1 r st1')
 (ha:ltAs st ρ1 B (xs++caps) ts') (h1:Zr st1 ρ1=true) (ho:Jg st ρ1 B st1) (hB:(B.all fun i=>!(ρ1.map (·.2)).contains (some i))=true)
 (hk:(ρ1.all fun p=>match p.2 with | some i=>(TL.get wr i).isSome | none=>true)=true)
 (hw:wrOk st st1 st1' ρ1 ρ2 wr) (h2:Zr wr ρ2=true) (h3:qJ5 ρ2=true) (hv:ltT st1' ρ2 [] r val)
 (hf:fzOk (wr++st) B=true∨(noA2 val=true∧zT2 wr ρ2=true)):zw5 P st (.clo fid caps) xs val wr (B++wr.map (·.1)):=
 .ofL ρ1 ρ2 B wr hs (qJ4 (fun _ _ h=>za5 h1 h) ha) h1 ho hB hk hw h2 h3 hv hf
theorem qB1 {st:Sto} {ρ:Ren} {B:List Nat} {x:T} (h:imT x=true):ltC st ρ B x x:=by
 exact jA5 h
theorem qV {st:Sto} {ρ:Ren} {B:List Nat}:∀ {l:List T},imL l=true→ltCs st ρ B l l
 | [],_=>trivial
 | c::r,h=>by
   simp only[imL,Bq] at h;exact⟨qB1 h.1,qV h.2⟩
theorem qk0 {st:Sto} {ρ:Ren} {B:List Nat} {x:T} (h:imA x=true):ltA st ρ B x x:=by
 cases x with
 | agg cs=>exact qV h
 | clo f cs=>exact⟨rfl,qV h⟩
 | tup cs=>simp [imA,imT,imT0] at h
 | junk=>trivial
 | v a=>exact qB1 (st:=st) (ρ:=ρ) (B:=B) (x:=.v a) h
 | sl k xs=>exact qB1 (st:=st) (ρ:=ρ) (B:=B) (x:=.sl k xs) h
 | ptr a b c d=>exact qB1 (st:=st) (ρ:=ρ) (B:=B) (x:=.ptr a b c d) h
 | ip cs=>exact qB1 (st:=st) (ρ:=ρ) (B:=B) (x:=.ip cs) h
 | asl a b=>exact qB1 (st:=st) (ρ:=ρ) (B:=B) (x:=.asl a b) h
 | ub a b=>exact qB1 (st:=st) (ρ:=ρ) (B:=B) (x:=.ub a b) h
 | vw a b c d=>exact qB1 (st:=st) (ρ:=ρ) (B:=B) (x:=.vw a b c d) h
 | mp a=>exact qB1 (st:=st) (ρ:=ρ) (B:=B) (x:=.mp a) h
theorem qv1 {st:Sto} {ρ:Ren} {B:List Nat}:∀ {l:List T},imAL l=true→ltAs st ρ B l l
 | [],_=>trivial
 | c::r,h=>by
   simp only[imAL,Bq] at h;exact⟨qk0 h.1,qv1 h.2⟩
theorem qB2 {st:Sto} {ρ:Ren} {B:List Nat} {x:T} (h:qj9 x=true):ltT st ρ B x x:=by
 cases x with
 | tup cs=>exact qv1 h
 | agg cs=>exact qk0 (st:=st) (ρ:=ρ) (B:=B) (x:=.agg cs) h
 | clo f cs=>exact qk0 (st:=st) (ρ:=ρ) (B:=B) (x:=.clo f cs) h
 | junk=>trivial
 | v a=>exact qk0 (st:=st) (ρ:=ρ) (B:=B) (x:=.v a) h
 | sl k xs=>exact qk0 (st:=st) (ρ:=ρ) (B:=B) (x:=.sl k xs) h
 | ptr a b c d=>exact qk0 (st:=st) (ρ:=ρ) (B:=B) (x:=.ptr a b c d) h
 | ip cs=>exact qk0 (st:=st) (ρ:=ρ) (B:=B) (x:=.ip cs) h
 | asl a b=>exact qk0 (st:=st) (ρ:=ρ) (B:=B) (x:=.asl a b) h
 | ub a b=>exact qk0 (st:=st) (ρ:=ρ) (B:=B) (x:=.ub a b) h
 | vw a b c d=>exact qk0 (st:=st) (ρ:=ρ) (B:=B) (x:=.vw a b c d) h
 | mp a=>exact qk0 (st:=st) (ρ:=ρ) (B:=B) (x:=.mp a) h
variable {e:Env} {kss:List (Nat×List Nat)} {Q:Ex→St→Prop} {K:List KF} {rows:Option (List Nat)} {ks:List Nat} {nid:Nat} {ops:List ROp} {F:XF} {acc:Acc}
theorem C1.of {fid:FuncId} {caps xs ts':List T} {r val:T} {d:Option Nat} (ρ1 ρ2:Ren) (B:List Nat) (wr:List (Nat×Ob)) (hs:Spc P fid ts' st1 r st1')
 (ha:ltAs st ρ1 B (xs++caps) ts') (h1:Zr st1 ρ1=true) (ho:Jg st ρ1 B st1) (hB:(B.all fun i=>!(ρ1.map (·.2)).contains (some i))=true)
 (hk:(ρ1.all fun p=>match p.2 with | some i=>(TL.get wr i).isSome | none=>true)=true)
 (hw:wrOk st st1 st1' ρ1 ρ2 wr) (h2:Zr wr ρ2=true) (h3:qJ5 ρ2=true) (hv:ltT st1' ρ2 [] r val)
 (hf:fzOk (wr++st) B=true∨(noA2 val=true∧zT2 wr ρ2=true))
 (h:R P e kss Q rows ks K nid ops (putX F d (.p val)) (stUp st wr) (acc++[(B++wr.map (·.1),wr.map (·.1))])):C1 P e kss Q rows ks K (.clo fid caps) xs d nid ops F st acc:=
 ⟨val,wr,_,.of ρ1 ρ2 B wr hs ha h1 ho hB hk hw h2 h3 hv hf,h⟩
theorem C2.of {L:List (Nat×Bool)} {c:Prop} {fid:FuncId} {caps xs ts':List T} {r val:T} {d:Option Nat} (ρ1:Ren) (B:List Nat) (hs:c→Spc P fid ts' st1 r st1')
 (ha:c→ltAs st ρ1 B (xs++caps) ts') (h1:Zr st1 ρ1=true) (ho:c→Jg st ρ1 B st1) (hB:(B.all fun i=>!(ρ1.map (·.2)).contains (some i))=true)
 (hk:(ρ1.all fun p=>match p.2 with | some _=>false | none=>true)=true) (hv:c→ltT st1' [] [] r val)
 (hf:c→fzOk st B=true∨noA2 val=true)
 (h:R P e kss Q rows ks K nid ops (putX F d (.g L c val)) st (acc++[(B++[],[])])):C2 P e kss Q rows ks K L c (.clo fid caps) xs d nid ops F st acc:=
 ⟨val,[],_,fun hc=>.of ρ1 [] B [] (hs hc) (ha hc) h1 (ho hc) hB (Bk.2 fun p hp=>by
   have:=Bk.1 hk p hp;split <;> simp_all) trivial rfl rfl (hv hc) (by rcases hf hc with h | h;exact .inl h;exact .inr ⟨h,rfl⟩),.inl ⟨rfl,h⟩⟩
theorem C1.lend {fid:FuncId} {caps xs ts':List T} {r:T} {d:Option Nat} (B:List Nat) (hs:Spc P fid ts' [] r [])
 (ha:ltAs st [] B (xs++caps) ts') (h2:qj9 r=true) (h3:noA2 r=true)
 (h:R P e kss Q rows ks K nid ops (putX F d (.p r)) st (acc++[(B++[],[])])):C1 P e kss Q rows ks K (.clo fid caps) xs d nid ops F st acc:=
 .of [] [] B [] hs ha rfl trivial (by simp) rfl trivial rfl rfl (qB2 h2) (.inr ⟨h3,rfl⟩) h
theorem C2.lend {L:List (Nat×Bool)} {c:Prop} {fid:FuncId} {caps xs ts':List T} {r:T} {d:Option Nat} (B:List Nat) (hs:c→Spc P fid ts' [] r [])
 (ha:c→ltAs st [] B (xs++caps) ts') (h2:qj9 r=true) (h3:noA2 r=true)
 (h:R P e kss Q rows ks K nid ops (putX F d (.g L c r)) st (acc++[(B++[],[])])):C2 P e kss Q rows ks K L c (.clo fid caps) xs d nid ops F st acc:=
 .of [] B hs ha rfl (fun _=>trivial) (by simp) rfl (fun _=>qB2 h2) (fun _=>.inr h3) h
theorem ptwA {st:Sto} {B:List Nat} {d:Nat→Prop} {ρ:Nat→Option Nat} {xs ys:List T} (h:ptw (ltAD st B) xs ys):xs.length=ys.length∧∀ (j:Nat) (c c':T),xs[j]?=some c→ys[j]?=some c'→Lt st d ρ B c c':=
 ⟨(qJ6 h).1,fun j c c' hc hc'=>jm5 ((qJ6 h).2 j c c' hc hc')⟩
theorem C1.lendD {fid:FuncId} {caps xs ts':List T} {r:T} {d:Option Nat} (B:List Nat) (hs:Spc P fid ts' [] r [])
 (ha:ptw (ltAD st B) (xs++caps) ts') (h2:qj9 r=true) (h3:noA2 r=true)
 (h:R P e kss Q rows ks K nid ops (putX F d (.p r)) (stUp st []) (acc++[(B++([]:List (Nat×Ob)).map (·.1),([]:List (Nat×Ob)).map (·.1))])):C1 P e kss Q rows ks K (.clo fid caps) xs d nid ops F st acc:=
 ⟨r,[],_,.ofL [] [] B [] hs (ptwA ha) rfl trivial (by simp) rfl trivial rfl rfl (qB2 h2) (.inr ⟨h3,rfl⟩),h⟩
theorem C2.lendD {L:List (Nat×Bool)} {c:Prop} {fid:FuncId} {caps xs ts':List T} {r:T} {d:Option Nat} (B:List Nat) (hs:c→Spc P fid ts' [] r [])
 (ha:c→ptw (ltAD st B) (xs++caps) ts') (h2:qj9 r=true) (h3:noA2 r=true)
 (h:R P e kss Q rows ks K nid ops (putX F d (.g L c r)) st (acc++[(B++[],[])])):C2 P e kss Q rows ks K L c (.clo fid caps) xs d nid ops F st acc:=
 ⟨r,[],_,fun hc=>.ofL [] [] B [] (hs hc) (ptwA (ha hc)) rfl trivial (by simp) rfl trivial rfl rfl (qB2 h2) (.inr ⟨h3,rfl⟩),.inl ⟨rfl,h⟩⟩
end
end Go.TL
namespace Go.TL
theorem tl:type_of% (
Az @jR6 (Az @jR7 (Az @kf5 (Az @js7 (Az @kf6 (Az @js8 (Az @jR8 (Az @js9 (Az @kf8 (Az @kf9 (Az @kg0 (Az @zq9 (Az @zG7 (Az @jt1 (Az @qZ8 (Az @qP7 (Az @kg1 (Az @jt2 (Az @jt3 (Az @R_op (Az @kg2 (Az @jt4 (Az @jt5 (Az @jt6 (Az @kg4 (Az @kg5 (Az @jt7 (Az @jt8 (Az @kg8 (Az @kg6 (Az @kg7 (Az @zK3 (Az @jA3 (Az @jW0 (Az @zZ2 (Az @zG8 (Az @zG9 (Az @zH0 (Az @zH1 (Az @zr0 (Az @ju0 (Az @ju1 (Az @zr1 (Az @jR9 (Az @ju2 (Az @kg9 (Az @zZ3 (Az @kh0 (Az @ju3 (Az @jS0 (Az @jS1 (Az @zZ5 (Az @zZ6 (Az @jS2 (Az @ju4 (Az @ju5 (Az @jS3 (Az @jS4 (Az @jS5 (Az @ju6 (Az @jS6 (Az @ju7 (Az @zZ7 (Az @zZ8 (Az @zZ9 (Az @jS7 (Az @jS8 (Az @ju8 (Az @ju9 (Az @jv0 (Az @jS9 (Az @jT0 (Az @ja0 (Az @ja1 (Az @jv1 (Az @ja2 (Az @zr2 (Az @jv2 (Az @jv3 (Az @jT1 (Az @jT2 (Az @rv_t (Az @rv_k (Az @zr3 (Az @qZ9 (Az @jv4 (Az @jv5 (Az @jv6 (Az @jv7 (Az @jv8 (Az @ja3 (Az @jv9 (Az @jA4 (Az @jW2 (Az @jw0 (Az @jw1 (Az @jw3 (Az @jy2 (Az @jb7 (Az @zr7 (Az @za1 (Az @jb5 (Az @zr8 (Az @za2 (Az @jb6 (Az @zI0 (Az @jy5 (Az @jV0 (Az @jV1 (Az @jd5 (Az @zI1 (Az @zr9 (Az @kh9 (Az @ki0 (Az @ki1 (Az @jw4 (Az @zH4 (Az @za3 (Az @qP8 (Az @qP9 (Az @zs0 (Az @kf7 (Az @jt0 (Az @jw2 (Az @jT3 (Az @jT4 (Az @jT5 (Az @ja6 (Az @zH6 (Az @jw5 (Az @jw6 (Az @ja4 (Az @zH2 (Az @zr4 (Az @ja5 (Az @ja7 (Az @zH5 (Az @za0 (Az @zH7 (Az @zH8 (Az @zH9 (Az @ja8 (Az @jw7 (Az @jw8 (Az @jT6 (Az @jw9 (Az @jx0 (Az @zr5 (Az @jx1 (Az @jT7 (Az @kh2 (Az @jT8 (Az @jT9 (Az @kh3 (Az @jx2 (Az @jU0 (Az @jx3 (Az @jx4 (Az @jU1 (Az @jx5 (Az @jx6 (Az @jU2 (Az @jU3 (Az @ja9 (Az @jb0 (Az @jx7 (Az @jx8 (Az @jb1 (Az @jb2 (Az @jb3 (Az @jx9 (Az @zr6 (Az @jU4 (Az @jy0 (Az @zT1 (Az @jd6 (Az @jU5 (Az @jb4 (Az @jy6 (Az @jV2 (Az @zw9 (Az @jy1 (Az @jV3 (Az @zI3 (Az @zs1 (Az @jV4 (Az @jy7 (Az @jd7 (Az @jd9 (Az @jV5 (Az @jy8 (Az @jd8 (Az @jy9 (Az @je0 (Az @je1 (Az @jz0 (Az @jV6 (Az @je2 (Az @jV7 (Az @jz2 (Az @je3 (Az @je4 (Az @jz4 (Az @jz1 (Az @jz3 (Az @je5 (Az @je6 (Az @zI4 (Az @zI5 (Az @zI6 (Az @zI7 (Az @zI8 (Az @zI9 (Az @qv0 (Az @je7 (Az @zJ1 (Az @je8 (Az @jz5 (Az @zJ0 (Az @zJ2 (Az @je9 (Az @zJ3 (Az @zJ4 (Az @jf0 (Az @jV8 (Az @jz6 (Az @jf1 (Az @zs2 (Az @jf2 (Az @zJ5 (Az @zs3 (Az @zJ6 (Az @zs4 (Az @jV9 (Az @jz7 (Az @jz8 (Az @jf3 (Az @jf4 (Az @jz9 (Az @jf5 (Az @zJ7 (Az @zs5 (Az @jA0 (Az @jf6 (Az @jA1 (Az @zJ8 (Az @jf7 (Az @zJ9 (Az @jf8 (Az @zK0 (Az @zK1 (@zK2)))))))))))))))))))))))))))))))))))))))))))))))))))))))))))))))))))))))))))))))))))))))))))))))))))))))))))))))))))))))))))))))))))))))))))))))))))))))))))))))))))))))))))))))))))))))))))))))))))))))))))))))))))))))))))))))))))))))))))))))))))))))))))):=Az @jR6 (Az @jR7 (Az @kf5 (Az @js7 (Az @kf6 (Az @js8 (Az @jR8 (Az @js9 (Az @kf8 (Az @kf9 (Az @kg0 (Az @zq9 (Az @zG7 (Az @jt1 (Az @qZ8 (Az @qP7 (Az @kg1 (Az @jt2 (Az @jt3 (Az @R_op (Az @kg2 (Az @jt4 (Az @jt5 (Az @jt6 (Az @kg4 (Az @kg5 (Az @jt7 (Az @jt8 (Az @kg8 (Az @kg6 (Az @kg7 (Az @zK3 (Az @jA3 (Az @jW0 (Az @zZ2 (Az @zG8 (Az @zG9 (Az @zH0 (Az @zH1 (Az @zr0 (Az @ju0 (Az @ju1 (Az @zr1 (Az @jR9 (Az @ju2 (Az @kg9 (Az @zZ3 (Az @kh0 (Az @ju3 (Az @jS0 (Az @jS1 (Az @zZ5 (Az @zZ6 (Az @jS2 (Az @ju4 (Az @ju5 (Az @jS3 (Az @jS4 (Az @jS5 (Az @ju6 (Az @jS6 (Az @ju7 (Az @zZ7 (Az @zZ8 (Az @zZ9 (Az @jS7 (Az @jS8 (Az @ju8 (Az @ju9 (Az @jv0 (Az @jS9 (Az @jT0 (Az @ja0 (Az @ja1 (Az @jv1 (Az @ja2 (Az @zr2 (Az @jv2 (Az @jv3 (Az @jT1 (Az @jT2 (Az @rv_t (Az @rv_k (Az @zr3 (Az @qZ9 (Az @jv4 (Az @jv5 (Az @jv6 (Az @jv7 (Az @jv8 (Az @ja3 (Az @jv9 (Az @jA4 (Az @jW2 (Az @jw0 (Az @jw1 (Az @jw3 (Az @jy2 (Az @jb7 (Az @zr7 (Az @za1 (Az @jb5 (Az @zr8 (Az @za2 (Az @jb6 (Az @zI0 (Az @jy5 (Az @jV0 (Az @jV1 (Az @jd5 (Az @zI1 (Az @zr9 (Az @kh9 (Az @ki0 (Az @ki1 (Az @jw4 (Az @zH4 (Az @za3 (Az @qP8 (Az @qP9 (Az @zs0 (Az @kf7 (Az @jt0 (Az @jw2 (Az @jT3 (Az @jT4 (Az @jT5 (Az @ja6 (Az @zH6 (Az @jw5 (Az @jw6 (Az @ja4 (Az @zH2 (Az @zr4 (Az @ja5 (Az @ja7 (Az @zH5 (Az @za0 (Az @zH7 (Az @zH8 (Az @zH9 (Az @ja8 (Az @jw7 (Az @jw8 (Az @jT6 (Az @jw9 (Az @jx0 (Az @zr5 (Az @jx1 (Az @jT7 (Az @kh2 (Az @jT8 (Az @jT9 (Az @kh3 (Az @jx2 (Az @jU0 (Az @jx3 (Az @jx4 (Az @jU1 (Az @jx5 (Az @jx6 (Az @jU2 (Az @jU3 (Az @ja9 (Az @jb0 (Az @jx7 (Az @jx8 (Az @jb1 (Az @jb2 (Az @jb3 (Az @jx9 (Az @zr6 (Az @jU4 (Az @jy0 (Az @zT1 (Az @jd6 (Az @jU5 (Az @jb4 (Az @jy6 (Az @jV2 (Az @zw9 (Az @jy1 (Az @jV3 (Az @zI3 (Az @zs1 (Az @jV4 (Az @jy7 (Az @jd7 (Az @jd9 (Az @jV5 (Az @jy8 (Az @jd8 (Az @jy9 (Az @je0 (Az @je1 (Az @jz0 (Az @jV6 (Az @je2 (Az @jV7 (Az @jz2 (Az @je3 (Az @je4 (Az @jz4 (Az @jz1 (Az @jz3 (Az @je5 (Az @je6 (Az @zI4 (Az @zI5 (Az @zI6 (Az @zI7 (Az @zI8 (Az @zI9 (Az @qv0 (Az @je7 (Az @zJ1 (Az @je8 (Az @jz5 (Az @zJ0 (Az @zJ2 (Az @je9 (Az @zJ3 (Az @zJ4 (Az @jf0 (Az @jV8 (Az @jz6 (Az @jf1 (Az @zs2 (Az @jf2 (Az @zJ5 (Az @zs3 (Az @zJ6 (Az @zs4 (Az @jV9 (Az @jz7 (Az @jz8 (Az @jf3 (Az @jf4 (Az @jz9 (Az @jf5 (Az @zJ7 (Az @zs5 (Az @jA0 (Az @jf6 (Az @jA1 (Az @zJ8 (Az @jf7 (Az @zJ9 (Az @jf8 (Az @zK0 (Az @zK1 (@zK2)))))))))))))))))))))))))))))))))))))))))))))))))))))))))))))))))))))))))))))))))))))))))))))))))))))))))))))))))))))))))))))))))))))))))))))))))))))))))))))))))))))))))))))))))))))))))))))))))))))))))))))))))))))))))))))))))))))))))))))))))))))))))))
theorem tl2:type_of% (
Az @Option.getD_some.{0} (Az @Option.isSome_some.{0} (Az @List.map_cons.{0,0} (Az @List.map_nil.{0,0} (Az @List.all_cons.{0} (Az @List.all_nil.{0} (Az @List.contains_cons.{0} (Az @List.contains_nil.{0} (Az @Bool.and_true (Az @Fq (Az @Bool.and_self (Az @Bool.or_true (Az @Bool.true_or (Az @Bool.or_false (Az @Bool.false_or (Az @true_and (Az @and_true (Az @BEq.rfl.{0} (Az @forall_const.{0} (Az @true_implies (Az @implies_true.{0} (Az @cond_true.{1} (Az @cond_false.{1} (Az @Bool.true_eq_false (Az @EZ (Az @false_implies (Az @Bool.not_true (Az @Bool.not_false (Az @List.append_nil.{0} (Az @eq_self.{1} (Az @imp_self (Az @Bx (Az @jW1 (Az @and_false (Az @false_and (Az @or_false (Az @false_or (Az @List.length_cons.{0} (Az @List.length_nil.{0} (Az @List.length_map.{0,0} (Az @List.length_append.{0} (@and_self)))))))))))))))))))))))))))))))))))))))))):=Az @Option.getD_some.{0} (Az @Option.isSome_some.{0} (Az @List.map_cons.{0,0} (Az @List.map_nil.{0,0} (Az @List.all_cons.{0} (Az @List.all_nil.{0} (Az @List.contains_cons.{0} (Az @List.contains_nil.{0} (Az @Bool.and_true (Az @Fq (Az @Bool.and_self (Az @Bool.or_true (Az @Bool.true_or (Az @Bool.or_false (Az @Bool.false_or (Az @true_and (Az @and_true (Az @BEq.rfl.{0} (Az @forall_const.{0} (Az @true_implies (Az @implies_true.{0} (Az @cond_true.{1} (Az @cond_false.{1} (Az @Bool.true_eq_false (Az @EZ (Az @false_implies (Az @Bool.not_true (Az @Bool.not_false (Az @List.append_nil.{0} (Az @eq_self.{1} (Az @imp_self (Az @Bx (Az @jW1 (Az @and_false (Az @false_and (Az @or_false (Az @false_or (Az @List.length_cons.{0} (Az @List.length_nil.{0} (Az @List.length_map.{0,0} (Az @List.length_append.{0} (@and_self)))))))))))))))))))))))))))))))))))))))))
theorem tl4:type_of% (
Az @kh4 (Az @jy3 (Az @kh5 (Az @kh6 (Az @kh7 (Az @kh8 (Az @jb8 (Az @jb9 (Az @jc0 (Az @jc1 (Az @jc2 (Az @jc3 (Az @jc4 (Az @jc5 (Az @jc6 (Az @jc7 (Az @jU6 (Az @jU7 (Az @jU8 (Az @jU9 (Az @jy4 (Az @jc8 (Az @jc9 (Az @jd0 (Az @jd1 (Az @jd2 (Az @jd3 (Az @jd4 (Az @qQ0 (Az @qQ1 (@zI2))))))))))))))))))))))))))))))):=Az @kh4 (Az @jy3 (Az @kh5 (Az @kh6 (Az @kh7 (Az @kh8 (Az @jb8 (Az @jb9 (Az @jc0 (Az @jc1 (Az @jc2 (Az @jc3 (Az @jc4 (Az @jc5 (Az @jc6 (Az @jc7 (Az @jU6 (Az @jU7 (Az @jU8 (Az @jU9 (Az @jy4 (Az @jc8 (Az @jc9 (Az @jd0 (Az @jd1 (Az @jd2 (Az @jd3 (Az @jd4 (Az @qQ0 (Az @qQ1 (@zI2))))))))))))))))))))))))))))))
end Go.TL
namespace Go.TL
abbrev vL (bs:List UInt8):T:=.sl 1 (bs.map Zo)
def u8 (n:Int):UInt8:=UInt8.ofNat (n % 256).toNat
theorem ki3 (n:Int):((u8 n).toNat:Int)=n % 256:=by
 unfold u8;have h:(n % 256).toNat<256:=by omega
 rw[UInt8.toNat_ofNat'];omega
theorem zT6 (b:UInt8):(b.toNat:Int)<256:=by have:=b.toNat_lt;omega
theorem zs8 {b:UInt8}:(Zo b).cells=[Zo b]:=rfl
theorem zL2 {st:Sto} {b:UInt8}:live st (Zo b)=True:=by simp [Zo,live,Value.oneCell']
theorem zs9 {bs:List UInt8} {i:Nat} (h:i<bs.length):(bs.map Zo).getD i .junk = .v (.int .u8 (bs.getD i 0).toNat):=by
 simp [List.getD,CK h,Zo]
theorem qQ2 (bs:List UInt8):(bs.map Zo).map qt9=bs:=by
 induction bs with
 | nil=>rfl
 | cons b r ih=>
   simp only[List.map_cons,ih]
   congr 1
   simp [Zo,qt9]
theorem zL3 {bs:List UInt8}:∀ y∈bs.map Zo,JV y=true:=by
 intro y hy;obtain⟨b,_,rfl⟩:=Cj.1 hy
 rfl
theorem zt0 {bs:List UInt8}:(∀ y∈bs.map Zo,JV y=true)=True:=eq_true zL3
theorem jA6 {α:Type} {f:α→T} (h:∀ a,imL (f a).cells=true) (l:List α):zv5 (l.map f):=by
 intro x hx c hc;obtain⟨a,_,rfl⟩:=Cj.1 hx;exact qZ7 (h a) c hc
theorem zb0 {bs:List UInt8}:zv5 (bs.map Zo)=True:=eq_true (jA6 (fun _=>rfl) bs)
theorem qk1 {α β:Type} (f:α→β) (a b:Int) (l:List α):cutT a b (l.map f)=(cutT a b l).map f:=by
 simp [cutT,List.map_take,List.map_drop]
theorem jN0 {α:Type} {a:Nat} {l:List α}:cutT (a:Int) (l.length:Int) l=l.drop a:=by simp [cutT]
theorem zb1 {α:Type} {b:Nat} {l:List α}:cutT 0 (b:Int) l=l.take b:=by simp [cutT]
theorem bits_nat {n:Int} (h0:0≤n):BitVec.ofInt 64 n=BitVec.ofNat 64 n.toNat:=by
 apply BitVec.eq_of_toNat_eq
 simp [BitVec.toNat_ofInt];omega
theorem zx1 {k:Nat}:ImXs k []=True:=by simp [ImXs]
theorem Spc.weaken {P:Program} {f:FuncId} {ts:List T} {st st' st2:Sto} {r r2:T} (h:Spc P f ts st r st') (hl:Zq st r st' r2 st2):Spc P f ts st r2 st2:=by
 refine⟨h.1,h.2.1,fun S ι w vals hR=>(h.2.2 S ι w vals hR).mono ?_⟩;rintro en w' ⟨v,ι',rfl,hp⟩;obtain⟨ι2,h2⟩:=hl _ rfl _ _ _ hp;exact⟨v,ι2,rfl,h2⟩
abbrev vIs (l:List Int):T:=.sl 1 (l.map vI)
theorem qg {α:Type} {l:List α} {i:Nat} {d:α} (h:i<l.length):l.getD i d=l[i]:=by simp [List.getD,h]
def frzC (i:Nat) (o:Option Ob) (l:List (Nat×Ob)):List (Nat×Ob):=match o with
 | some (.arr k xs _)=>(i,.arr k xs true)::l
 | _=>l
def frz (st:Sto):List Nat→List (Nat×Ob)
 | []=>[]
 | i::r=>frzC i (TL.get st i) (frz st r)
def jN1 (st:Sto) (i:Nat):Bool:=match TL.get st i with | some (.arr ..)=>true | _=>false
theorem jA7 {st:Sto}:frz st []=[]:=_root_.id rfl
theorem qW9 {st:Sto} {i:Nat} {r:List Nat}:frz st (i::r)=frzC i (TL.get st i) (frz st r):=_root_.id rfl
theorem zx2 {i k:Nat} {xs:List T} {fz:Bool} {l:List (Nat×Ob)}:frzC i (some (.arr k xs fz)) l=(i,.arr k xs true)::l:=_root_.id rfl
theorem qc1 {st:Sto}:∀ (B:List Nat),wrOk st [] [] [] [] (frz st B)
 | []=>trivial
 | i::r=>by
   rw[qW9];cases h:TL.get st i with
   | none=>exact qc1 r
   | some o=>cases o with
     | dead=>exact qc1 r
     | mp es=>exact qc1 r
     | full i n g=>exact qc1 r
     | arr k xs fz=>
       refine⟨?_,qc1 r⟩;simp only[TL.get,wrO,h];exact⟨trivial,⟨trivial,trivial⟩,by simp⟩
theorem zT7 {st:Sto}:∀ (B:List Nat) (i:Nat),i∈B→jN1 st i=true→∃ k xs,TL.get (frz st B) i=some (.arr k xs true)
 | [],i,h,_=>by simp at h
 | j::r,i,h,hi=>by
   rw[qW9];by_cases hj:j=i
   ·subst hj;unfold jN1 at hi;split at hi
    ·rename_i k xs fz hg;rw[hg,zx2];exact⟨k,xs,by simp [TL.get]⟩
    ·cases hi
   ·obtain⟨k,xs,h3⟩:=zT7 r i (by rcases Ck.1 h with h | h;exact absurd h.symm hj;exact h) hi;refine⟨k,xs,?_⟩;unfold frzC;split
    ·simp [TL.get,hj,h3]
    ·exact h3
theorem zT8 {wr:Sto}:∀ {B:List Nat},(∀ i∈B,∃ k xs,TL.get wr i=some (.arr k xs true))→fzOk wr B=true
 | [],_=>rfl
 | i::r,h=>by
   obtain⟨k,xs,h1⟩:=h i (by simp);simp only[fzOk,h1,Fq];exact zT8 fun j hj=>h j (by simp [hj])
section
variable {P:Program} {st:Sto} {e:Env} {kss:List (Nat×List Nat)} {Q:Ex→St→Prop} {K:List KF} {rows:Option (List Nat)} {ks:List Nat} {nid:Nat} {ops:List ROp} {F:XF} {acc:Acc}
theorem C1.shut {fid:FuncId} {caps xs ts':List T} {r:T} {d:Option Nat} (B:List Nat) (hs:Spc P fid ts' [] r [])
 (ha:ltAs st [] B (xs++caps) ts') (h2:qj9 r=true) (hB:B.all (jN1 st)=true)
 (h:R P e kss Q rows ks K nid ops (putX F d (.p r)) (stUp st (frz st B)) (acc++[(B++(frz st B).map (·.1),(frz st B).map (·.1))])):C1 P e kss Q rows ks K (.clo fid caps) xs d nid ops F st acc:=
 .of [] [] B (frz st B) hs ha rfl trivial (by simp) rfl (qc1 B) rfl rfl (qB2 h2) (.inl (zT8 fun i hi=>by
  obtain⟨k,xs,h3⟩:=zT7 B i hi (Bk.1 hB i hi);exact⟨k,xs,by rw[jz,h3];rfl⟩)) h
theorem C1.shutD {fid:FuncId} {caps xs ts':List T} {r:T} {d:Option Nat} (B:List Nat) (hs:Spc P fid ts' [] r [])
 (ha:ptw (ltAD st B) (xs++caps) ts') (h2:qj9 r=true) (hB:B.all (jN1 st)=true)
 (h:R P e kss Q rows ks K nid ops (putX F d (.p r)) (stUp st (frz st B)) (acc++[(B++(frz st B).map (·.1),(frz st B).map (·.1))])):C1 P e kss Q rows ks K (.clo fid caps) xs d nid ops F st acc:=
 ⟨r,frz st B,_,.ofL [] [] B (frz st B) hs (ptwA ha) rfl trivial (by simp) rfl (qc1 B) rfl rfl (qB2 h2) (.inl (zT8 fun i hi=>by
   obtain⟨k,xs,h3⟩:=zT7 B i hi (Bk.1 hB i hi);exact⟨k,xs,by rw[jz,h3];rfl⟩)),h⟩
end
section
variable {st:Sto}
theorem zL4 {n:Nat} {d:T}:([]:List T).getD n d=d:=_root_.id rfl
theorem zt1:T.junk.cells=[.junk]:=_root_.id rfl
theorem jg1:conT st .junk=none:=_root_.id rfl
theorem zt2 {p:Prop}:jM9 none p=none:=_root_.id rfl
theorem zL5 {op:BinOp} {ib:Bool} {y:T}:binR op ib .junk y=none:=by cases y <;> rfl
theorem zt3 {op:BinOp} {ib:Bool} {y:T}:binR op ib (.v undef) y=none:=by
 cases y <;> first | rfl | (rename_i v;cases v <;> rfl)
theorem zL6 {cells:List T}:zw2 cells []=some cells:=_root_.id rfl
theorem zt4 {cells:List T} {off n:Nat} {x:T} {r:List ((Nat×Nat)×T)}:zw2 cells (((off,n),x)::r)=if x.cells.length=n∧off+n≤cells.length then zw2 (cells.take off++x.cells++cells.drop (off+n)) r else none:=_root_.id rfl
theorem jA8 {a b:ByteArray}:strT .eql a b=retB (a.toList==b.toList):=_root_.id rfl
theorem jA9 {a b:ByteArray}:strT .neq a b=retB (!(a.toList==b.toList)):=_root_.id rfl
theorem jB0 {a b:ByteArray}:strT .add a b=some ⟨a.size+b.size≤9223372036854775807,.v (.string (a++b)),[]⟩:=_root_.id rfl
theorem jB1 {a b:ByteArray}:strT .gtr a b=retB (!(Op.bytesLess a.toList b.toList||a.toList==b.toList)):=_root_.id rfl
theorem jB2 {a b:ByteArray}:strT .leq a b=retB (Op.bytesLess a.toList b.toList||a.toList==b.toList):=_root_.id rfl
theorem jB3 {a b:ByteArray}:strT .geq a b=retB (!Op.bytesLess a.toList b.toList):=_root_.id rfl
theorem jB4 {a b:ByteArray}:strT .lss a b=retB (Op.bytesLess a.toList b.toList):=_root_.id rfl
theorem ex_0 {a:T} {r:List T}:JY (.tup (a::r)) 0=ret a:=_root_.id rfl
theorem ex_1 {a:T} {r:List T} {n:Nat}:JY (.tup (a::r)) (n+1)=JY (.tup r) n:=by simp [JY]
theorem mn_2 {a b:Int}:qR1 minI [vI a,vI b]=retI .i64 (minI a b):=_root_.id rfl
theorem mx_2 {a b:Int}:qR1 maxI [vI a,vI b]=retI .i64 (maxI a b):=_root_.id rfl
theorem tl3:type_of% (Az @zL4 (Az @zt1 (Az @jg1 (Az @zt2 (Az @zL5 (Az @zt3 (Az @zw7 (Az @zb0 (Az @jA7 (Az @qW9 (Az @zx2 (Az @zL6 (Az @zt4 (Az @jA8 (Az @jA9 (Az @jB0 (Az @jB4 (Az @jB1 (Az @jB2 (Az @jB3 (Az @ex_0 (Az @ex_1 (Az @mn_2 (Az @mx_2 (Az @ByteArray.toList_mk (Az @qQ2 (Az @zt0 (Az @zs8 (Az @zL2 (Az @List.take_succ_cons.{0} (Az @List.drop_succ_cons.{0} (Az @List.take_zero.{0} (Az @List.drop_zero.{0} (Az @List.take_nil.{0} (Az @List.drop_nil.{0} (Az @List.cons_append.{0} (Az @List.nil_append.{0} (Az @Nat.zero_add (Az @List.set_cons_zero.{0} (@List.set_cons_succ.{0})))))))))))))))))))))))))))))))))))))))):=
 Az @zL4 (Az @zt1 (Az @jg1 (Az @zt2 (Az @zL5 (Az @zt3 (Az @zw7 (Az @zb0 (Az @jA7 (Az @qW9 (Az @zx2 (Az @zL6 (Az @zt4 (Az @jA8 (Az @jA9 (Az @jB0 (Az @jB4 (Az @jB1 (Az @jB2 (Az @jB3 (Az @ex_0 (Az @ex_1 (Az @mn_2 (Az @mx_2 (Az @ByteArray.toList_mk (Az @qQ2 (Az @zt0 (Az @zs8 (Az @zL2 (Az @List.take_succ_cons.{0} (Az @List.drop_succ_cons.{0} (Az @List.take_zero.{0} (Az @List.drop_zero.{0} (Az @List.take_nil.{0} (Az @List.drop_nil.{0} (Az @List.cons_append.{0} (Az @List.nil_append.{0} (Az @Nat.zero_add (Az @List.set_cons_zero.{0} (@List.set_cons_succ.{0})))))))))))))))))))))))))))))))))))))))
end
end Go.TL
namespace Go.TL
section
variable {P:Program} {e:Env} {kss:List (Nat×List Nat)} {Q:Ex→St→Prop} {K:List KF} {fr:List (Nat×T)} {st:Sto}
def rm1 (k:Nat):List (Nat×T)→List (Nat×T)
 | []=>[]
 | (t,x)::r=>if t=k then rm1 k r else (t,x)::rm1 k r
def rmK:List Nat→List (Nat×T)→List (Nat×T)
 | [],fr=>fr
 | k::ks,fr=>rm1 k (rmK ks fr)
theorem qw {α:Type} {body:RC} (hm:P.follows .mixedOrders=true) (ks:List Nat) (I:α→Prop) (ch:α→List (Nat×T)) (g:α→Sto) (μ:α→Nat) (x0:α) (h0:I x0) (hs:Le e ⟨fr,st⟩ ⟨ch x0++rmK ks fr,g x0⟩)
 (round:∀ x,I x→W P e kss (LQ P e kss Q K I (fun x=>ch x++rmK ks fr) g μ x) body [] (ch x++rmK ks fr) (g x)):W P e kss Q (.loop body) K fr st:=
 zs6 hm I (fun x=>ch x++rmK ks fr) g μ x0 h0 hs round
end
theorem qe {α:Type} {f:α→T} {l:List α} {i:Nat} (h:i<l.length):(l.map f).getD i .junk=f l[i]:=by
 rw[qg (by simpa using h)];simp
theorem qk {i:Nat} (h:i<4611686018427387904):IntKind.i64.wrap ((i:Int)+1)=((i+1:Nat):Int):=by
 rw[AK _ (by omega)];omega
theorem kg {i:Nat} (h:0<i) (h2:i<4611686018427387904):IntKind.i64.wrap ((i:Int)-1)=((i-1:Nat):Int):=by
 rw[AK _ (by omega)];omega
theorem zB {α:Type} {st:Sto} {ρ:Ren} {B:List Nat} {k:Nat} {f:α→T} (h:∀ a,(f a).cells.length=k∧imL (f a).cells=true) (l:List α):ltXs st ρ B k (l.map f) (l.map f):=ym (qH h l)
theorem qM {α:Type} {l:List α} {i:Nat} (h:i<l.length):l.take (i+1)=l.take i++[l[i]]:=List.take_succ_eq_append_getElem h
theorem qX {k:Nat} {a b:List T} (h1:ImXs k a) (h2:ImXs k b):ImXs k (a++b):=fun x hx=>by
 rcases Dz.1 hx with h | h
 ·exact h1 x h
 ·exact h2 x h
theorem qT {k:Nat} {x:T} {a:List T} (h0:x.cells.length=k∧imL x.cells=true) (h:ImXs k a):ImXs k (x::a):=fun y hy=>by
 rcases Ck.1 hy with rfl | hy
 ·exact h0
 ·exact h y hy
theorem qY {k:Nat}:ImXs k []:=fun x hx=>by simp at hx
theorem zt5 {α:Type} {p:α→Bool} {l:List α} {i:Nat} (h:i<l.length) (hp:p l[i]=true):l.any p=true:=DJ.2 ⟨l[i],AX h,hp⟩
theorem kh {α:Type} {p:α→Bool} {l:List α} {i:Nat} (h:i<l.length) (h1:(l.take i).any p=false) (hp:p l[i]=false):(l.take (i+1)).any p=false:=by
 rw[qM h,FW,h1];simp [hp]
theorem Qd {α:Type} {p:α→Bool}:∀ {l:List α} {i:Nat} (h:i<l.length),(l.take i).any p=false→p l[i]=true→l.findIdx p=i
 | [],i,h,_,_=>by simp at h
 | x::r,0,h,_,hp=>by simp at hp;simp [List.findIdx_cons,hp]
 | x::r,i+1,h,h1,hp=>by
   simp only[List.take_succ_cons,List.any_cons,FX] at h1;rw[List.findIdx_cons,h1.1,cond_false,Qd (l:=r) (i:=i) (by simpa using h) h1.2 (by simpa using hp)]
def idxI {α:Type} (p:α→Bool) (l:List α):Int:=if l.any p=true then l.findIdx p else -1
theorem zb2 {α:Type} (p:α→Bool) (l:List α):decide (0≤idxI p l)=l.any p:=by
 unfold idxI;cases h:l.any p <;> simp
def YT {α:Type} (eq:α→α→Bool):List α→List α→Bool
 | [],[]=>true
 | a::as,b::bs=>eq a b&&YT eq as bs
 | _,_=>false
section
variable {α:Type} {eq:α→α→Bool}
theorem jg2:∀ {a b:List α},a.length≠b.length→YT eq a b=false
 | [],[],h=>absurd rfl h
 | [],_::_,_=>rfl
 | _::_,[],_=>rfl
 | a::as,b::bs,h=>by
   simp only[YT];rw[jg2 (a:=as) (b:=bs) (by simpa using h),Bool.and_false]
theorem qk2:∀ {a b c d:List α},a.length=b.length→YT eq (a++c) (b++d)=(YT eq a b&&YT eq c d)
 | [],[],c,d,_=>by simp [YT]
 | [],_::_,_,_,h=>by simp at h
 | _::_,[],_,_,h=>by simp at h
 | a::as,b::bs,c,d,h=>by
   simp only[BW,YT];rw[qk2 (by simpa using h),Bool.and_assoc]
theorem zt6 {a b:List α} {i:Nat} (ha:i<a.length) (hb:i<b.length):YT eq (a.take (i+1)) (b.take (i+1))=(YT eq (a.take i) (b.take i)&&eq a[i] b[i]):=by
 rw[qM ha,qM hb,qk2 (by simp;omega)];simp [YT]
theorem zT9 {a b:List α} {i:Nat} (hl:a.length=b.length) (ha:i<a.length) (h:eq a[i] (b[i]'(by omega))=false):YT eq a b=false:=by
 have e:YT eq a b=YT eq (a.take (i+1)++a.drop (i+1)) (b.take (i+1)++b.drop (i+1)):=by rw[List.take_append_drop,List.take_append_drop]
 rw[e,qk2 (by simp;omega),zt6 ha (by omega),h];simp
theorem zL7 (h:∀ x y,eq x y=true↔x=y):∀ {a b:List α},YT eq a b=true↔a=b
 | [],[]=>by simp [YT]
 | [],_::_=>by simp [YT]
 | _::_,[]=>by simp [YT]
 | a::as,b::bs=>by simp [YT,h,zL7 h (a:=as) (b:=bs)]
end
theorem ka4 {x:T} (h:imT0 x=true):imT x=true:=by
 cases x <;> first | exact h | (simp [imT0] at h)
theorem jB5:∀ {l:List T},zE7 l=true→imL l=true
 | [],_=>rfl
 | x::r,h=>by
   simp only[zE7,Bq] at h;simp only[imL,Bq];exact⟨ka4 h.1,jB5 h.2⟩
theorem ka5 {x:T} (h:imT x=true):imA x=true:=by
 cases x with
 | clo f cs=>exact jB5 h
 | agg cs=>simp [imT,imT0] at h
 | _=>exact h
theorem ka6 {l:List T} (h:imL l=true):imAL l=true:=by
 induction l with
 | nil=>rfl
 | cons c r ih=>
   simp only[imL,Bq] at h;simp only[imAL,Bq];refine⟨?_,ih h.2⟩;exact ka5 h.1
theorem ZX {x:T} {f:FuncId} {caps:List T} (h0:imA x=true) (h:imL caps=true):imAL [x,.clo f caps]=true:=by
 show (imA x&&(imL caps&&true))=true;rw[h0,h];rfl
theorem YU {x:T} {l:List T} (h0:imA x=true) (h:imL l=true):imAL (x::l)=true:=by
 simp only[imAL,h0,ka6 h,Bool.and_self]
def nx (l:List UInt8) (at_:Nat) (n:Int):Int×Nat:=
 if n<1∨l.length≤at_ then (0,at_)
 else if 256<n∧at_+1<l.length then (((l.getD at_ 0).toNat*256+(l.getD (at_+1) 0).toNat) % n,at_+2)
 else ((l.getD at_ 0).toNat % n,at_+1)
abbrev oC (l:List UInt8) (at_:Nat):Ob:=.arr 2 [.agg [vL l,vI at_]] false
theorem qB3 (l:List UInt8) (at_:Nat) (n:Int) (h:at_≤l.length):(nx l at_ n).2≤l.length:=by
 unfold nx;split
 ·exact h
 ·split
  ·simp only;omega
  ·simp only;omega
theorem yw (l:List UInt8) (at_:Nat) (n:Int) (h:1≤n):0≤(nx l at_ n).1∧(nx l at_ n).1<n:=by
 unfold nx;split
 ·simp only;omega
 ·split
  ·exact⟨Int.emod_nonneg _ (by omega),Int.emod_lt_of_pos _ (by omega)⟩
  ·exact⟨Int.emod_nonneg _ (by omega),Int.emod_lt_of_pos _ (by omega)⟩
section
variable {P:Program} {e:Env} {kss:List (Nat×List Nat)} {Q:Ex→St→Prop} {K:List KF} {rows:Option (List Nat)} {ks:List Nat} {nid:Nat} {ops:List ROp} {F:XF} {acc:Acc} {st:Sto} {fid:FuncId} {xs caps ts':List T} {r:T} {d:Option Nat}
theorem C1.draw (id:Nat) (l:List UInt8) (a a':Nat)
 (hs:Spc P fid (.ptr 0 1 0 0::xs) [(0,oC l a)] r [(0,oC l a')]) (hg:TL.get st id=some (oC l a)) (hx:imAL xs=true) (h2:qj9 r=true)
 (h:R P e kss Q rows ks K nid ops (putX F d (.p r)) (stUp st [(id,oC l a')]) (acc++[([]++[(id,oC l a')].map (·.1),[(id,oC l a')].map (·.1))])):C1 P e kss Q rows ks K (.clo fid []) (.ptr id 1 0 0::xs) d nid ops F st acc:=by
 refine C1.of [(0,some id)] [(id,some 0)] [] [(id,oC l a')] hs ?_ (by simp [Zr,TL.get]) ?_ (by rfl) (by simp [TL.get]) ?_ (by simp [Zr,TL.get]) (by rfl) (qB2 h2) (.inl (by rfl)) h
 ·rw[CW];exact⟨by simp [ltA,ltC,ltC0,TL.get],qv1 hx⟩
 ·refine⟨?_,trivial⟩;simp only[TL.get,if_true,ltO2,hg,ltO1];exact⟨trivial,by simp,qW ⟨rfl,rfl,rfl,rfl,trivial⟩ ze,by simp⟩
 ·refine⟨?_,trivial⟩;simp only[TL.get,if_true,wrO,ltO1];exact⟨⟨trivial,by simp,qW ⟨rfl,rfl,rfl,rfl,trivial⟩ ze,by simp⟩,.inr ⟨trivial,rfl⟩⟩
theorem C1.keep (id k:Nat) (ys:List T)
 (hs:Spc P fid ts' [(0,.arr k ys false)] r [(0,.arr k ys false)]) (hg:TL.get st id=some (.arr k ys false)) (him:ImXs k ys) (ha:ltAs st [(0,some id)] [] (xs++caps) ts') (h2:qj9 r=true)
 (h:R P e kss Q rows ks K nid ops (putX F d (.p r)) (stUp st [(id,.arr k ys false)]) (acc++[([]++[(id,Ob.arr k ys false)].map (·.1),[(id,Ob.arr k ys false)].map (·.1))])):C1 P e kss Q rows ks K (.clo fid caps) xs d nid ops F st acc:=by
 refine C1.of [(0,some id)] [(id,some 0)] [] [(id,.arr k ys false)] hs ha (by simp [Zr,TL.get]) ?_ (by rfl) (by simp [TL.get]) ?_ (by simp [Zr,TL.get]) (by rfl) (qB2 h2) (.inl (by rfl)) h
 ·refine⟨?_,trivial⟩;simp only[TL.get,if_true,ltO2,hg,ltO1];exact⟨trivial,by simp,ym him,by simp⟩
 ·refine⟨?_,trivial⟩;simp only[TL.get,if_true,wrO,ltO1];exact⟨⟨trivial,by simp,ym him,by simp⟩,.inr ⟨trivial,rfl⟩⟩
theorem C1.upd (id k:Nat) (ys zs:List T)
 (hs:Spc P fid ts' [(0,.arr k ys false)] r [(0,.arr k zs false)]) (hg:TL.get st id=some (.arr k ys false)) (him:ImXs k ys) (him2:ImXs k zs) (ha:ltAs st [(0,some id)] [] (xs++caps) ts') (h2:qj9 r=true)
 (h:R P e kss Q rows ks K nid ops (putX F d (.p r)) (stUp st [(id,.arr k zs false)]) (acc++[([]++[(id,Ob.arr k zs false)].map (·.1),[(id,Ob.arr k zs false)].map (·.1))])):C1 P e kss Q rows ks K (.clo fid caps) xs d nid ops F st acc:=by
 refine C1.of [(0,some id)] [(id,some 0)] [] [(id,.arr k zs false)] hs ha (by simp [Zr,TL.get]) ?_ (by rfl) (by simp [TL.get]) ?_ (by simp [Zr,TL.get]) (by rfl) (qB2 h2) (.inl (by rfl)) h
 ·refine⟨?_,trivial⟩;simp only[TL.get,if_true,ltO2,hg,ltO1];exact⟨trivial,by simp,ym him,by simp⟩
 ·refine⟨?_,trivial⟩;simp only[TL.get,if_true,wrO,ltO1];exact⟨⟨trivial,by simp,ym him2,by simp⟩,.inr ⟨trivial,rfl⟩⟩
theorem C1.newdraw {l:List UInt8} {a:Nat} (nid':Nat) (hs:Spc P fid (xs++caps) [] (.ptr 0 1 0 0) [(0,oC l a)]) (h1:imAL (xs++caps)=true) (hn:TL.get st nid'=none)
 (h:R P e kss Q rows ks K nid ops (putX F d (.p (.ptr nid' 1 0 0))) (stUp st [(nid',oC l a)]) (acc++[([]++[nid'],[nid'])])):C1 P e kss Q rows ks K (.clo fid caps) xs d nid ops F st acc:=by
 refine C1.of [] [(nid',some 0)] [] [(nid',oC l a)] hs (qv1 h1) rfl trivial (by simp) (by rfl) ?_ (by simp [Zr,TL.get]) (by rfl) ?_ (.inl (by rfl)) h
 ·refine⟨?_,trivial⟩;simp only[TL.get,if_true,wrO,ltO1];exact⟨⟨trivial,by simp,qW ⟨rfl,rfl,rfl,rfl,trivial⟩ ze,by simp⟩,.inl hn⟩
 ·exact⟨by simp [TL.get],rfl,rfl,rfl⟩
theorem C2.one {L:List (Nat×Bool)} {c:Prop} {f:T} {as:List T} (hc:c) (h:C1 P e kss Q rows ks K f as d nid ops F st acc):C2 P e kss Q rows ks K L c f as d nid ops F st acc:=by
 obtain⟨val,wr,rd,h1,h2⟩:=h;exact⟨val,wr,rd,fun _=>h1,.inr (.inl ⟨hc,h2⟩)⟩
theorem C2.no {L:List (Nat×Bool)} {c:Prop} {f:T} {as:List T} (hc:¬ c) (h:R P e kss Q rows ks K nid ops (putX F d (.p (.v undef))) st (acc++[([],[])])):C2 P e kss Q rows ks K L c f as d nid ops F st acc:=
 ⟨.junk,[],[],fun h=>absurd h hc,.inr (.inr ⟨hc,h⟩)⟩
theorem C1.fresh {ys:List T} {m k:Nat} (nid':Nat) (hs:Spc P fid (xs++caps) [] (.asl 0 m) [(0,.arr k ys false)]) (h1:imAL (xs++caps)=true) (hy:ImXs k ys) (hn:TL.get st nid'=none)
 (h:R P e kss Q rows ks K nid ops (putX F d (.p (.asl nid' m))) (stUp st [(nid',.arr k ys false)]) (acc++[([]++[nid'],[nid'])])):C1 P e kss Q rows ks K (.clo fid caps) xs d nid ops F st acc:=by
 refine C1.of [] [(nid',some 0)] [] [(nid',.arr k ys false)] hs (qv1 h1) rfl trivial (by simp) (by rfl) ?_ (by simp [Zr,TL.get]) (by rfl) ?_ (.inl (by rfl)) h
 ·refine⟨?_,trivial⟩;simp only[TL.get,if_true,wrO,ltO1];exact⟨⟨trivial,by simp,ym hy,by simp⟩,.inl hn⟩
 ·exact⟨by simp [TL.get],rfl⟩
end
theorem clA {p:Prop} (h:p:=by
 all_goals (try simp only[Jg,ltO2,ltO1,ltAs,ltA,ltC,ltC0,za4,ltCs,ltT,ltFr,ltS,wrOk,wrO,TL.get,qh1,↓reduceIte,Nat.reduceEqDiff,reduceCtorEq,Option.getD_some,Option.isSome_some,BY,AW,CJ,Cw,CW,Ey,Ck,List.not_mem_nil,and_true,true_and,and_self,imp_self,forall_const,false_implies,implies_true,true_implies,or_false,EZ,Bool.true_eq_false,zx1,true_or,or_true,false_or,false_and,and_false,rmK,rm1,By,List.map_cons,List.map_nil,BW,Cy])
 all_goals (try (repeat' (first
  | exact ze
  | (apply zB;intro _;exact⟨rfl,rfl⟩)
  | (apply qH;intro _;exact⟨rfl,rfl⟩)
  | with_reducible apply qX
  | with_reducible refine qT ⟨rfl,rfl⟩ ?_
  | exact qY
  | with_reducible apply qU
  | with_reducible refine qW ⟨rfl,rfl,?_⟩ ?_
  | with_reducible apply Az
  | exact qV rfl
  | exact qV (by assumption)
  | exact ym (by assumption)
  | (refine⟨⟨?_,rfl,?_,rfl,?_⟩,trivial⟩ <;> first | (simp;done) | (apply qH;intro _;exact⟨rfl,rfl⟩))
  | trivial
  | rfl
  | (rw[qk (by omega)])
  | omega)))):p:=h
theorem sW {p q:Prop} (h:q) (e:p=q:=by simp only[tl,tl2,tl4,↓un_u,zV,entX,qh0,ret,retI,retB,intT,unT,endR,qA7,resR,tupT,bslR,boxR,qg2,↓reduceIte,Nat.reduceEqDiff,Nat.reduceAdd,Nat.reduceMul,Nat.reduceLT,Nat.reduceLeDiff,reduceCtorEq,Int.reduceLE,Int.reduceLT,ne_eq,Int.reduceEq,not_false_eq_true,decide_true,decide_false,Int.reduceToNat,tl3,Int.reduceBNe,Int.reduceBEq,rmK,rm1,not_true_eq_false];rfl):p:=e.mpr h
theorem sD {p q:Prop} (h:q) (e:p=q:=by simp only[tl,tl2,tl4,↓un_u,zV,entX,qh0,ret,retI,retB,intT,unT,endR,qA7,resR,tupT,bslR,boxR,qg2,↓reduceIte,Nat.reduceEqDiff,Nat.reduceAdd,Nat.reduceMul,Nat.reduceLT,Nat.reduceLeDiff,reduceCtorEq,Int.reduceLE,Int.reduceLT,ne_eq,Int.reduceEq,not_false_eq_true,decide_true,decide_false,Int.reduceToNat,tl3,Int.reduceBNe,Int.reduceBEq,rmK,rm1,not_true_eq_false,AZ,Ay,DZ,FX,Bq,FJ];rfl):p:=e.mpr h
end Go.TL
