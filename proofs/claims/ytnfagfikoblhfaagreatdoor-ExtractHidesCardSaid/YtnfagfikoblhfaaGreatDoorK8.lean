/- A part of the proof: trees of Go values, short forms, contracts. -/
import Derived.WalkKit
import Derived.Still
import Derived.MapKept
import GoSem.Builtin.Cap
import Derived.Laws.Externs
import GoSem.Extern.SlicesOverlaps
import Derived.Test.YtnfagfikoblhfaaGreatDoorK7
namespace Go.TL
set_option linter.unusedSimpArgs false
set_option linter.unusedVariables false
abbrev vI (n:Int):T:=.v (.int .i64 n)
abbrev vB (b:Bool):T:=.v (.bool b)
abbrev vU64 (n:Int):T:=.v (.int .u64 n)
abbrev vS (s:ByteArray):T:=.v (.string s)
def qs4 (fr:List (Nat×T)):List (Nat×T)→Prop
 | []=>True
 | (t,x)::r=>TL.get fr t=some x∧qs4 fr r
section
variable {P:Program} {e:Env} {kss:List (Nat×List Nat)} {Q:Ex→St→Prop} {K:List KF} {fr:List (Nat×T)} {st:Sto}
theorem jF2 {fr fr':List (Nat×T)} (h:qs4 fr fr') {t:Nat} {x:T} (hx:TL.get fr' t=some x):TL.get fr t=some x:=by
 induction fr' with
 | nil=>cases hx
 | cons p r ih=>
   obtain⟨u,y⟩:=p;obtain⟨h1,h2⟩:=h;simp only[TL.get] at hx;split at hx
   ·rename_i hu;subst hu;injection hx with hx;subst hx;exact h1
   ·exact ih h2 hx
theorem Le.ofFr {fr fr':List (Nat×T)} {st:Sto} (h:qs4 fr fr'):Le e ⟨fr,st⟩ ⟨fr',st⟩:=
 fun ι a w hR=>⟨ι,hR.drop rfl fun t x hx=>jF2 h hx⟩
def LQ {α:Type} (P:Program) (e:Env) (kss:List (Nat×List Nat)) (Q:Ex→St→Prop) (K:List KF) (I:α→Prop) (f:α→List (Nat×T)) (g:α→Sto) (μ:α→Nat) (x:α):Ex→St→Prop
 | .normal,s=>∃ y,I y∧μ y<μ x∧Le e s ⟨f y,g y⟩
 | .exit i,s=>X P e kss Q (.exit i) K s.fr s.st
 | .ret,s=>X P e kss Q .ret K s.fr s.st
theorem zO7 {α:Type} {I:α→Prop} {f:α→List (Nat×T)} {g:α→Sto} {μ:α→Nat} {x:α}:LQ P e kss Q K I f g μ x .normal ⟨fr,st⟩=∃ y,I y∧μ y<μ x∧Le e ⟨fr,st⟩ ⟨f y,g y⟩:=_root_.id rfl
theorem jF3 {α:Type} {I:α→Prop} {f:α→List (Nat×T)} {g:α→Sto} {μ:α→Nat} {x:α} {i:Nat}:LQ P e kss Q K I f g μ x (.exit i) ⟨fr,st⟩=X P e kss Q (.exit i) K fr st:=_root_.id rfl
theorem kb3 {α:Type} {I:α→Prop} {f:α→List (Nat×T)} {g:α→Sto} {μ:α→Nat} {x:α}:LQ P e kss Q K I f g μ x .ret ⟨fr,st⟩=X P e kss Q .ret K fr st:=_root_.id rfl
theorem zO8 {α:Type} {body:RC} (hm:P.follows .mixedOrders=true) (I:α→Prop) (f:α→List (Nat×T)) (g:α→Sto) (μ:α→Nat) (x0:α) (h0:I x0) (hs:Le e ⟨fr,st⟩ ⟨f x0,g x0⟩)
 (round:∀ x,I x→W P e kss (LQ P e kss Q K I f g μ x) body [] (f x) (g x)):W P e kss Q (.loop body) K fr st:=by
 refine WPR.loop hm I (fun x=>⟨f x,g x⟩) μ x0 h0 hs fun x hI=>?_;have:jP8 e I (fun x=>⟨f x,g x⟩) μ x (kq P e kss Q K)=LQ P e kss Q K I f g μ x:=by
  funext ex s
  cases ex <;> rfl
 rw[this];exact round x hI
theorem Zi.imR {x r:T} {st:Sto} (h:x=r) (hi:qk4 x=true):Zi [] x st r []:=h ▸ .im hi
theorem kb4 {a b:Int}:(a≥b)=(b≤a):=rfl
theorem jF4 {a b:Bool}:(bif a then b else false)=(a&&b):=by cases a <;> rfl
theorem kb5 {a b:Bool}:(bif a then true else b)=(a||b):=by cases a <;> rfl
end
end Go.TL
namespace Go.TL
abbrev Ren:=List (Nat×Option Nat)
def rho (ρ:Ren) (i:Nat):Option Nat:=match TL.get ρ i with | some (some j)=>some j | _=>none
def ImXs (k:Nat) (xs:List T):Prop:=∀ x∈xs,x.cells.length=k∧imL x.cells=true
def ltS (o:Option Ob) (k n:Nat) (ys:List T):Prop:=match o with
 | some (.arr k' xs _)=>k'=k∧xs.length=n∧ys=xs∧ImXs k xs
 | _=>False
def ltV (o:Option Ob) (k n lo len:Nat) (ys:List T):Prop:=match o with
 | some (.arr k' xs _)=>k'=k∧xs.length=n∧ys=(xs.drop lo).take len∧lo+len≤n∧ImXs k xs
 | _=>False
def ltP (o:Option Ob) (n i j:Nat) (cs:List T):Prop:=match o with
 | some (.arr k xs _)=>xs.length=n∧i<n∧cs=(xs.getD i .junk).cells.drop j∧ImXs k xs
 | _=>False
def ltC0 (st:Sto) (ρ:Ren) (B:List Nat) (x y:T):Prop:=
 match y with
 | .junk=>True
 | .asl i' n'=>match x with
   | .asl i n=>TL.get ρ i'=some (some i)∧n=n'
   | .v (.slice none 0 0)=>TL.get ρ i'=some none∧n'=0
   | _=>False
 | .ptr i' n' a' b'=>match x with
   | .ptr i n a b=>TL.get ρ i'=some (some i)∧n=n'∧a=a'∧b=b'
   | _=>False
 | .sl k ys=>match x with
   | .asl i n=>i∈B∧ltS (TL.get st i) k n ys
   | .vw i n lo len=>i∈B∧ltV (TL.get st i) k n lo len ys
   | .v (.slice none 0 0)=>ys=[]
   | x=>x = .sl k ys
 | .ip cs=>match x with
   | .ptr i n a b=>i∈B∧ltP (TL.get st i) n a b cs
   | x=>x = .ip cs
 | .agg _=>False
 | .clo _ _=>False
 | .tup _=>False
 | .vw i' n' lo' len'=>match x with
   | .vw i n lo len=>TL.get ρ i'=some (some i)∧n=n'∧lo=lo'∧len=len'
   | .asl i n=>TL.get ρ i'=some (some i)∧n=n'∧lo'=0∧len'=n'
   | _=>False
 | .mp i'=>match x with
   | .mp i=>TL.get ρ i'=some (some i)
   | _=>False
 | y=>x=y
def zc6 (st:Sto) (ρ:Ren) (B:List Nat):List T→List T→Prop
 | [],[]=>True
 | x::xs,y::ys=>ltC0 st ρ B x y∧zc6 st ρ B xs ys
 | _,_=>False
def ltC (st:Sto) (ρ:Ren) (B:List Nat) (x y:T):Prop:=
 match y with
 | .clo f ys=>match x with | .clo g xs=>f=g∧zc6 st ρ B xs ys | _=>False
 | y=>ltC0 st ρ B x y
def ltCs (st:Sto) (ρ:Ren) (B:List Nat):List T→List T→Prop
 | [],[]=>True
 | x::xs,y::ys=>ltC st ρ B x y∧ltCs st ρ B xs ys
 | _,_=>False
def ltA (st:Sto) (ρ:Ren) (B:List Nat) (x y:T):Prop:=
 match y with
 | .agg ys=>match x with | .agg xs=>ltCs st ρ B xs ys | _=>False
 | .clo f ys=>match x with | .clo g xs=>f=g∧ltCs st ρ B xs ys | _=>False
 | y=>ltC st ρ B x y
def ltAs (st:Sto) (ρ:Ren) (B:List Nat):List T→List T→Prop
 | [],[]=>True
 | x::xs,y::ys=>ltA st ρ B x y∧ltAs st ρ B xs ys
 | _,_=>False
def ltT (st:Sto) (ρ:Ren) (B:List Nat) (x y:T):Prop:=
 match y with
 | .tup ys=>match x with | .tup xs=>ltAs st ρ B xs ys | _=>False
 | y=>ltA st ρ B x y
def ltXs (st:Sto) (ρ:Ren) (B:List Nat) (k:Nat) (xs ys:List T):Prop:=xs.length=ys.length∧∀ (i:Nat) (x y:T),xs[i]?=some x→ys[i]?=some y→x.cells.length=k∧y.cells.length=k∧ltCs st ρ B x.cells y.cells
def ltO1 (st:Sto) (ρ:Ren) (B:List Nat) (k:Nat) (ys:List T) (fz':Bool) (i:Nat) (o:Option Ob):Prop:=match o with
 | some (.arr k0 xs fz)=>k0=k∧(fz=true→fz'=true)∧ltXs st ρ B k xs ys∧(i∈B→fz'=true)
 | _=>False
def ltO2 (st:Sto) (ρ:Ren) (B:List Nat) (k:Nat) (ys:List T) (fz':Bool) (r:Option (Option Nat)):Prop:=match r with
 | some none=>ys=[]
 | some (some i)=>ltO1 st ρ B k ys fz' i (TL.get st i)
 | none=>False
def ltM (es:Es) (o:Option Ob):Prop:=match o with | some (.mp es')=>es'=es | _=>False
def ltM2 (st:Sto) (es:Es) (r:Option (Option Nat)):Prop:=match r with
 | some (some i)=>ltM es (TL.get st i)
 | _=>False
def Jc (st:Sto) (ρ:Ren) (B:List Nat):Sto→Prop
 | []=>True
 | (i,.dead)::r=>Jc st ρ B r
 | (i,.arr k ys fz')::r=>ltO2 st ρ B k ys fz' (TL.get ρ i)∧Jc st ρ B r
 | (i,.mp es)::r=>ltM2 st es (TL.get ρ i)∧Jc st ρ B r
 | (_,.full ..)::_=>False
def ltFr (st:Sto) (ρ:Ren) (B:List Nat) (fr:List (Nat×T)):List (Nat×T)→Prop
 | []=>True
 | (t,y)::r=>ltT st ρ B ((TL.get fr t).getD .junk) y∧ltFr st ρ B fr r
def Zk (st':Sto) (ρ:Ren):Bool:=(ρ.all fun p=>(TL.get st' p.1).isSome)&&decide (ρ.filterMap (·.2)).Nodup
def zO9 (st':Sto) (ρ:Ren):Sto→Bool
 | []=>true
 | (i,_)::r=>(TL.get st' i).isSome&&(TL.get ρ i==some (some i))&&zO9 st' ρ r
section
variable {st st':Sto} {ρ:Ren} {B:List Nat} {d:Nat→Prop}
theorem qb9 {α:Type} {l:List (Nat×α)} {i:Nat} {x:α} (h:TL.get l i=some x):(i,x)∈l:=by
 induction l with
 | nil=>cases h
 | cons p r ih=>
   obtain⟨j,y⟩:=p;simp only[TL.get] at h;split at h
   ·rename_i hj;subst hj;injection h with h;subst h;simp
   ·exact CQ _ (ih h)
theorem zc7 (h:Zk st' ρ=true) {i:Nat} {x:Option Nat} (hi:TL.get ρ i=some x):TL.get st' i≠none:=by
 simp only[Zk,Bq] at h;have:=Bk.1 h.1 (i,x) (qb9 hi);intro hn;simp [hn] at this
theorem qC6:∀ {ρ:Ren} {i1 i2 j:Nat},(ρ.filterMap (·.2)).Nodup→(i1,some j)∈ρ→(i2,some j)∈ρ→i1=i2
 | [],_,_,_,_,h,_=>by cases h
 | (i,x)::r,i1,i2,j,hn,h1,h2=>by
   cases x with
   | none=>
     simp only[List.filterMap_cons] at hn;simp only[Ck,Prod.mk.injEq,reduceCtorEq,and_false,false_or] at h1 h2;exact qC6 hn h1 h2
   | some y=>
     simp only[List.filterMap_cons,List.nodup_cons,List.mem_filterMap,not_exists,not_and] at hn;simp only[Ck,Prod.mk.injEq,Option.some.injEq] at h1 h2;rcases h1 with⟨rfl,rfl⟩ | h1
     ·rcases h2 with⟨rfl,_⟩ | h2
      ·rfl
      ·exact absurd rfl (hn.1 _ h2)
     ·rcases h2 with⟨rfl,rfl⟩ | h2
      ·exact absurd rfl (hn.1 _ h1)
      ·exact qC6 hn.2 h1 h2
theorem zP0 {k:Nat} {xs:List T} (h:ImXs k xs):(∀ x∈xs,x.cells.length=k)∧∀ c∈flat xs,imT c=true:=by
 refine⟨fun x hx=>(h x hx).1,fun c hc=>?_⟩;simp only[flat,Ek] at hc;obtain⟨x,hx,hc⟩:=hc;exact zb9 (h x hx).2 c hc
theorem zv4 (hd:∀ i x,TL.get ρ i=some x→d i) {x y:T} (h:ltC0 st ρ B x y):Lt st d (rho ρ) B x y:=by
 unfold ltC0 at h;split at h
 ·exact .junk x
 ·rename_i i' n';split at h
  ·obtain⟨h1,rfl⟩:=h;exact .asl _ _ _ (by simp [rho,h1]) (hd _ _ h1)
  ·obtain⟨h1,rfl⟩:=h;exact .ghost _ (by simp [rho,h1]) (hd _ _ h1)
  ·exact h.elim
 ·split at h
  ·obtain⟨h1,rfl,rfl,rfl⟩:=h;exact .ptr _ _ _ _ _ (by simp [rho,h1]) (hd _ _ h1)
  ·exact h.elim
 ·rename_i k ys;split at h
  ·rename_i i n;obtain⟨h1,h2⟩:=h;unfold ltS at h2;split at h2
   ·rename_i k' xs fz hg;obtain⟨rfl,rfl,rfl,h3⟩:=h2;obtain⟨h4,h5⟩:=zP0 h3;exact .shut _ _ _ _ _ fz h1 hg rfl rfl h4 (fun j c c' hc hc'=>by
     rw[hc] at hc';injection hc' with hc';subst hc'
     exact .im _ (h5 _ (BX hc))) h5
   ·exact h2.elim
  ·rename_i i n lo len;obtain⟨h1,h2⟩:=h;unfold ltV at h2;split at h2
   ·rename_i k' xs fz hg;obtain⟨rfl,rfl,rfl,hle,h3⟩:=h2;obtain⟨h4,h5⟩:=zP0 h3;have hsub:∀ c∈flat ((xs.drop lo).take len),imT c=true:=fun c hc=>by
     simp only[flat,Ek] at hc;obtain⟨y,hy,hc⟩:=hc;exact h5 c (by simp only[flat,Ek];exact⟨y,EW (EX hy),hc⟩)
    exact .shutv _ _ _ _ _ _ _ fz h1 hg rfl (by simp;omega) (fun y hy=>h4 y (EW (EX hy))) (fun j c c' hc hc'=>by
     rw[hc] at hc';injection hc' with hc';subst hc'
     exact .im _ (hsub _ (BX hc))) hsub
   ·exact h2.elim
  ·subst h;exact .nil k
  ·subst h;exact .im _ rfl
 ·rename_i cs;split at h
  ·rename_i i n a b;obtain⟨h1,h2⟩:=h;unfold ltP at h2;split at h2
   ·rename_i k xs fz hg;obtain⟨h3,h4,h5,h6⟩:=h2;refine .ptrip _ _ _ _ k xs _ fz h1 hg h3 h4 h5 fun c hc=>?_;subst h5;have hx:xs.getD a .junk∈xs:=by
     rw[CY,CK (by omega)];exact AX _
    exact zb9 (h6 _ hx).2 c (EW hc)
   ·exact h2.elim
  ·subst h;exact .im _ rfl
 ·exact h.elim
 ·exact h.elim
 ·exact h.elim
 ·split at h
  ·obtain⟨h1,rfl,rfl,rfl⟩:=h;exact .vw _ _ _ _ _ (by simp [rho,h1]) (hd _ _ h1)
  ·obtain⟨h1,rfl,rfl,rfl⟩:=h;exact .aslv _ _ _ (by simp [rho,h1]) (hd _ _ h1)
  ·exact h.elim
 ·split at h
  ·exact .mp _ _ (by simp [rho,h]) (hd _ _ h)
  ·exact h.elim
 ·rename_i h1 h2 h3 h4 h9 h5 h6 h7 h8 h10;subst h;cases x with
  | v x=>exact .im _ rfl
  | ip cs=>exact absurd rfl (h9 _)
  | ub p q=>exact .im _ rfl
  | junk=>exact .junk _
  | asl=>exact absurd rfl (h2 _ _)
  | ptr=>exact absurd rfl (h3 _ _ _ _)
  | sl=>exact absurd rfl (h4 _ _)
  | agg=>exact absurd rfl (h5 _)
  | clo=>exact absurd rfl (h6 _ _)
  | tup=>exact absurd rfl (h7 _)
  | vw=>exact absurd rfl (h8 _ _ _ _)
  | mp=>exact absurd rfl (h10 _)
theorem zc8 (hd:∀ i x,TL.get ρ i=some x→d i):∀ {xs ys:List T},zc6 st ρ B xs ys→xs.length=ys.length∧∀ (j:Nat) (c c':T),xs[j]?=some c→ys[j]?=some c'→Lt st d (rho ρ) B c c'
 | [],[],_=>⟨rfl,fun j c c' h=>by simp at h⟩
 | [],_::_,h=>h.elim
 | _::_,[],h=>h.elim
 | x::xs,y::ys,h=>by
   obtain⟨h1,h2⟩:=h;obtain⟨h3,h4⟩:=zc8 hd h2;refine⟨by simp [h3],fun j c c' hc hc'=>?_⟩;cases j with
   | zero=>simp at hc hc';subst hc hc';exact zv4 hd h1
   | succ j=>exact h4 j c c' (by simpa using hc) (by simpa using hc')
theorem zP1 (hd:∀ i x,TL.get ρ i=some x→d i) {x y:T} (h:ltC st ρ B x y):Lt st d (rho ρ) B x y:=by
 unfold ltC at h;split at h
 ·split at h
  ·obtain⟨rfl,h⟩:=h;obtain⟨h1,h2⟩:=zc8 hd h;exact .clo _ _ _ h1 h2
  ·exact h.elim
 ·exact zv4 hd h
theorem qr1 (hd:∀ i x,TL.get ρ i=some x→d i):∀ {xs ys:List T},ltCs st ρ B xs ys→xs.length=ys.length∧∀ (j:Nat) (c c':T),xs[j]?=some c→ys[j]?=some c'→Lt st d (rho ρ) B c c'
 | [],[],_=>⟨rfl,fun j c c' h=>by simp at h⟩
 | [],_::_,h=>h.elim
 | _::_,[],h=>h.elim
 | x::xs,y::ys,h=>by
   obtain⟨h1,h2⟩:=h;obtain⟨h3,h4⟩:=qr1 hd h2;refine⟨by simp [h3],fun j c c' hc hc'=>?_⟩;cases j with
   | zero=>simp at hc hc';subst hc hc';exact zP1 hd h1
   | succ j=>exact h4 j c c' (by simpa using hc) (by simpa using hc')
theorem zP2 (hd:∀ i x,TL.get ρ i=some x→d i) {x y:T} (h:ltA st ρ B x y):Lt st d (rho ρ) B x y:=by
 unfold ltA at h;split at h
 ·split at h
  ·obtain⟨h1,h2⟩:=qr1 hd h;exact .agg _ _ h1 h2
  ·exact h.elim
 ·split at h
  ·obtain⟨rfl,h⟩:=h;obtain⟨h1,h2⟩:=qr1 hd h;exact .clo _ _ _ h1 h2
  ·exact h.elim
 ·exact zP1 hd h
theorem qL6 (hd:∀ i x,TL.get ρ i=some x→d i):∀ {xs ys:List T},ltAs st ρ B xs ys→xs.length=ys.length∧∀ (j:Nat) (c c':T),xs[j]?=some c→ys[j]?=some c'→Lt st d (rho ρ) B c c'
 | [],[],_=>⟨rfl,fun j c c' h=>by simp at h⟩
 | [],_::_,h=>h.elim
 | _::_,[],h=>h.elim
 | x::xs,y::ys,h=>by
   obtain⟨h1,h2⟩:=h;obtain⟨h3,h4⟩:=qL6 hd h2;refine⟨by simp [h3],fun j c c' hc hc'=>?_⟩;cases j with
   | zero=>simp at hc hc';subst hc hc';exact zP2 hd h1
   | succ j=>exact h4 j c c' (by simpa using hc) (by simpa using hc')
theorem zP3 (hd:∀ i x,TL.get ρ i=some x→d i) {x y:T} (h:ltT st ρ B x y):Lt st d (rho ρ) B x y:=by
 unfold ltT at h;split at h
 ·split at h
  ·obtain⟨h1,h2⟩:=qL6 hd h;exact .tup _ _ h1 h2
  ·exact h.elim
 ·exact zP2 hd h
theorem zP4 {k:Nat} {xs ys:List T} (h:ltXs st ρ B k xs ys) (hd:∀ i x,TL.get ρ i=some x→d i):(∀ y∈ys,y.cells.length=k)∧∀ (j:Nat) (c c':T),(flat xs)[j]?=some c→(flat ys)[j]?=some c'→Lt st d (rho ρ) B c c':=by
 obtain⟨hl,h⟩:=h;have hx:∀ x∈xs,x.cells.length=k:=by
  intro x hx;obtain⟨i,hi,rfl⟩:=CX hx;exact (h i xs[i] (ys[i]'(by omega)) (by simp) (by simp)).1
 have hy:∀ y∈ys,y.cells.length=k:=by
  intro y hy;obtain⟨i,hi,rfl⟩:=CX hy;exact (h i (xs[i]'(by omega)) ys[i] (by simp) (by simp)).2.1
 refine⟨hy,fun j c c' hc hc'=>?_⟩;have hj:j<xs.length*k:=by rw[← qA hx];exact (List.getElem?_eq_some_iff.1 hc).1
 have hk:0<k:=by
  rcases DQ k with h0 | h0
  ·rw[h0] at hj;simp at hj
  ·exact h0
 have hi:j / k<xs.length:=by rw[Nat.div_lt_iff_lt_mul hk];exact hj
 have he:j=(j / k)*k+j % k:=by rw[Nat.mul_comm];exact (Nat.div_add_mod j k).symm
 have at1:∀ {zs:List T},(∀ z∈zs,z.cells.length=k)→∀ (i m:Nat) (z:T),zs[i]?=some z→m<k→(flat zs)[i*k+m]?=z.cells[m]?:=by
  intro zs
  induction zs with
  | nil=>intro _ i m z hz;simp at hz
  | cons z0 zs ih=>
    intro hk' i m z hz hm;have hz0:=hk' z0 (by simp);simp only[flat,Gq];cases i with
    | zero=>simp at hz;subst hz;rw[BK (by omega)];simp
    | succ i=>
      rw[BJ (by rw[hz0,Nat.succ_mul];omega),hz0,show (i+1)*k+m-k=i*k+m by rw[Nat.succ_mul];omega];exact ih (fun z hz=>hk' z (by simp [hz])) i m z (by simpa using hz) hm
 rw[he,at1 hx (j / k) (j % k) xs[j / k] (by simp [hi]) (Nat.mod_lt _ hk)] at hc;rw[he,at1 hy (j / k) (j % k) (ys[j / k]'(by omega)) (by simp) (Nat.mod_lt _ hk)] at hc';have h3:=(h (j / k) xs[j / k] (ys[j / k]'(by omega)) (by simp [hi]) (by simp)).2.2;exact (qr1 hd h3).2 _ c c' hc hc'
theorem qC7:∀ {l:Sto},Jc st ρ B l→∀ {i k:Nat} {ys:List T} {fz:Bool},TL.get l i=some (.arr k ys fz)→ltO2 st ρ B k ys fz (TL.get ρ i)
 | [],_,i,k,ys,fz,h=>by cases h
 | (j,.dead)::r,hs,i,k,ys,fz,h=>by
   simp only[TL.get] at h;split at h
   ·injection h with h;cases h
   ·exact qC7 (l:=r) hs h
 | (j,.arr k0 y0 f0)::r,hs,i,k,ys,fz,h=>by
   simp only[TL.get] at h;split at h
   ·rename_i hj;subst hj;injection h with h;injection h with h1 h2 h3;subst h1 h2 h3;exact hs.1
   ·exact qC7 (l:=r) hs.2 h
 | (j,.mp es)::r,hs,i,k,ys,fz,h=>by
   simp only[TL.get] at h;split at h
   ·injection h with h;cases h
   ·exact qC7 (l:=r) hs.2 h
 | (j,.full ..)::r,hs,i,k,ys,fz,h=>hs.elim
theorem qZ0:∀ {l:Sto},Jc st ρ B l→∀ {i:Nat} {es:Es},TL.get l i=some (.mp es)→ltM2 st es (TL.get ρ i)
 | [],_,i,es,h=>by cases h
 | (j,.dead)::r,hs,i,es,h=>by
   simp only[TL.get] at h;split at h
   ·injection h with h;cases h
   ·exact qZ0 (l:=r) hs h
 | (j,.arr k0 y0 f0)::r,hs,i,es,h=>by
   simp only[TL.get] at h;split at h
   ·injection h with h;cases h
   ·exact qZ0 (l:=r) hs.2 h
 | (j,.mp es0)::r,hs,i,es,h=>by
   simp only[TL.get] at h;split at h
   ·rename_i hj;subst hj;injection h with h;injection h with h;subst h;exact hs.1
   ·exact qZ0 (l:=r) hs.2 h
 | (j,.full ..)::r,hs,i,es,h=>hs.elim
theorem qZ1:∀ {l:Sto},Jc st ρ B l→∀ {i:Nat} {a b:Nat} {g:Bool},TL.get l i≠some (.full a b g)
 | [],_,i,a,b,g,h=>by cases h
 | (j,.dead)::r,hs,i,a,b,g,h=>by
   simp only[TL.get] at h;split at h
   ·injection h with h;cases h
   ·exact qZ1 (l:=r) hs h
 | (j,.arr k0 y0 f0)::r,hs,i,a,b,g,h=>by
   simp only[TL.get] at h;split at h
   ·injection h with h;cases h
   ·exact qZ1 (l:=r) hs.2 h
 | (j,.mp es0)::r,hs,i,a,b,g,h=>by
   simp only[TL.get] at h;split at h
   ·injection h with h;cases h
   ·exact qZ1 (l:=r) hs.2 h
 | (j,.full ..)::r,hs,i,a,b,g,h=>hs.elim
theorem zP5:∀ {l:Sto},zO9 st' ρ l=true→∀ {i:Nat},TL.get l i≠none→TL.get st' i≠none∧TL.get ρ i=some (some i)
 | [],_,i,h=>by simp [TL.get] at h
 | (j,o)::r,hh,i,h=>by
   simp only[zO9,Bq,AY] at hh;simp only[TL.get] at h;split at h
   ·rename_i hj;subst hj;exact⟨by intro hn;simp [hn] at hh,hh.1.2⟩
   ·exact zP5 hh.2 h
theorem kf1 {e:Env} {fr fr':List (Nat×T)} (hr:Zk st' ρ=true) (hh:zO9 st' ρ e.st0=true) (hs:Jc st ρ B st') (hf:ltFr st ρ B fr fr'):LeS e ⟨fr,st⟩ ⟨fr',st'⟩ (rho ρ) B where
 o:={
  ob:=fun i k ys fz hg=>by
   have h:=qC7 hs hg;unfold ltO2 at h;split at h
   ·rename_i hρ;exact .inl ⟨by simp [rho,hρ],h⟩
   ·rename_i j hρ;unfold ltO1 at h;split at h
    ·rename_i k0 xs f0 hg0;obtain⟨rfl,h2,h3,h4⟩:=h;obtain⟨h5,h6⟩:=zP4 h3 (fun _ _ h=>zc7 hr h);exact .inr ⟨j,xs,f0,by simp [rho,hρ],hg0,h3.1,h2,h5,h6,h4⟩
    ·exact h.elim
   ·exact h.elim
  inj:=fun i1 i2 j _ _ h1 h2=>by
   simp only[Zk,Bq,AZ] at hr;unfold rho at h1 h2;split at h1
   ·rename_i j1 g1;split at h2
    ·rename_i j2 g2;injection h1 with h1;injection h2 with h2;subst h1 h2;exact qC6 hr.2 (qb9 g1) (qb9 g2)
    ·cases h2
   ·cases h1
  mp:=fun i es hg=>by
   have h:=qZ0 hs hg;unfold ltM2 at h;split at h
   ·rename_i j hρ;unfold ltM at h;split at h
    ·rename_i es' hg0;subst h;exact⟨j,by simp [rho,hρ],hg0⟩
    ·exact h.elim
   ·exact h.elim
  nf:=fun i a b g=>qZ1 hs }
 fr:=by
  intro t y hy;have:∀ {l:List (Nat×T)},ltFr st ρ B fr l→TL.get l t=some y→ltT st ρ B ((TL.get fr t).getD .junk) y:=by
   intro l
   induction l with
   | nil=>intro _ h;cases h
   | cons p r ih=>
     obtain⟨u,z⟩:=p;intro h hg;simp only[TL.get] at hg;split at hg
     ·rename_i hu;subst hu;injection hg with hg;subst hg;exact h.1
     ·exact ih h.2 hg
  exact zP3 (fun _ _ h=>zc7 hr h) (this hf hy)
 hnd:=fun id hd=>by
  obtain⟨h1,h2⟩:=zP5 hh hd;exact⟨h1,fun k xs fz _=>by simp [rho,h2],fun es _=>by simp [rho,h2]⟩
theorem Le.of {e:Env} {fr fr':List (Nat×T)} (ρ:Ren) (B:List Nat) (hr:Zk st' ρ=true) (hh:zO9 st' ρ e.st0=true) (hs:Jc st ρ B st') (hf:ltFr st ρ B fr fr'):Le e ⟨fr,st⟩ ⟨fr',st'⟩:=(kf1 hr hh hs hf).le
theorem Zi.of {st0:Sto} {x r:T} (ρ:Ren) (B:List Nat) (hr:Zk st' ρ=true) (hh:zO9 st' ρ st0=true) (hs:Jc st ρ B st') (hf:ltT st ρ B x r):Zi st0 x st r st':=
 .les ⟨rho ρ,B,kf1 hr hh hs ⟨by simpa [TL.get] using hf,trivial⟩⟩
theorem Zi.cut {st0:Sto} {x r:T} {st st':Sto} (id nid m:Nat) {k:Nat} {xs:List T} (hg:TL.get st id=some (.arr k xs false)) (hn:TL.get st nid=none) (hm:m≤xs.length)
 (h:Zi st0 (cut2 id nid xs.length m x) (qs3 id nid m k xs st) r st'):Zi st0 x st r st':=
 fun e he=>(Le.cut id nid m hg hn hm).trans (h e he)
theorem qC8 {x:T} (h:imT0 x=true):ltC0 st ρ B x x:=by
 cases x <;> first | (simp [imT0] at h;done) | trivial | rfl
theorem zP6:∀ {l:List T},zJ1 l=true→zc6 st ρ B l l
 | [],_=>trivial
 | c::r,h=>by
   simp only[zJ1,Bq] at h;exact⟨qC8 h.1,zP6 h.2⟩
theorem jF5 {x:T} (h:imT x=true):ltC st ρ B x x:=by
 cases x with
 | clo f cs=>exact⟨rfl,zP6 h⟩
 | v a=>exact qC8 (st:=st) (ρ:=ρ) (B:=B) (x:=.v a) h
 | sl k xs=>exact qC8 (st:=st) (ρ:=ρ) (B:=B) (x:=.sl k xs) h
 | ip cs=>exact qC8 (st:=st) (ρ:=ρ) (B:=B) (x:=.ip cs) h
 | junk=>trivial
 | ub p q=>exact qC8 (st:=st) (ρ:=ρ) (B:=B) (x:=.ub p q) h
 | _=>simp [imT,imT0] at h
theorem yh {k:Nat} {xs:List T} (h:ImXs k xs):ltXs st ρ B k xs xs:=by
 refine⟨rfl,fun i x y hx hy=>?_⟩;rw[hx] at hy;injection hy with hy;subst hy
 obtain⟨h1,h2⟩:=h x (BX hx);refine⟨h1,h1,?_⟩;clear h1 hx;have:∀ l:List T,imL l=true→ltCs st ρ B l l:=by
  intro l
  induction l with
  | nil=>intro _;trivial
  | cons c r ih=>
    intro hl;simp only[imL,Bq] at hl;refine⟨?_,ih hl.2⟩;exact jF5 hl.1
 exact this _ h2
theorem zb {k:Nat}:ltXs st ρ B k [] []:=⟨rfl,fun i x y hx=>by simp at hx⟩
theorem qT {k:Nat} {a b c d:List T} (h1:ltXs st ρ B k a c) (h2:ltXs st ρ B k b d):ltXs st ρ B k (a++b) (c++d):=by
 refine⟨by simp [h1.1,h2.1],fun i x y hx hy=>?_⟩;by_cases hi:i<a.length
 ·rw[BK hi] at hx;rw[BK (by rw[← h1.1];exact hi)] at hy;exact h1.2 i x y hx hy
 ·rw[BJ (by omega)] at hx;rw[BJ (by rw[← h1.1];omega),← h1.1] at hy;exact h2.2 _ x y hx hy
theorem qV {k:Nat} {x y:T} {xs ys:List T} (h0:x.cells.length=k∧y.cells.length=k∧ltCs st ρ B x.cells y.cells) (h:ltXs st ρ B k xs ys):ltXs st ρ B k (x::xs) (y::ys):=by
 have h1:ltXs st ρ B k [x] [y]:=by
  refine⟨rfl,fun i a b ha hb=>?_⟩;cases i with
  | zero=>simp at ha hb;subst ha hb;exact h0
  | succ i=>simp at ha
 exact qT h1 h
theorem qE {α:Type} {k:Nat} {f:α→T} (h:∀ a,(f a).cells.length=k∧imL (f a).cells=true) (l:List α):ImXs k (l.map f):=by
 intro x hx;simp only[Cj] at hx;obtain⟨n,_,rfl⟩:=hx;exact h n
end
end Go.TL
namespace Go.TL
def wrO (st st1 st1':Sto) (ρ1 ρ2:Ren) (id k:Nat) (ys:List T) (fz:Bool) (r:Option (Option Nat)):Prop:=match r with
 | none=>fz=true∧(match TL.get st id with | some (.arr k0 xs _)=>k0=k∧xs=ys | _=>False)∧(∀ p∈ρ1,p.2≠some id)
 | some (some i')=>ltO1 st1' ρ2 [] k ys fz i' (TL.get st1' i')∧(TL.get st id=none∨(TL.get ρ1 i'=some (some id)∧(TL.get st1 i').isSome=true))
 | some none=>False
def wrOk (st st1 st1':Sto) (ρ1 ρ2:Ren):List (Nat×Ob)→Prop
 | []=>True
 | (_,.dead)::r=>wrOk st st1 st1' ρ1 ρ2 r
 | (id,.arr k ys fz)::r=>wrO st st1 st1' ρ1 ρ2 id k ys fz (TL.get ρ2 id)∧wrOk st st1 st1' ρ1 ρ2 r
 | _::_=>False
def zY3:List (Nat×Ob)→Ren→Bool
 | [],_=>true
 | (_,.dead)::r,ρ=>zY3 r ρ
 | (id,.arr _ ys _)::r,ρ=>((rho ρ id).isNone||(flat ys).all noA1)&&zY3 r ρ
 | _::_,_=>false
def fzOk (wr:Sto):List Nat→Bool
 | []=>true
 | i::r=>(match TL.get wr i with | some (.arr _ _ true)=>true | _=>false)&&fzOk wr r
section
variable {P:Program} {st st1 st1':Sto} {ρ1 ρ2:Ren} {B:List Nat} {wr:List (Nat×Ob)}
theorem zz6:∀ {l:List (Nat×Ob)},wrOk st st1 st1' ρ1 ρ2 l→∀ {i k:Nat} {ys:List T} {fz:Bool},TL.get l i=some (.arr k ys fz)→wrO st st1 st1' ρ1 ρ2 i k ys fz (TL.get ρ2 i)
 | [],_,i,k,ys,fz,h=>by cases h
 | (j,.dead)::r,hs,i,k,ys,fz,h=>by
   simp only[TL.get] at h;split at h
   ·injection h with h;cases h
   ·exact zz6 (l:=r) hs h
 | (j,.arr k0 y0 f0)::r,hs,i,k,ys,fz,h=>by
   simp only[TL.get] at h;split at h
   ·rename_i hj;subst hj;injection h with h;injection h with h1 h2 h3;subst h1 h2 h3;exact hs.1
   ·exact zz6 (l:=r) hs.2 h
theorem zY4:∀ {l:List (Nat×Ob)},wrOk st st1 st1' ρ1 ρ2 l→∀ {i:Nat} {es:Es},TL.get l i=some (.mp es)→False
 | [],_,i,es,h=>by cases h
 | (j,.dead)::r,hs,i,es,h=>by
   simp only[TL.get] at h;split at h
   ·injection h with h;cases h
   ·exact zY4 (l:=r) hs h
 | (j,.arr k0 y0 f0)::r,hs,i,es,h=>by
   simp only[TL.get] at h;split at h
   ·injection h with h;cases h
   ·exact zY4 (l:=r) hs.2 h
 | (j,.mp _)::r,hs,i,es,h=>hs.elim
 | (j,.full ..)::r,hs,i,es,h=>hs.elim
theorem zY5:∀ {l:List (Nat×Ob)},wrOk st st1 st1' ρ1 ρ2 l→∀ {i a b:Nat} {g:Bool},TL.get l i=some (.full a b g)→False
 | [],_,i,a,b,g,h=>by cases h
 | (j,.dead)::r,hs,i,a,b,g,h=>by
   simp only[TL.get] at h;split at h
   ·injection h with h;cases h
   ·exact zY5 (l:=r) hs h
 | (j,.arr k0 y0 f0)::r,hs,i,a,b,g,h=>by
   simp only[TL.get] at h;split at h
   ·injection h with h;cases h
   ·exact zY5 (l:=r) hs.2 h
 | (j,.mp _)::r,hs,i,a,b,g,h=>hs.elim
 | (j,.full ..)::r,hs,i,a,b,g,h=>hs.elim
theorem zc9:∀ {l:List (Nat×Ob)} {ρ:Ren},zY3 l ρ=true→∀ {i k:Nat} {ys:List T} {fz:Bool},TL.get l i=some (.arr k ys fz)→rho ρ i≠none→∀ c∈flat ys,noA1 c=true
 | [],ρ,_,i,k,ys,fz,h=>by cases h
 | (j,.dead)::r,ρ,hs,i,k,ys,fz,h=>by
   simp only[TL.get] at h;split at h
   ·injection h with h;cases h
   ·exact zc9 (l:=r) hs h
 | (j,.arr k0 y0 f0)::r,ρ,hs,i,k,ys,fz,h=>by
   simp only[zY3,Bq,DZ] at hs;simp only[TL.get] at h;split at h
   ·rename_i hj;subst hj;injection h with h;injection h with h1 h2 h3;subst h1 h2 h3;intro hn c hc;rcases hs.1 with h1 | h1
    ·rw[Option.isNone_iff_eq_none] at h1;exact absurd h1 hn
    ·exact Bk.1 h1 c hc
   ·exact zc9 (l:=r) hs.2 h
theorem jk8 {wr:Sto}:∀ {B:List Nat},fzOk wr B=true→∀ i∈B,∃ k xs,TL.get wr i=some (.arr k xs true)
 | [],_,i,h=>by simp at h
 | j::r,h,i,hi=>by
   simp only[fzOk,Bq] at h;rcases Ck.1 hi with rfl | hi
   ·have h1:=h.1;split at h1
    ·rename_i k xs hg;exact⟨k,xs,hg⟩
    ·cases h1
   ·exact jk8 h.2 i hi
def qL7:Ren→Bool
 | []=>true
 | (_,some _)::r=>qL7 r
 | _=>false
theorem zd0:∀ {ρ:Ren},qL7 ρ=true→∀ {i:Nat} {x:Option Nat},TL.get ρ i=some x→∃ j,x=some j
 | [],_,i,x,h=>by cases h
 | (j,none)::r,hs,i,x,h=>by simp [qL7] at hs
 | (j,some y)::r,hs,i,x,h=>by
   simp only[TL.get] at h;split at h
   ·injection h with h;exact⟨y,h.symm⟩
   ·exact zd0 (ρ:=r) hs h
theorem WJ {ρ:Ren} {i j:Nat}:rho ρ i=some j↔TL.get ρ i=some (some j):=by
 unfold rho;cases h:TL.get ρ i with
 | none=>simp
 | some x=>cases x <;> simp
theorem kf2 {st':Sto} {ρ:Ren} (h:Zk st' ρ=true) {i1 i2 j:Nat} (h1:rho ρ i1=some j) (h2:rho ρ i2=some j):i1=i2:=by
 simp only[Zk,Bq,AZ] at h;exact qC6 h.2 (qb9 (WJ.1 h1)) (qb9 (WJ.1 h2))
theorem zY6 {ρ:Ren} {i j:Nat} (h:rho ρ i=some j):(ρ.map (·.2)).contains (some j)=true:=by
 simp only[List.contains_eq_mem,AZ,Cj];exact⟨_,qb9 (WJ.1 h),rfl⟩
def ptw (R:T→T→Prop):List T→List T→Prop
 | [],[]=>True
 | x::xs,y::ys=>R x y∧ptw R xs ys
 | _,_=>False
def ltD (st:Sto) (B:List Nat):Nat→T→T→Prop
 | 0,x,y=>x=y∧imT x=true
 | d+1,x,y=>match y with
   | .sl k ys=>match x with
     | .asl i n=>i∈B∧(match TL.get st i with
       | some (.arr k' xs _)=>k'=k∧xs.length=n∧ptw (fun a b=>a.cells.length=k∧b.cells.length=k∧imL b.cells=true∧ptw (ltD st B d) a.cells b.cells) xs ys
       | _=>False)
     | .v (.slice none 0 0)=>ys=[]
     | x=>x = .sl k ys
   | y=>x=y∧imT x=true
def ltAD (st:Sto) (B:List Nat) (x y:T):Prop:=
 match y with
 | .agg ys=>match x with | .agg xs=>ptw (ltD st B 3) xs ys | _=>False
 | y=>ltD st B 3 x y
theorem qL8 {R:T→T→Prop}:∀ {xs ys:List T},ptw R xs ys→xs.length=ys.length∧∀ (j:Nat) (c c':T),xs[j]?=some c→ys[j]?=some c'→R c c'
 | [],[],_=>⟨rfl,fun j c c' h=>by simp at h⟩
 | [],_::_,h=>h.elim
 | _::_,[],h=>h.elim
 | x::xs,y::ys,h=>by
   obtain⟨h1,h2⟩:=h;obtain⟨h3,h4⟩:=qL8 h2;refine⟨by simp [h3],fun j c c' hc hc'=>?_⟩;cases j with
   | zero=>simp at hc hc';subst hc hc';exact h1
   | succ j=>exact h4 j c c' (by simpa using hc) (by simpa using hc')
theorem jk9 {R:T→T→Prop} {k:Nat}:∀ {xs ys:List T},ptw (fun a b=>a.cells.length=k∧b.cells.length=k∧imL b.cells=true∧ptw R a.cells b.cells) xs ys→ptw R (flat xs) (flat ys)∧(∀ y∈ys,y.cells.length=k)∧∀ c∈flat ys,imT c=true
 | [],[],_=>⟨trivial,by simp,by simp [flat]⟩
 | [],_::_,h=>h.elim
 | _::_,[],h=>h.elim
 | x::xs,y::ys,h=>by
   obtain⟨⟨h1,h2,h3,h4⟩,h5⟩:=h;obtain⟨q1,q2,q3⟩:=jk9 h5;have app:∀ {a b c d:List T},ptw R a b→ptw R c d→ptw R (a++c) (b++d):=by
    intro a
    induction a with
    | nil=>intro b c d h h';cases b with | nil=>exact h' | cons _ _=>exact h.elim
    | cons x a ih=>intro b c d h h';cases b with | nil=>exact h.elim | cons _ _=>exact⟨h.1,ih h.2 h'⟩
   refine⟨by simp only[flat,Gq];exact app h4 q1,?_,?_⟩
   ·intro z hz;rcases Ck.1 hz with rfl | hz
    ·exact h2
    ·exact q2 z hz
   ·intro c hc;simp only[flat,Gq,Dz] at hc;rcases hc with hc | hc
    ·exact zb9 h3 c hc
    ·exact q3 c hc
theorem zd1 {st:Sto} {B:List Nat} {d:Nat→Prop} {ρ:Nat→Option Nat}:∀ {n:Nat} {x y:T},ltD st B n x y→Lt st d ρ B x y
 | 0,x,y,h=>by obtain⟨rfl,h⟩:=h;exact .im _ h
 | n+1,x,y,h=>by
   unfold ltD at h;split at h
   ·rename_i k ys;split at h
    ·rename_i i m;obtain⟨h1,h2⟩:=h;split at h2
     ·rename_i k' xs fz hg;obtain⟨rfl,rfl,h3⟩:=h2;obtain⟨q1,q2,q3⟩:=jk9 h3;exact .shut _ _ _ _ _ fz h1 hg rfl (qL8 h3).1.symm q2 (fun j c c' hc hc'=>zd1 ((qL8 q1).2 j c c' hc hc')) q3
     ·exact h2.elim
    ·subst h;exact .nil k
    ·subst h;exact .im _ rfl
   ·obtain⟨rfl,h⟩:=h;exact .im _ h
theorem jr1 {st:Sto} {B:List Nat} {d:Nat→Prop} {ρ:Nat→Option Nat} {x y:T} (h:ltAD st B x y):Lt st d ρ B x y:=by
 unfold ltAD at h;split at h
 ·split at h
  ·obtain⟨h1,h2⟩:=qL8 h;exact .agg _ _ h1 fun j c c' hc hc'=>zd1 (h2 j c c' hc hc')
  ·exact h.elim
 ·exact zd1 h
theorem zz1.ofL {fid:FuncId} {caps xs ts':List T} {r val:T} (ρ1 ρ2:Ren) (B:List Nat) (wr:List (Nat×Ob)) (hs:Spc P fid ts' st1 r st1')
 (hes:(xs++caps).length=ts'.length∧∀ (j:Nat) (c c':T),(xs++caps)[j]?=some c→ts'[j]?=some c'→Lt st (fun i=>TL.get st1 i≠none) (rho ρ1) B c c') (h1:Zk st1 ρ1=true) (ho:Jc st ρ1 B st1) (hB:(B.all fun i=>!(ρ1.map (·.2)).contains (some i))=true)
 (hk:(ρ1.all fun p=>match p.2 with | some i=>(TL.get wr i).isSome | none=>true)=true)
 (hw:wrOk st st1 st1' ρ1 ρ2 wr) (h2:Zk wr ρ2=true) (h3:qL7 ρ2=true) (hv:ltT st1' ρ2 [] r val)
 (hf:fzOk (wr++st) B=true∨(noA2 val=true∧zY3 wr ρ2=true)):zz1 P st (.clo fid caps) xs val wr (B++wr.map (·.1)):=by
 have d1:∀ i x,TL.get ρ1 i=some x→TL.get st1 i≠none:=fun _ _ h=>zc7 h1 h;have d2:∀ i x,TL.get ρ2 i=some x→TL.get wr i≠none∧rho ρ2 i≠none:=fun i x h=>⟨zc7 h2 h,by
  obtain⟨j,rfl⟩:=zd0 h3 h;rw[WJ.2 h];simp⟩
 refine .inl ⟨fid,caps,ts',st1,st1',r,rho ρ1,rho ρ2,B,rfl,hs,?_⟩;refine⟨hes.1,hes.2,(kf1 (e:={ S:=fun _=>False,base:=0,hnd:=fun _=>False,w0:=default,n:=1,st0:=[] }) (fr:=[]) (fr':=[]) h1 rfl ho trivial).o,fun id hid=>⟨by simp [hid],fun id' hd hr=>?_⟩,fun id' id hd hr=>?_,fun id ob hg=>?_,fun i1 i2 id' _ _ g1 g2=>kf2 h2 g1 g2,zP3 d2 hv,?_⟩
 ·have h5:=Bk.1 hB id hid;rw[zY6 hr] at h5;simp at h5
 ·have h5:=Bk.1 hk _ (qb9 (WJ.1 hr));intro hn;simp [hn] at h5
 ·refine⟨by simp only[Dz,Cj];exact .inr ⟨_,qb9 hg,rfl⟩,?_⟩;cases ob with
  | dead=>exact .inl rfl
  | mp es=>exact (zY4 hw hg).elim
  | full i n g=>exact (zY5 hw hg).elim
  | arr k ys fz=>
    have h5:=zz6 hw hg;unfold wrO at h5;split at h5
    ·rename_i h6;obtain⟨rfl,h7,h8⟩:=h5;split at h7
     ·rename_i k0 x0 f0 hg0;obtain⟨rfl,rfl⟩:=h7;refine .inr (.inl ⟨_,_,f0,rfl,hg0,by simp [rho,h6],fun id' hd hr=>?_⟩);exact h8 _ (qb9 (WJ.1 hr)) rfl
     ·exact h7.elim
    ·rename_i i' h6;obtain⟨h7,h8⟩:=h5;unfold ltO1 at h7;split at h7
     ·rename_i k0 xs f0 hg0;obtain⟨rfl,h9,h10,h11⟩:=h7;obtain⟨h12,h13⟩:=zP4 h10 d2;refine .inr (.inr ⟨k0,ys,fz,i',xs,f0,rfl,WJ.2 h6,hg0,h10.1,h9,h12,h13,?_⟩);rcases h8 with h8 | ⟨h8,h14⟩
      ·exact .inl h8
      ·refine .inr ⟨WJ.2 h8,?_⟩;intro hn;simp [hn] at h14
     ·exact h7.elim
    ·exact h5.elim
 ·rcases hf with hf | ⟨hf,hg⟩
  ·exact .inl (jk8 hf)
  ·exact .inr ⟨hf,fun id k xs fz hw0 hr=>zc9 hg hw0 hr⟩
theorem zz1.of {fid:FuncId} {caps xs ts':List T} {r val:T} (ρ1 ρ2:Ren) (B:List Nat) (wr:List (Nat×Ob)) (hs:Spc P fid ts' st1 r st1')
 (ha:ltAs st ρ1 B (xs++caps) ts') (h1:Zk st1 ρ1=true) (ho:Jc st ρ1 B st1) (hB:(B.all fun i=>!(ρ1.map (·.2)).contains (some i))=true)
 (hk:(ρ1.all fun p=>match p.2 with | some i=>(TL.get wr i).isSome | none=>true)=true)
 (hw:wrOk st st1 st1' ρ1 ρ2 wr) (h2:Zk wr ρ2=true) (h3:qL7 ρ2=true) (hv:ltT st1' ρ2 [] r val)
 (hf:fzOk (wr++st) B=true∨(noA2 val=true∧zY3 wr ρ2=true)):zz1 P st (.clo fid caps) xs val wr (B++wr.map (·.1)):=
 .ofL ρ1 ρ2 B wr hs (qL6 (fun _ _ h=>zc7 h1 h) ha) h1 ho hB hk hw h2 h3 hv hf
theorem qC9 {st:Sto} {ρ:Ren} {B:List Nat} {x:T} (h:imT x=true):ltC st ρ B x x:=by
 exact jF5 h
theorem qU {st:Sto} {ρ:Ren} {B:List Nat}:∀ {l:List T},imL l=true→ltCs st ρ B l l
 | [],_=>trivial
 | c::r,h=>by
   simp only[imL,Bq] at h;exact⟨qC9 h.1,qU h.2⟩
theorem qk5 {st:Sto} {ρ:Ren} {B:List Nat} {x:T} (h:imA x=true):ltA st ρ B x x:=by
 cases x with
 | agg cs=>exact qU h
 | clo f cs=>exact⟨rfl,qU h⟩
 | tup cs=>simp [imA,imT,imT0] at h
 | junk=>trivial
 | v a=>exact qC9 (st:=st) (ρ:=ρ) (B:=B) (x:=.v a) h
 | sl k xs=>exact qC9 (st:=st) (ρ:=ρ) (B:=B) (x:=.sl k xs) h
 | ptr a b c d=>exact qC9 (st:=st) (ρ:=ρ) (B:=B) (x:=.ptr a b c d) h
 | ip cs=>exact qC9 (st:=st) (ρ:=ρ) (B:=B) (x:=.ip cs) h
 | asl a b=>exact qC9 (st:=st) (ρ:=ρ) (B:=B) (x:=.asl a b) h
 | ub a b=>exact qC9 (st:=st) (ρ:=ρ) (B:=B) (x:=.ub a b) h
 | vw a b c d=>exact qC9 (st:=st) (ρ:=ρ) (B:=B) (x:=.vw a b c d) h
 | mp a=>exact qC9 (st:=st) (ρ:=ρ) (B:=B) (x:=.mp a) h
theorem qx0 {st:Sto} {ρ:Ren} {B:List Nat}:∀ {l:List T},imAL l=true→ltAs st ρ B l l
 | [],_=>trivial
 | c::r,h=>by
   simp only[imAL,Bq] at h;exact⟨qk5 h.1,qx0 h.2⟩
theorem qD0 {st:Sto} {ρ:Ren} {B:List Nat} {x:T} (h:qk4 x=true):ltT st ρ B x x:=by
 cases x with
 | tup cs=>exact qx0 h
 | agg cs=>exact qk5 (st:=st) (ρ:=ρ) (B:=B) (x:=.agg cs) h
 | clo f cs=>exact qk5 (st:=st) (ρ:=ρ) (B:=B) (x:=.clo f cs) h
 | junk=>trivial
 | v a=>exact qk5 (st:=st) (ρ:=ρ) (B:=B) (x:=.v a) h
 | sl k xs=>exact qk5 (st:=st) (ρ:=ρ) (B:=B) (x:=.sl k xs) h
 | ptr a b c d=>exact qk5 (st:=st) (ρ:=ρ) (B:=B) (x:=.ptr a b c d) h
 | ip cs=>exact qk5 (st:=st) (ρ:=ρ) (B:=B) (x:=.ip cs) h
 | asl a b=>exact qk5 (st:=st) (ρ:=ρ) (B:=B) (x:=.asl a b) h
 | ub a b=>exact qk5 (st:=st) (ρ:=ρ) (B:=B) (x:=.ub a b) h
 | vw a b c d=>exact qk5 (st:=st) (ρ:=ρ) (B:=B) (x:=.vw a b c d) h
 | mp a=>exact qk5 (st:=st) (ρ:=ρ) (B:=B) (x:=.mp a) h
variable {e:Env} {kss:List (Nat×List Nat)} {Q:Ex→St→Prop} {K:List KF} {rows:Option (List Nat)} {ks:List Nat} {nid:Nat} {ops:List ROp} {F:XF} {acc:Acc}
theorem C1.of {fid:FuncId} {caps xs ts':List T} {r val:T} {d:Option Nat} (ρ1 ρ2:Ren) (B:List Nat) (wr:List (Nat×Ob)) (hs:Spc P fid ts' st1 r st1')
 (ha:ltAs st ρ1 B (xs++caps) ts') (h1:Zk st1 ρ1=true) (ho:Jc st ρ1 B st1) (hB:(B.all fun i=>!(ρ1.map (·.2)).contains (some i))=true)
 (hk:(ρ1.all fun p=>match p.2 with | some i=>(TL.get wr i).isSome | none=>true)=true)
 (hw:wrOk st st1 st1' ρ1 ρ2 wr) (h2:Zk wr ρ2=true) (h3:qL7 ρ2=true) (hv:ltT st1' ρ2 [] r val)
 (hf:fzOk (wr++st) B=true∨(noA2 val=true∧zY3 wr ρ2=true))
 (h:R P e kss Q rows ks K nid ops (putX F d (.p val)) (stUp st wr) (acc++[(B++wr.map (·.1),wr.map (·.1))])):C1 P e kss Q rows ks K (.clo fid caps) xs d nid ops F st acc:=
 ⟨val,wr,_,.of ρ1 ρ2 B wr hs ha h1 ho hB hk hw h2 h3 hv hf,h⟩
theorem C2.of {L:List (Nat×Bool)} {c:Prop} {fid:FuncId} {caps xs ts':List T} {r val:T} {d:Option Nat} (ρ1:Ren) (B:List Nat) (hs:c→Spc P fid ts' st1 r st1')
 (ha:c→ltAs st ρ1 B (xs++caps) ts') (h1:Zk st1 ρ1=true) (ho:c→Jc st ρ1 B st1) (hB:(B.all fun i=>!(ρ1.map (·.2)).contains (some i))=true)
 (hk:(ρ1.all fun p=>match p.2 with | some _=>false | none=>true)=true) (hv:c→ltT st1' [] [] r val)
 (hf:c→fzOk st B=true∨noA2 val=true)
 (h:R P e kss Q rows ks K nid ops (putX F d (.g L c val)) st (acc++[(B++[],[])])):C2 P e kss Q rows ks K L c (.clo fid caps) xs d nid ops F st acc:=
 ⟨val,[],_,fun hc=>.of ρ1 [] B [] (hs hc) (ha hc) h1 (ho hc) hB (Bk.2 fun p hp=>by
   have:=Bk.1 hk p hp;split <;> simp_all) trivial rfl rfl (hv hc) (by rcases hf hc with h | h;exact .inl h;exact .inr ⟨h,rfl⟩),.inl ⟨rfl,h⟩⟩
theorem C1.lend {fid:FuncId} {caps xs ts':List T} {r:T} {d:Option Nat} (B:List Nat) (hs:Spc P fid ts' [] r [])
 (ha:ltAs st [] B (xs++caps) ts') (h2:qk4 r=true) (h3:noA2 r=true)
 (h:R P e kss Q rows ks K nid ops (putX F d (.p r)) st (acc++[(B++[],[])])):C1 P e kss Q rows ks K (.clo fid caps) xs d nid ops F st acc:=
 .of [] [] B [] hs ha rfl trivial (by simp) rfl trivial rfl rfl (qD0 h2) (.inr ⟨h3,rfl⟩) h
theorem C2.lend {L:List (Nat×Bool)} {c:Prop} {fid:FuncId} {caps xs ts':List T} {r:T} {d:Option Nat} (B:List Nat) (hs:c→Spc P fid ts' [] r [])
 (ha:c→ltAs st [] B (xs++caps) ts') (h2:qk4 r=true) (h3:noA2 r=true)
 (h:R P e kss Q rows ks K nid ops (putX F d (.g L c r)) st (acc++[(B++[],[])])):C2 P e kss Q rows ks K L c (.clo fid caps) xs d nid ops F st acc:=
 .of [] B hs ha rfl (fun _=>trivial) (by simp) rfl (fun _=>qD0 h2) (fun _=>.inr h3) h
theorem ptwA {st:Sto} {B:List Nat} {d:Nat→Prop} {ρ:Nat→Option Nat} {xs ys:List T} (h:ptw (ltAD st B) xs ys):xs.length=ys.length∧∀ (j:Nat) (c c':T),xs[j]?=some c→ys[j]?=some c'→Lt st d ρ B c c':=
 ⟨(qL8 h).1,fun j c c' hc hc'=>jr1 ((qL8 h).2 j c c' hc hc')⟩
theorem C1.lendD {fid:FuncId} {caps xs ts':List T} {r:T} {d:Option Nat} (B:List Nat) (hs:Spc P fid ts' [] r [])
 (ha:ptw (ltAD st B) (xs++caps) ts') (h2:qk4 r=true) (h3:noA2 r=true)
 (h:R P e kss Q rows ks K nid ops (putX F d (.p r)) (stUp st []) (acc++[(B++([]:List (Nat×Ob)).map (·.1),([]:List (Nat×Ob)).map (·.1))])):C1 P e kss Q rows ks K (.clo fid caps) xs d nid ops F st acc:=
 ⟨r,[],_,.ofL [] [] B [] hs (ptwA ha) rfl trivial (by simp) rfl trivial rfl rfl (qD0 h2) (.inr ⟨h3,rfl⟩),h⟩
theorem C2.lendD {L:List (Nat×Bool)} {c:Prop} {fid:FuncId} {caps xs ts':List T} {r:T} {d:Option Nat} (B:List Nat) (hs:c→Spc P fid ts' [] r [])
 (ha:c→ptw (ltAD st B) (xs++caps) ts') (h2:qk4 r=true) (h3:noA2 r=true)
 (h:R P e kss Q rows ks K nid ops (putX F d (.g L c r)) st (acc++[(B++[],[])])):C2 P e kss Q rows ks K L c (.clo fid caps) xs d nid ops F st acc:=
 ⟨r,[],_,fun hc=>.ofL [] [] B [] (hs hc) (ptwA (ha hc)) rfl trivial (by simp) rfl trivial rfl rfl (qD0 h2) (.inr ⟨h3,rfl⟩),.inl ⟨rfl,h⟩⟩
end
end Go.TL
namespace Go.TL
theorem tl:type_of% (
Az @jW9 (Az @jX0 (Az @kj5 (Az @jx7 (Az @kj6 (Az @jx8 (Az @jX1 (Az @jx9 (Az @kj8 (Az @kj9 (Az @kk0 (Az @zt7 (Az @zL1 (Az @jy1 (Az @zc0 (Az @qS1 (Az @kk1 (Az @jy2 (Az @jy3 (Az @R_op (Az @kk2 (Az @jy4 (Az @jy5 (Az @jy6 (Az @kk4 (Az @kk5 (Az @jy7 (Az @jy8 (Az @kk8 (Az @kk6 (Az @kk7 (Az @zO7 (Az @jF3 (Az @kb3 (Az @je1 (Az @zL2 (Az @zL3 (Az @zL4 (Az @zL5 (Az @zt8 (Az @jz0 (Az @jz1 (Az @zt9 (Az @jX2 (Az @jz2 (Az @kk9 (Az @je2 (Az @kl0 (Az @jz3 (Az @jX3 (Az @jX4 (Az @je4 (Az @je5 (Az @jX5 (Az @jz4 (Az @jz5 (Az @jX6 (Az @jX7 (Az @jX8 (Az @jz6 (Az @jX9 (Az @jz7 (Az @je6 (Az @je7 (Az @je8 (Az @jY0 (Az @jY1 (Az @jz8 (Az @jz9 (Az @jA0 (Az @jY2 (Az @jY3 (Az @je9 (Az @jf0 (Az @jA1 (Az @jf1 (Az @zu0 (Az @jA2 (Az @jA3 (Az @jY4 (Az @jY5 (Az @rv_t (Az @rv_k (Az @zu1 (Az @zc1 (Az @jA4 (Az @jA5 (Az @jA6 (Az @jA7 (Az @jA8 (Az @jf2 (Az @jA9 (Az @jF4 (Az @kb5 (Az @jB0 (Az @jB1 (Az @jB3 (Az @jD2 (Az @jg6 (Az @zu5 (Az @zc3 (Az @jg4 (Az @zu6 (Az @zc4 (Az @jg5 (Az @zM4 (Az @jD5 (Az @ka3 (Az @ka4 (Az @ji4 (Az @zM5 (Az @zu7 (Az @kl9 (Az @km0 (Az @km1 (Az @jB4 (Az @zL8 (Az @zc5 (Az @qS2 (Az @qS3 (Az @zu8 (Az @kj7 (Az @jy0 (Az @jB2 (Az @jY6 (Az @jY7 (Az @jY8 (Az @jf5 (Az @zM0 (Az @jB5 (Az @jB6 (Az @jf3 (Az @zL6 (Az @zu2 (Az @jf4 (Az @jf6 (Az @zL9 (Az @zc2 (Az @zM1 (Az @zM2 (Az @zM3 (Az @jf7 (Az @jB7 (Az @jB8 (Az @jY9 (Az @jB9 (Az @jC0 (Az @zu3 (Az @jC1 (Az @jZ0 (Az @kl2 (Az @jZ1 (Az @jZ2 (Az @kl3 (Az @jC2 (Az @jZ3 (Az @jC3 (Az @jC4 (Az @jZ4 (Az @jC5 (Az @jC6 (Az @jZ5 (Az @jZ6 (Az @jf8 (Az @jf9 (Az @jC7 (Az @jC8 (Az @jg0 (Az @jg1 (Az @jg2 (Az @jC9 (Az @zu4 (Az @jZ7 (Az @jD0 (Az @zY2 (Az @ji5 (Az @jZ8 (Az @jg3 (Az @jD6 (Az @ka5 (Az @zz5 (Az @jD1 (Az @ka6 (Az @zM7 (Az @zu9 (Az @ka7 (Az @jD7 (Az @ji6 (Az @ji8 (Az @ka8 (Az @jD8 (Az @ji7 (Az @jD9 (Az @ji9 (Az @jj0 (Az @jE0 (Az @ka9 (Az @jj1 (Az @kb0 (Az @jE2 (Az @jj2 (Az @jj3 (Az @jE4 (Az @jE1 (Az @jE3 (Az @jj4 (Az @jj5 (Az @zM8 (Az @zM9 (Az @zN0 (Az @zN1 (Az @zN2 (Az @zN3 (Az @qw9 (Az @jj6 (Az @zN5 (Az @jj7 (Az @jE5 (Az @zN4 (Az @zN6 (Az @jj8 (Az @zN7 (Az @zN8 (Az @jj9 (Az @kb1 (Az @jE6 (Az @jk0 (Az @zv0 (Az @jk1 (Az @zN9 (Az @zv1 (Az @zO0 (Az @zv2 (Az @kb2 (Az @jE7 (Az @jE8 (Az @jk2 (Az @jk3 (Az @jE9 (Az @jk4 (Az @zO1 (Az @zv3 (Az @jF0 (Az @jk5 (Az @jF1 (Az @zO2 (Az @jk6 (Az @zO3 (Az @jk7 (Az @zO4 (Az @zO5 (@zO6)))))))))))))))))))))))))))))))))))))))))))))))))))))))))))))))))))))))))))))))))))))))))))))))))))))))))))))))))))))))))))))))))))))))))))))))))))))))))))))))))))))))))))))))))))))))))))))))))))))))))))))))))))))))))))))))))))))))))))))))))))))))))))):=Az @jW9 (Az @jX0 (Az @kj5 (Az @jx7 (Az @kj6 (Az @jx8 (Az @jX1 (Az @jx9 (Az @kj8 (Az @kj9 (Az @kk0 (Az @zt7 (Az @zL1 (Az @jy1 (Az @zc0 (Az @qS1 (Az @kk1 (Az @jy2 (Az @jy3 (Az @R_op (Az @kk2 (Az @jy4 (Az @jy5 (Az @jy6 (Az @kk4 (Az @kk5 (Az @jy7 (Az @jy8 (Az @kk8 (Az @kk6 (Az @kk7 (Az @zO7 (Az @jF3 (Az @kb3 (Az @je1 (Az @zL2 (Az @zL3 (Az @zL4 (Az @zL5 (Az @zt8 (Az @jz0 (Az @jz1 (Az @zt9 (Az @jX2 (Az @jz2 (Az @kk9 (Az @je2 (Az @kl0 (Az @jz3 (Az @jX3 (Az @jX4 (Az @je4 (Az @je5 (Az @jX5 (Az @jz4 (Az @jz5 (Az @jX6 (Az @jX7 (Az @jX8 (Az @jz6 (Az @jX9 (Az @jz7 (Az @je6 (Az @je7 (Az @je8 (Az @jY0 (Az @jY1 (Az @jz8 (Az @jz9 (Az @jA0 (Az @jY2 (Az @jY3 (Az @je9 (Az @jf0 (Az @jA1 (Az @jf1 (Az @zu0 (Az @jA2 (Az @jA3 (Az @jY4 (Az @jY5 (Az @rv_t (Az @rv_k (Az @zu1 (Az @zc1 (Az @jA4 (Az @jA5 (Az @jA6 (Az @jA7 (Az @jA8 (Az @jf2 (Az @jA9 (Az @jF4 (Az @kb5 (Az @jB0 (Az @jB1 (Az @jB3 (Az @jD2 (Az @jg6 (Az @zu5 (Az @zc3 (Az @jg4 (Az @zu6 (Az @zc4 (Az @jg5 (Az @zM4 (Az @jD5 (Az @ka3 (Az @ka4 (Az @ji4 (Az @zM5 (Az @zu7 (Az @kl9 (Az @km0 (Az @km1 (Az @jB4 (Az @zL8 (Az @zc5 (Az @qS2 (Az @qS3 (Az @zu8 (Az @kj7 (Az @jy0 (Az @jB2 (Az @jY6 (Az @jY7 (Az @jY8 (Az @jf5 (Az @zM0 (Az @jB5 (Az @jB6 (Az @jf3 (Az @zL6 (Az @zu2 (Az @jf4 (Az @jf6 (Az @zL9 (Az @zc2 (Az @zM1 (Az @zM2 (Az @zM3 (Az @jf7 (Az @jB7 (Az @jB8 (Az @jY9 (Az @jB9 (Az @jC0 (Az @zu3 (Az @jC1 (Az @jZ0 (Az @kl2 (Az @jZ1 (Az @jZ2 (Az @kl3 (Az @jC2 (Az @jZ3 (Az @jC3 (Az @jC4 (Az @jZ4 (Az @jC5 (Az @jC6 (Az @jZ5 (Az @jZ6 (Az @jf8 (Az @jf9 (Az @jC7 (Az @jC8 (Az @jg0 (Az @jg1 (Az @jg2 (Az @jC9 (Az @zu4 (Az @jZ7 (Az @jD0 (Az @zY2 (Az @ji5 (Az @jZ8 (Az @jg3 (Az @jD6 (Az @ka5 (Az @zz5 (Az @jD1 (Az @ka6 (Az @zM7 (Az @zu9 (Az @ka7 (Az @jD7 (Az @ji6 (Az @ji8 (Az @ka8 (Az @jD8 (Az @ji7 (Az @jD9 (Az @ji9 (Az @jj0 (Az @jE0 (Az @ka9 (Az @jj1 (Az @kb0 (Az @jE2 (Az @jj2 (Az @jj3 (Az @jE4 (Az @jE1 (Az @jE3 (Az @jj4 (Az @jj5 (Az @zM8 (Az @zM9 (Az @zN0 (Az @zN1 (Az @zN2 (Az @zN3 (Az @qw9 (Az @jj6 (Az @zN5 (Az @jj7 (Az @jE5 (Az @zN4 (Az @zN6 (Az @jj8 (Az @zN7 (Az @zN8 (Az @jj9 (Az @kb1 (Az @jE6 (Az @jk0 (Az @zv0 (Az @jk1 (Az @zN9 (Az @zv1 (Az @zO0 (Az @zv2 (Az @kb2 (Az @jE7 (Az @jE8 (Az @jk2 (Az @jk3 (Az @jE9 (Az @jk4 (Az @zO1 (Az @zv3 (Az @jF0 (Az @jk5 (Az @jF1 (Az @zO2 (Az @jk6 (Az @zO3 (Az @jk7 (Az @zO4 (Az @zO5 (@zO6)))))))))))))))))))))))))))))))))))))))))))))))))))))))))))))))))))))))))))))))))))))))))))))))))))))))))))))))))))))))))))))))))))))))))))))))))))))))))))))))))))))))))))))))))))))))))))))))))))))))))))))))))))))))))))))))))))))))))))))))))))))))))))
theorem tl2:type_of% (
Az @Option.getD_some.{0} (Az @Option.isSome_some.{0} (Az @List.map_cons.{0,0} (Az @List.map_nil.{0,0} (Az @List.all_cons.{0} (Az @List.all_nil.{0} (Az @List.contains_cons.{0} (Az @List.contains_nil.{0} (Az @Bool.and_true (Az @Fq (Az @Bool.and_self (Az @Bool.or_true (Az @Bool.true_or (Az @Bool.or_false (Az @Bool.false_or (Az @true_and (Az @and_true (Az @BEq.rfl.{0} (Az @forall_const.{0} (Az @true_implies (Az @implies_true.{0} (Az @cond_true.{1} (Az @cond_false.{1} (Az @Bool.true_eq_false (Az @EZ (Az @false_implies (Az @Bool.not_true (Az @Bool.not_false (Az @List.append_nil.{0} (Az @eq_self.{1} (Az @imp_self (Az @Bx (Az @kb4 (Az @and_false (Az @false_and (Az @or_false (Az @false_or (Az @List.length_cons.{0} (Az @List.length_nil.{0} (Az @List.length_map.{0,0} (Az @List.length_append.{0} (@and_self)))))))))))))))))))))))))))))))))))))))))):=Az @Option.getD_some.{0} (Az @Option.isSome_some.{0} (Az @List.map_cons.{0,0} (Az @List.map_nil.{0,0} (Az @List.all_cons.{0} (Az @List.all_nil.{0} (Az @List.contains_cons.{0} (Az @List.contains_nil.{0} (Az @Bool.and_true (Az @Fq (Az @Bool.and_self (Az @Bool.or_true (Az @Bool.true_or (Az @Bool.or_false (Az @Bool.false_or (Az @true_and (Az @and_true (Az @BEq.rfl.{0} (Az @forall_const.{0} (Az @true_implies (Az @implies_true.{0} (Az @cond_true.{1} (Az @cond_false.{1} (Az @Bool.true_eq_false (Az @EZ (Az @false_implies (Az @Bool.not_true (Az @Bool.not_false (Az @List.append_nil.{0} (Az @eq_self.{1} (Az @imp_self (Az @Bx (Az @kb4 (Az @and_false (Az @false_and (Az @or_false (Az @false_or (Az @List.length_cons.{0} (Az @List.length_nil.{0} (Az @List.length_map.{0,0} (Az @List.length_append.{0} (@and_self)))))))))))))))))))))))))))))))))))))))))
theorem tl4:type_of% (
Az @kl4 (Az @jD3 (Az @kl5 (Az @kl6 (Az @kl7 (Az @kl8 (Az @jg7 (Az @jg8 (Az @jg9 (Az @jh0 (Az @jh1 (Az @jh2 (Az @jh3 (Az @jh4 (Az @jh5 (Az @jh6 (Az @jZ9 (Az @ka0 (Az @ka1 (Az @ka2 (Az @jD4 (Az @jh7 (Az @jh8 (Az @jh9 (Az @ji0 (Az @ji1 (Az @ji2 (Az @ji3 (Az @qS4 (Az @qS5 (@zM6))))))))))))))))))))))))))))))):=Az @kl4 (Az @jD3 (Az @kl5 (Az @kl6 (Az @kl7 (Az @kl8 (Az @jg7 (Az @jg8 (Az @jg9 (Az @jh0 (Az @jh1 (Az @jh2 (Az @jh3 (Az @jh4 (Az @jh5 (Az @jh6 (Az @jZ9 (Az @ka0 (Az @ka1 (Az @ka2 (Az @jD4 (Az @jh7 (Az @jh8 (Az @jh9 (Az @ji0 (Az @ji1 (Az @ji2 (Az @ji3 (Az @qS4 (Az @qS5 (@zM6))))))))))))))))))))))))))))))
end Go.TL
namespace Go.TL
abbrev vL (bs:List UInt8):T:=.sl 1 (bs.map Zg)
def u8 (n:Int):UInt8:=UInt8.ofNat (n % 256).toNat
theorem km3 (n:Int):((u8 n).toNat:Int)=n % 256:=by
 unfold u8;have h:(n % 256).toNat<256:=by omega
 rw[UInt8.toNat_ofNat'];omega
theorem zY7 (b:UInt8):(b.toNat:Int)<256:=by have:=b.toNat_lt;omega
theorem zv5 {b:UInt8}:(Zg b).cells=[Zg b]:=rfl
theorem zP7 {st:Sto} {b:UInt8}:live st (Zg b)=True:=by simp [Zg,live,Value.oneCell']
theorem zv6 {bs:List UInt8} {i:Nat} (h:i<bs.length):(bs.map Zg).getD i .junk = .v (.int .u8 (bs.getD i 0).toNat):=by
 simp [List.getD,CK h,Zg]
theorem qS6 (bs:List UInt8):(bs.map Zg).map qv7=bs:=by
 induction bs with
 | nil=>rfl
 | cons b r ih=>
   simp only[List.map_cons,ih]
   congr 1
   simp [Zg,qv7]
theorem zP8 {bs:List UInt8}:∀ y∈bs.map Zg,JT y=true:=by
 intro y hy;obtain⟨b,_,rfl⟩:=Cj.1 hy
 rfl
theorem zv7 {bs:List UInt8}:(∀ y∈bs.map Zg,JT y=true)=True:=eq_true zP8
theorem jF6 {α:Type} {f:α→T} (h:∀ a,imL (f a).cells=true) (l:List α):zy1 (l.map f):=by
 intro x hx c hc;obtain⟨a,_,rfl⟩:=Cj.1 hx;exact zb9 (h a) c hc
theorem zd2 {bs:List UInt8}:zy1 (bs.map Zg)=True:=eq_true (jF6 (fun _=>rfl) bs)
theorem qk6 {α β:Type} (f:α→β) (a b:Int) (l:List α):cutT a b (l.map f)=(cutT a b l).map f:=by
 simp [cutT,List.map_take,List.map_drop]
theorem jS2 {α:Type} {a:Nat} {l:List α}:cutT (a:Int) (l.length:Int) l=l.drop a:=by simp [cutT]
theorem zd3 {α:Type} {b:Nat} {l:List α}:cutT 0 (b:Int) l=l.take b:=by simp [cutT]
theorem bits_nat {n:Int} (h0:0≤n):BitVec.ofInt 64 n=BitVec.ofNat 64 n.toNat:=by
 apply BitVec.eq_of_toNat_eq
 simp [BitVec.toNat_ofInt];omega
theorem zz7 {k:Nat}:ImXs k []=True:=by simp [ImXs]
theorem Spc.weaken {P:Program} {f:FuncId} {ts:List T} {st st' st2:Sto} {r r2:T} (h:Spc P f ts st r st') (hl:Zi st r st' r2 st2):Spc P f ts st r2 st2:=by
 refine⟨h.1,h.2.1,fun S ι w vals hR=>(h.2.2 S ι w vals hR).mono ?_⟩;rintro en w' ⟨v,ι',rfl,hp⟩;obtain⟨ι2,h2⟩:=hl _ rfl _ _ _ hp;exact⟨v,ι2,rfl,h2⟩
abbrev vIs (l:List Int):T:=.sl 1 (l.map vI)
theorem qh {α:Type} {l:List α} {i:Nat} {d:α} (h:i<l.length):l.getD i d=l[i]:=by simp [List.getD,h]
theorem km4 (l:List Int):ImXs 1 (l.map vI):=qE (f:=vI) (fun _=>⟨rfl,rfl⟩) l
def frzC (i:Nat) (o:Option Ob) (l:List (Nat×Ob)):List (Nat×Ob):=match o with
 | some (.arr k xs _)=>(i,.arr k xs true)::l
 | _=>l
def frz (st:Sto):List Nat→List (Nat×Ob)
 | []=>[]
 | i::r=>frzC i (TL.get st i) (frz st r)
def jS3 (st:Sto) (i:Nat):Bool:=match TL.get st i with | some (.arr ..)=>true | _=>false
theorem jF7 {st:Sto}:frz st []=[]:=_root_.id rfl
theorem qZ2 {st:Sto} {i:Nat} {r:List Nat}:frz st (i::r)=frzC i (TL.get st i) (frz st r):=_root_.id rfl
theorem zz8 {i k:Nat} {xs:List T} {fz:Bool} {l:List (Nat×Ob)}:frzC i (some (.arr k xs fz)) l=(i,.arr k xs true)::l:=_root_.id rfl
theorem qc0 {st:Sto}:∀ (B:List Nat),wrOk st [] [] [] [] (frz st B)
 | []=>trivial
 | i::r=>by
   rw[qZ2];cases h:TL.get st i with
   | none=>exact qc0 r
   | some o=>cases o with
     | dead=>exact qc0 r
     | mp es=>exact qc0 r
     | full i n g=>exact qc0 r
     | arr k xs fz=>
       refine⟨?_,qc0 r⟩;simp only[TL.get,wrO,h];exact⟨trivial,⟨trivial,trivial⟩,by simp⟩
theorem zY8 {st:Sto}:∀ (B:List Nat) (i:Nat),i∈B→jS3 st i=true→∃ k xs,TL.get (frz st B) i=some (.arr k xs true)
 | [],i,h,_=>by simp at h
 | j::r,i,h,hi=>by
   rw[qZ2];by_cases hj:j=i
   ·subst hj;unfold jS3 at hi;split at hi
    ·rename_i k xs fz hg;rw[hg,zz8];exact⟨k,xs,by simp [TL.get]⟩
    ·cases hi
   ·obtain⟨k,xs,h3⟩:=zY8 r i (by rcases Ck.1 h with h | h;exact absurd h.symm hj;exact h) hi;refine⟨k,xs,?_⟩;unfold frzC;split
    ·simp [TL.get,hj,h3]
    ·exact h3
theorem zY9 {wr:Sto}:∀ {B:List Nat},(∀ i∈B,∃ k xs,TL.get wr i=some (.arr k xs true))→fzOk wr B=true
 | [],_=>rfl
 | i::r,h=>by
   obtain⟨k,xs,h1⟩:=h i (by simp);simp only[fzOk,h1,Fq];exact zY9 fun j hj=>h j (by simp [hj])
section
variable {P:Program} {st:Sto} {e:Env} {kss:List (Nat×List Nat)} {Q:Ex→St→Prop} {K:List KF} {rows:Option (List Nat)} {ks:List Nat} {nid:Nat} {ops:List ROp} {F:XF} {acc:Acc}
theorem C1.shut {fid:FuncId} {caps xs ts':List T} {r:T} {d:Option Nat} (B:List Nat) (hs:Spc P fid ts' [] r [])
 (ha:ltAs st [] B (xs++caps) ts') (h2:qk4 r=true) (hB:B.all (jS3 st)=true)
 (h:R P e kss Q rows ks K nid ops (putX F d (.p r)) (stUp st (frz st B)) (acc++[(B++(frz st B).map (·.1),(frz st B).map (·.1))])):C1 P e kss Q rows ks K (.clo fid caps) xs d nid ops F st acc:=
 .of [] [] B (frz st B) hs ha rfl trivial (by simp) rfl (qc0 B) rfl rfl (qD0 h2) (.inl (zY9 fun i hi=>by
  obtain⟨k,xs,h3⟩:=zY8 B i hi (Bk.1 hB i hi);exact⟨k,xs,by rw[jy,h3];rfl⟩)) h
theorem C1.shutD {fid:FuncId} {caps xs ts':List T} {r:T} {d:Option Nat} (B:List Nat) (hs:Spc P fid ts' [] r [])
 (ha:ptw (ltAD st B) (xs++caps) ts') (h2:qk4 r=true) (hB:B.all (jS3 st)=true)
 (h:R P e kss Q rows ks K nid ops (putX F d (.p r)) (stUp st (frz st B)) (acc++[(B++(frz st B).map (·.1),(frz st B).map (·.1))])):C1 P e kss Q rows ks K (.clo fid caps) xs d nid ops F st acc:=
 ⟨r,frz st B,_,.ofL [] [] B (frz st B) hs (ptwA ha) rfl trivial (by simp) rfl (qc0 B) rfl rfl (qD0 h2) (.inl (zY9 fun i hi=>by
   obtain⟨k,xs,h3⟩:=zY8 B i hi (Bk.1 hB i hi);exact⟨k,xs,by rw[jy,h3];rfl⟩)),h⟩
end
section
variable {st:Sto}
theorem zP9 {n:Nat} {d:T}:([]:List T).getD n d=d:=_root_.id rfl
theorem zv8:T.junk.cells=[.junk]:=_root_.id rfl
theorem jl0:conT st .junk=none:=_root_.id rfl
theorem zv9 {p:Prop}:jS1 none p=none:=_root_.id rfl
theorem zQ0 {op:BinOp} {ib:Bool} {y:T}:binR op ib .junk y=none:=by cases y <;> rfl
theorem zw0 {op:BinOp} {ib:Bool} {y:T}:binR op ib (.v undef) y=none:=by
 cases y <;> first | rfl | (rename_i v;cases v <;> rfl)
theorem zQ1 {cells:List T}:zy8 cells []=some cells:=_root_.id rfl
theorem zw1 {cells:List T} {off n:Nat} {x:T} {r:List ((Nat×Nat)×T)}:zy8 cells (((off,n),x)::r)=if x.cells.length=n∧off+n≤cells.length then zy8 (cells.take off++x.cells++cells.drop (off+n)) r else none:=_root_.id rfl
theorem jF8 {a b:ByteArray}:strT .eql a b=retB (a.toList==b.toList):=_root_.id rfl
theorem jF9 {a b:ByteArray}:strT .neq a b=retB (!(a.toList==b.toList)):=_root_.id rfl
theorem jG0 {a b:ByteArray}:strT .add a b=some ⟨a.size+b.size≤9223372036854775807,.v (.string (a++b)),[]⟩:=_root_.id rfl
theorem jG1 {a b:ByteArray}:strT .gtr a b=retB (!(Op.bytesLess a.toList b.toList||a.toList==b.toList)):=_root_.id rfl
theorem jG2 {a b:ByteArray}:strT .leq a b=retB (Op.bytesLess a.toList b.toList||a.toList==b.toList):=_root_.id rfl
theorem jG3 {a b:ByteArray}:strT .geq a b=retB (!Op.bytesLess a.toList b.toList):=_root_.id rfl
theorem jG4 {a b:ByteArray}:strT .lss a b=retB (Op.bytesLess a.toList b.toList):=_root_.id rfl
theorem ex_0 {a:T} {r:List T}:JY (.tup (a::r)) 0=ret a:=_root_.id rfl
theorem ex_1 {a:T} {r:List T} {n:Nat}:JY (.tup (a::r)) (n+1)=JY (.tup r) n:=by simp [JY]
theorem mn_2 {a b:Int}:qT4 minI [vI a,vI b]=retI .i64 (minI a b):=_root_.id rfl
theorem mx_2 {a b:Int}:qT4 maxI [vI a,vI b]=retI .i64 (maxI a b):=_root_.id rfl
theorem tl3:type_of% (Az @zP9 (Az @zv8 (Az @jl0 (Az @zv9 (Az @zQ0 (Az @zw0 (Az @zz3 (Az @zd2 (Az @jF7 (Az @qZ2 (Az @zz8 (Az @zQ1 (Az @zw1 (Az @jF8 (Az @jF9 (Az @jG0 (Az @jG4 (Az @jG1 (Az @jG2 (Az @jG3 (Az @ex_0 (Az @ex_1 (Az @mn_2 (Az @mx_2 (Az @ByteArray.toList_mk (Az @qS6 (Az @zv7 (Az @zv5 (Az @zP7 (Az @List.take_succ_cons.{0} (Az @List.drop_succ_cons.{0} (Az @List.take_zero.{0} (Az @List.drop_zero.{0} (Az @List.take_nil.{0} (Az @List.drop_nil.{0} (Az @List.cons_append.{0} (Az @List.nil_append.{0} (Az @Nat.zero_add (Az @List.set_cons_zero.{0} (@List.set_cons_succ.{0})))))))))))))))))))))))))))))))))))))))):=
 Az @zP9 (Az @zv8 (Az @jl0 (Az @zv9 (Az @zQ0 (Az @zw0 (Az @zz3 (Az @zd2 (Az @jF7 (Az @qZ2 (Az @zz8 (Az @zQ1 (Az @zw1 (Az @jF8 (Az @jF9 (Az @jG0 (Az @jG4 (Az @jG1 (Az @jG2 (Az @jG3 (Az @ex_0 (Az @ex_1 (Az @mn_2 (Az @mx_2 (Az @ByteArray.toList_mk (Az @qS6 (Az @zv7 (Az @zv5 (Az @zP7 (Az @List.take_succ_cons.{0} (Az @List.drop_succ_cons.{0} (Az @List.take_zero.{0} (Az @List.drop_zero.{0} (Az @List.take_nil.{0} (Az @List.drop_nil.{0} (Az @List.cons_append.{0} (Az @List.nil_append.{0} (Az @Nat.zero_add (Az @List.set_cons_zero.{0} (@List.set_cons_succ.{0})))))))))))))))))))))))))))))))))))))))
end
end Go.TL
namespace Go.TL
section
variable {P:Program} {e:Env} {kss:List (Nat×List Nat)} {Q:Ex→St→Prop} {K:List KF} {fr:List (Nat×T)} {st:Sto}
def rm1 (k:Nat):List (Nat×T)→List (Nat×T)
 | []=>[]
 | (t,x)::r=>if t=k then rm1 k r else (t,x)::rm1 k r
def rmK:List Nat→List (Nat×T)→List (Nat×T)
 | [],fr=>fr
 | k::ks,fr=>rm1 k (rmK ks fr)
theorem qu {α:Type} {body:RC} (hm:P.follows .mixedOrders=true) (ks:List Nat) (I:α→Prop) (ch:α→List (Nat×T)) (g:α→Sto) (μ:α→Nat) (x0:α) (h0:I x0) (hs:Le e ⟨fr,st⟩ ⟨ch x0++rmK ks fr,g x0⟩)
 (round:∀ x,I x→W P e kss (LQ P e kss Q K I (fun x=>ch x++rmK ks fr) g μ x) body [] (ch x++rmK ks fr) (g x)):W P e kss Q (.loop body) K fr st:=
 zO8 hm I (fun x=>ch x++rmK ks fr) g μ x0 h0 hs round
end
theorem qe {α:Type} {f:α→T} {l:List α} {i:Nat} (h:i<l.length):(l.map f).getD i .junk=f l[i]:=by
 rw[qh (by simpa using h)];simp
theorem qj {i:Nat} (h:i<4611686018427387904):IntKind.i64.wrap ((i:Int)+1)=((i+1:Nat):Int):=by
 rw[AK _ (by omega)];omega
theorem jp {i:Nat} (h:0<i) (h2:i<4611686018427387904):IntKind.i64.wrap ((i:Int)-1)=((i-1:Nat):Int):=by
 rw[AK _ (by omega)];omega
theorem zy {α:Type} {st:Sto} {ρ:Ren} {B:List Nat} {k:Nat} {f:α→T} (h:∀ a,(f a).cells.length=k∧imL (f a).cells=true) (l:List α):ltXs st ρ B k (l.map f) (l.map f):=yh (qE h l)
theorem qH {α:Type} {l:List α} {i:Nat} (h:i<l.length):l.take (i+1)=l.take i++[l[i]]:=List.take_succ_eq_append_getElem h
theorem qW {k:Nat} {a b:List T} (h1:ImXs k a) (h2:ImXs k b):ImXs k (a++b):=fun x hx=>by
 rcases Dz.1 hx with h | h
 ·exact h1 x h
 ·exact h2 x h
theorem qS {k:Nat} {x:T} {a:List T} (h0:x.cells.length=k∧imL x.cells=true) (h:ImXs k a):ImXs k (x::a):=fun y hy=>by
 rcases Ck.1 hy with rfl | hy
 ·exact h0
 ·exact h y hy
theorem qY {k:Nat}:ImXs k []:=fun x hx=>by simp at hx
theorem zw2 {α:Type} {p:α→Bool} {l:List α} {i:Nat} (h:i<l.length) (hp:p l[i]=true):l.any p=true:=DJ.2 ⟨l[i],AX h,hp⟩
theorem ki {α:Type} {p:α→Bool} {l:List α} {i:Nat} (h:i<l.length) (h1:(l.take i).any p=false) (hp:p l[i]=false):(l.take (i+1)).any p=false:=by
 rw[qH h,FW,h1];simp [hp]
theorem yX {α:Type} {p:α→Bool}:∀ {l:List α} {i:Nat} (h:i<l.length),(l.take i).any p=false→p l[i]=true→l.findIdx p=i
 | [],i,h,_,_=>by simp at h
 | x::r,0,h,_,hp=>by simp at hp;simp [List.findIdx_cons,hp]
 | x::r,i+1,h,h1,hp=>by
   simp only[List.take_succ_cons,List.any_cons,FX] at h1;rw[List.findIdx_cons,h1.1,cond_false,yX (l:=r) (i:=i) (by simpa using h) h1.2 (by simpa using hp)]
def idxI {α:Type} (p:α→Bool) (l:List α):Int:=if l.any p=true then l.findIdx p else -1
theorem zd4 {α:Type} (p:α→Bool) (l:List α):decide (0≤idxI p l)=l.any p:=by
 unfold idxI;cases h:l.any p <;> simp
def WC {α:Type} (eq:α→α→Bool):List α→List α→Bool
 | [],[]=>true
 | a::as,b::bs=>eq a b&&WC eq as bs
 | _,_=>false
section
variable {α:Type} {eq:α→α→Bool}
theorem qZ3:∀ {a b:List α},a.length≠b.length→WC eq a b=false
 | [],[],h=>absurd rfl h
 | [],_::_,_=>rfl
 | _::_,[],_=>rfl
 | a::as,b::bs,h=>by
   simp only[WC];rw[qZ3 (a:=as) (b:=bs) (by simpa using h),Bool.and_false]
theorem qk7:∀ {a b c d:List α},a.length=b.length→WC eq (a++c) (b++d)=(WC eq a b&&WC eq c d)
 | [],[],c,d,_=>by simp [WC]
 | [],_::_,_,_,h=>by simp at h
 | _::_,[],_,_,h=>by simp at h
 | a::as,b::bs,c,d,h=>by
   simp only[BW,WC];rw[qk7 (by simpa using h),Bool.and_assoc]
theorem qr2 {a b:List α} {i:Nat} (ha:i<a.length) (hb:i<b.length):WC eq (a.take (i+1)) (b.take (i+1))=(WC eq (a.take i) (b.take i)&&eq a[i] b[i]):=by
 rw[qH ha,qH hb,qk7 (by simp;omega)];simp [WC]
theorem qx1 {a b:List α} {i:Nat} (hl:a.length=b.length) (ha:i<a.length) (h:eq a[i] (b[i]'(by omega))=false):WC eq a b=false:=by
 have e:WC eq a b=WC eq (a.take (i+1)++a.drop (i+1)) (b.take (i+1)++b.drop (i+1)):=by rw[List.take_append_drop,List.take_append_drop]
 rw[e,qk7 (by simp;omega),qr2 ha (by omega),h];simp
theorem qD1 (h:∀ x y,eq x y=true↔x=y):∀ {a b:List α},WC eq a b=true↔a=b
 | [],[]=>by simp [WC]
 | [],_::_=>by simp [WC]
 | _::_,[]=>by simp [WC]
 | a::as,b::bs=>by simp [WC,h,qD1 h (a:=as) (b:=bs)]
end
theorem kf3 {x:T} (h:imT0 x=true):imT x=true:=by
 cases x <;> first | exact h | (simp [imT0] at h)
theorem jG5:∀ {l:List T},zJ1 l=true→imL l=true
 | [],_=>rfl
 | x::r,h=>by
   simp only[zJ1,Bq] at h;simp only[imL,Bq];exact⟨kf3 h.1,jG5 h.2⟩
theorem kf4 {x:T} (h:imT x=true):imA x=true:=by
 cases x with
 | clo f cs=>exact jG5 h
 | agg cs=>simp [imT,imT0] at h
 | _=>exact h
theorem kf5 {l:List T} (h:imL l=true):imAL l=true:=by
 induction l with
 | nil=>rfl
 | cons c r ih=>
   simp only[imL,Bq] at h;simp only[imAL,Bq];refine⟨?_,ih h.2⟩;exact kf4 h.1
theorem ZU {x:T} {f:FuncId} {caps:List T} (h0:imA x=true) (h:imL caps=true):imAL [x,.clo f caps]=true:=by
 show (imA x&&(imL caps&&true))=true;rw[h0,h];rfl
theorem YW {x:T} {l:List T} (h0:imA x=true) (h:imL l=true):imAL (x::l)=true:=by
 simp only[imAL,h0,kf5 h,Bool.and_self]
def nx (l:List UInt8) (at_:Nat) (n:Int):Int×Nat:=
 if n<1∨l.length≤at_ then (0,at_)
 else if 256<n∧at_+1<l.length then (((l.getD at_ 0).toNat*256+(l.getD (at_+1) 0).toNat) % n,at_+2)
 else ((l.getD at_ 0).toNat % n,at_+1)
abbrev oC (l:List UInt8) (at_:Nat):Ob:=.arr 2 [.agg [vL l,vI at_]] false
theorem qD2 (l:List UInt8) (at_:Nat) (n:Int) (h:at_≤l.length):(nx l at_ n).2≤l.length:=by
 unfold nx;split
 ·exact h
 ·split
  ·simp only;omega
  ·simp only;omega
theorem yp (l:List UInt8) (at_:Nat) (n:Int) (h:1≤n):0≤(nx l at_ n).1∧(nx l at_ n).1<n:=by
 unfold nx;split
 ·simp only;omega
 ·split
  ·exact⟨Int.emod_nonneg _ (by omega),Int.emod_lt_of_pos _ (by omega)⟩
  ·exact⟨Int.emod_nonneg _ (by omega),Int.emod_lt_of_pos _ (by omega)⟩
section
variable {P:Program} {e:Env} {kss:List (Nat×List Nat)} {Q:Ex→St→Prop} {K:List KF} {rows:Option (List Nat)} {ks:List Nat} {nid:Nat} {ops:List ROp} {F:XF} {acc:Acc} {st:Sto} {fid:FuncId} {xs caps ts':List T} {r:T} {d:Option Nat}
theorem C1.draw (id:Nat) (l:List UInt8) (a a':Nat)
 (hs:Spc P fid (.ptr 0 1 0 0::xs) [(0,oC l a)] r [(0,oC l a')]) (hg:TL.get st id=some (oC l a)) (hx:imAL xs=true) (h2:qk4 r=true)
 (h:R P e kss Q rows ks K nid ops (putX F d (.p r)) (stUp st [(id,oC l a')]) (acc++[([]++[(id,oC l a')].map (·.1),[(id,oC l a')].map (·.1))])):C1 P e kss Q rows ks K (.clo fid []) (.ptr id 1 0 0::xs) d nid ops F st acc:=by
 refine C1.of [(0,some id)] [(id,some 0)] [] [(id,oC l a')] hs ?_ (by simp [Zk,TL.get]) ?_ (by rfl) (by simp [TL.get]) ?_ (by simp [Zk,TL.get]) (by rfl) (qD0 h2) (.inl (by rfl)) h
 ·rw[CW];exact⟨by simp [ltA,ltC,ltC0,TL.get],qx0 hx⟩
 ·refine⟨?_,trivial⟩;simp only[TL.get,if_true,ltO2,hg,ltO1];exact⟨trivial,by simp,qV ⟨rfl,rfl,rfl,rfl,trivial⟩ zb,by simp⟩
 ·refine⟨?_,trivial⟩;simp only[TL.get,if_true,wrO,ltO1];exact⟨⟨trivial,by simp,qV ⟨rfl,rfl,rfl,rfl,trivial⟩ zb,by simp⟩,.inr ⟨trivial,rfl⟩⟩
theorem C1.keep (id k:Nat) (ys:List T)
 (hs:Spc P fid ts' [(0,.arr k ys false)] r [(0,.arr k ys false)]) (hg:TL.get st id=some (.arr k ys false)) (him:ImXs k ys) (ha:ltAs st [(0,some id)] [] (xs++caps) ts') (h2:qk4 r=true)
 (h:R P e kss Q rows ks K nid ops (putX F d (.p r)) (stUp st [(id,.arr k ys false)]) (acc++[([]++[(id,Ob.arr k ys false)].map (·.1),[(id,Ob.arr k ys false)].map (·.1))])):C1 P e kss Q rows ks K (.clo fid caps) xs d nid ops F st acc:=by
 refine C1.of [(0,some id)] [(id,some 0)] [] [(id,.arr k ys false)] hs ha (by simp [Zk,TL.get]) ?_ (by rfl) (by simp [TL.get]) ?_ (by simp [Zk,TL.get]) (by rfl) (qD0 h2) (.inl (by rfl)) h
 ·refine⟨?_,trivial⟩;simp only[TL.get,if_true,ltO2,hg,ltO1];exact⟨trivial,by simp,yh him,by simp⟩
 ·refine⟨?_,trivial⟩;simp only[TL.get,if_true,wrO,ltO1];exact⟨⟨trivial,by simp,yh him,by simp⟩,.inr ⟨trivial,rfl⟩⟩
theorem C1.upd (id k:Nat) (ys zs:List T)
 (hs:Spc P fid ts' [(0,.arr k ys false)] r [(0,.arr k zs false)]) (hg:TL.get st id=some (.arr k ys false)) (him:ImXs k ys) (him2:ImXs k zs) (ha:ltAs st [(0,some id)] [] (xs++caps) ts') (h2:qk4 r=true)
 (h:R P e kss Q rows ks K nid ops (putX F d (.p r)) (stUp st [(id,.arr k zs false)]) (acc++[([]++[(id,Ob.arr k zs false)].map (·.1),[(id,Ob.arr k zs false)].map (·.1))])):C1 P e kss Q rows ks K (.clo fid caps) xs d nid ops F st acc:=by
 refine C1.of [(0,some id)] [(id,some 0)] [] [(id,.arr k zs false)] hs ha (by simp [Zk,TL.get]) ?_ (by rfl) (by simp [TL.get]) ?_ (by simp [Zk,TL.get]) (by rfl) (qD0 h2) (.inl (by rfl)) h
 ·refine⟨?_,trivial⟩;simp only[TL.get,if_true,ltO2,hg,ltO1];exact⟨trivial,by simp,yh him,by simp⟩
 ·refine⟨?_,trivial⟩;simp only[TL.get,if_true,wrO,ltO1];exact⟨⟨trivial,by simp,yh him2,by simp⟩,.inr ⟨trivial,rfl⟩⟩
theorem C1.newdraw {l:List UInt8} {a:Nat} (nid':Nat) (hs:Spc P fid (xs++caps) [] (.ptr 0 1 0 0) [(0,oC l a)]) (h1:imAL (xs++caps)=true) (hn:TL.get st nid'=none)
 (h:R P e kss Q rows ks K nid ops (putX F d (.p (.ptr nid' 1 0 0))) (stUp st [(nid',oC l a)]) (acc++[([]++[nid'],[nid'])])):C1 P e kss Q rows ks K (.clo fid caps) xs d nid ops F st acc:=by
 refine C1.of [] [(nid',some 0)] [] [(nid',oC l a)] hs (qx0 h1) rfl trivial (by simp) (by rfl) ?_ (by simp [Zk,TL.get]) (by rfl) ?_ (.inl (by rfl)) h
 ·refine⟨?_,trivial⟩;simp only[TL.get,if_true,wrO,ltO1];exact⟨⟨trivial,by simp,qV ⟨rfl,rfl,rfl,rfl,trivial⟩ zb,by simp⟩,.inl hn⟩
 ·exact⟨by simp [TL.get],rfl,rfl,rfl⟩
theorem C2.one {L:List (Nat×Bool)} {c:Prop} {f:T} {as:List T} (hc:c) (h:C1 P e kss Q rows ks K f as d nid ops F st acc):C2 P e kss Q rows ks K L c f as d nid ops F st acc:=by
 obtain⟨val,wr,rd,h1,h2⟩:=h;exact⟨val,wr,rd,fun _=>h1,.inr (.inl ⟨hc,h2⟩)⟩
theorem C2.no {L:List (Nat×Bool)} {c:Prop} {f:T} {as:List T} (hc:¬ c) (h:R P e kss Q rows ks K nid ops (putX F d (.p (.v undef))) st (acc++[([],[])])):C2 P e kss Q rows ks K L c f as d nid ops F st acc:=
 ⟨.junk,[],[],fun h=>absurd h hc,.inr (.inr ⟨hc,h⟩)⟩
theorem C1.fresh {ys:List T} {m k:Nat} (nid':Nat) (hs:Spc P fid (xs++caps) [] (.asl 0 m) [(0,.arr k ys false)]) (h1:imAL (xs++caps)=true) (hy:ImXs k ys) (hn:TL.get st nid'=none)
 (h:R P e kss Q rows ks K nid ops (putX F d (.p (.asl nid' m))) (stUp st [(nid',.arr k ys false)]) (acc++[([]++[nid'],[nid'])])):C1 P e kss Q rows ks K (.clo fid caps) xs d nid ops F st acc:=by
 refine C1.of [] [(nid',some 0)] [] [(nid',.arr k ys false)] hs (qx0 h1) rfl trivial (by simp) (by rfl) ?_ (by simp [Zk,TL.get]) (by rfl) ?_ (.inl (by rfl)) h
 ·refine⟨?_,trivial⟩;simp only[TL.get,if_true,wrO,ltO1];exact⟨⟨trivial,by simp,yh hy,by simp⟩,.inl hn⟩
 ·exact⟨by simp [TL.get],rfl⟩
end
theorem clA {p:Prop} (h:p:=by
 all_goals (try simp only[Jc,ltO2,ltO1,ltAs,ltA,ltC,ltC0,zc6,ltCs,ltT,ltFr,ltS,wrOk,wrO,TL.get,qs4,↓reduceIte,Nat.reduceEqDiff,reduceCtorEq,Option.getD_some,Option.isSome_some,BY,AW,CJ,Cw,CW,Ey,Ck,List.not_mem_nil,and_true,true_and,and_self,imp_self,forall_const,false_implies,implies_true,true_implies,or_false,EZ,Bool.true_eq_false,zz7,true_or,or_true,false_or,false_and,and_false,rmK,rm1,By,List.map_cons,List.map_nil,BW,Cy])
 all_goals (try (repeat' (first
  | exact zb
  | (apply zy;intro _;exact⟨rfl,rfl⟩)
  | (apply qE;intro _;exact⟨rfl,rfl⟩)
  | with_reducible apply qW
  | with_reducible refine qS ⟨rfl,rfl⟩ ?_
  | exact qY
  | with_reducible apply qT
  | with_reducible refine qV ⟨rfl,rfl,?_⟩ ?_
  | with_reducible apply Az
  | exact qU rfl
  | exact qU (by assumption)
  | exact yh (by assumption)
  | (refine⟨⟨?_,rfl,?_,rfl,?_⟩,trivial⟩ <;> first | (simp;done) | (apply qE;intro _;exact⟨rfl,rfl⟩))
  | trivial
  | rfl
  | (rw[qj (by omega)])
  | omega)))):p:=h
theorem sW {p q:Prop} (h:q) (e:p=q:=by simp only[tl,tl2,tl4,↓un_u,zR,entX,qh7,ret,retI,retB,intT,unT,endR,qC5,resR,tupT,bslR,boxR,qh0,↓reduceIte,Nat.reduceEqDiff,Nat.reduceAdd,Nat.reduceMul,Nat.reduceLT,Nat.reduceLeDiff,reduceCtorEq,Int.reduceLE,Int.reduceLT,ne_eq,Int.reduceEq,not_false_eq_true,decide_true,decide_false,Int.reduceToNat,tl3,Int.reduceBNe,Int.reduceBEq,rmK,rm1,not_true_eq_false];rfl):p:=e.mpr h
theorem sD {p q:Prop} (h:q) (e:p=q:=by simp only[tl,tl2,tl4,↓un_u,zR,entX,qh7,ret,retI,retB,intT,unT,endR,qC5,resR,tupT,bslR,boxR,qh0,↓reduceIte,Nat.reduceEqDiff,Nat.reduceAdd,Nat.reduceMul,Nat.reduceLT,Nat.reduceLeDiff,reduceCtorEq,Int.reduceLE,Int.reduceLT,ne_eq,Int.reduceEq,not_false_eq_true,decide_true,decide_false,Int.reduceToNat,tl3,Int.reduceBNe,Int.reduceBEq,rmK,rm1,not_true_eq_false,AZ,Ay,DZ,FX,Bq,FJ];rfl):p:=e.mpr h
end Go.TL
