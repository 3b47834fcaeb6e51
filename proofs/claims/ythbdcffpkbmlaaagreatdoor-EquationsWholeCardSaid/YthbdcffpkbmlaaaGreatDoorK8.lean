/- A part of the proof: trees of Go values, short forms, contracts. -/
import Derived.Test.YthbdcffpkbmlaaaGreatDoorK7
namespace Go.TL
abbrev vI (n:Int):T:=.v (.int .i64 n)
abbrev vB (b:Bool):T:=.v (.bool b)
abbrev vU64 (n:Int):T:=.v (.int .u64 n)
abbrev vS (s:ByteArray):T:=.v (.string s)
def qn5 (fr:List (Nat×T)):List (Nat×T)→Prop
 | []=>True
 | (t,x)::r=>TL.get fr t=some x∧qn5 fr r
section
variable {P:Program} {e:Env} {kss:List (Nat×List Nat)} {Q:Ex→St→Prop} {K:List KF} {fr:List (Nat×T)} {st:Sto}
theorem jg3 {fr fr':List (Nat×T)} (h:qn5 fr fr') {t:Nat} {x:T} (hx:TL.get fr' t=some x):TL.get fr t=some x:=by
 induction fr' with
 | nil=>cases hx
 | cons p r ih=>
   obtain⟨u,y⟩:=p;obtain⟨h1,h2⟩:=h;simp only[TL.get] at hx;split at hx
   ·rename_i hu;subst hu;injection hx with hx;subst hx;exact h1
   ·exact ih h2 hx
theorem Le.ofFr {fr fr':List (Nat×T)} {st:Sto} (h:qn5 fr fr'):Le e ⟨fr,st⟩ ⟨fr',st⟩:=
 fun ι a w hR=>⟨ι,hR.drop rfl fun t x hx=>jg3 h hx⟩
def LQ {α:Type} (P:Program) (e:Env) (kss:List (Nat×List Nat)) (Q:Ex→St→Prop) (K:List KF) (I:α→Prop) (f:α→List (Nat×T)) (g:α→Sto) (μ:α→Nat) (x:α):Ex→St→Prop
 | .normal,s=>∃ y,I y∧μ y<μ x∧Le e s ⟨f y,g y⟩
 | .exit i,s=>X P e kss Q (.exit i) K s.fr s.st
 | .ret,s=>X P e kss Q .ret K s.fr s.st
theorem zk0 {α:Type} {I:α→Prop} {f:α→List (Nat×T)} {g:α→Sto} {μ:α→Nat} {x:α}:LQ P e kss Q K I f g μ x .normal ⟨fr,st⟩=∃ y,I y∧μ y<μ x∧Le e ⟨fr,st⟩ ⟨f y,g y⟩:=iR
theorem jg4 {α:Type} {I:α→Prop} {f:α→List (Nat×T)} {g:α→Sto} {μ:α→Nat} {x:α} {i:Nat}:LQ P e kss Q K I f g μ x (.exit i) ⟨fr,st⟩=X P e kss Q (.exit i) K fr st:=iR
theorem jG8 {α:Type} {I:α→Prop} {f:α→List (Nat×T)} {g:α→Sto} {μ:α→Nat} {x:α}:LQ P e kss Q K I f g μ x .ret ⟨fr,st⟩=X P e kss Q .ret K fr st:=iR
theorem jg5 {α:Type} {body:RC} (hm:P.follows .mixedOrders=true) (I:α→Prop) (f:α→List (Nat×T)) (g:α→Sto) (μ:α→Nat) (x0:α) (h0:I x0) (hs:Le e ⟨fr,st⟩ ⟨f x0,g x0⟩)
 (round:∀ x,I x→W P e kss (LQ P e kss Q K I f g μ x) body [] (f x) (g x)):W P e kss Q (.loop body) K fr st:=by
 refine WPR.loop hm I (fun x=>⟨f x,g x⟩) μ x0 h0 hs fun x hI=>?_;have:jt5 e I (fun x=>⟨f x,g x⟩) μ x (kq P e kss Q K)=LQ P e kss Q K I f g μ x:=by
  funext ex s
  cases ex <;> rfl
 rw[this];exact round x hI
theorem Qx.imR {x r:T} {st:Sto} (h:x=r) (hi:Kq x=true):Qx [] x st r []:=h ▸ .im hi
theorem jG9 {a b:Int}:(a≥b)=(b≤a):=rfl
theorem jg6 {a b:Bool}:(bif a then b else false)=(a&&b):=by cases a <;> rfl
theorem jH0 {a b:Bool}:(bif a then true else b)=(a||b):=by cases a <;> rfl
end
end Go.TL
namespace Go.TL
abbrev Ren:=List (Nat×Option Nat)
def rho (ρ:Ren) (i:Nat):Option Nat:=match TL.get ρ i with | some (some j)=>some j | _=>none
def ImXs (k:Nat) (xs:List T):Prop:=∀ x∈xs,x.cells.length=k∧imL x.cells=true
def ltS (o:Option Ob) (k n:Nat) (ys:List T):Prop:=match o with
 | some (.arr k' xs _)=>k'=k∧xs.length=n∧ys=xs∧ImXs k xs
 | _=>False
def ltV (o:Option Ob) (k n lo len:Nat) (ys:List T):Prop:=match o with
 | some (.arr k' xs _)=>k'=k∧xs.length=n∧ys=(xs.drop lo).take len∧lo+len≤n∧ImXs k xs
 | _=>False
def ltP (o:Option Ob) (n i j:Nat) (cs:List T):Prop:=match o with
 | some (.arr k xs _)=>xs.length=n∧i<n∧cs=(xs.getD i .junk).cells.drop j∧ImXs k xs
 | _=>False
def ltC0 (st:Sto) (ρ:Ren) (B:List Nat) (x y:T):Prop:=
 match y with
 | .junk=>True
 | .asl i' n'=>match x with
   | .asl i n=>TL.get ρ i'=some (some i)∧n=n'
   | .v (.slice none 0 0)=>TL.get ρ i'=some none∧n'=0
   | _=>False
 | .ptr i' n' a' b'=>match x with
   | .ptr i n a b=>TL.get ρ i'=some (some i)∧n=n'∧a=a'∧b=b'
   | _=>False
 | .sl k ys=>match x with
   | .asl i n=>i∈B∧ltS (TL.get st i) k n ys
   | .vw i n lo len=>i∈B∧ltV (TL.get st i) k n lo len ys
   | .v (.slice none 0 0)=>ys=[]
   | x=>x = .sl k ys
 | .ip cs=>match x with
   | .ptr i n a b=>i∈B∧ltP (TL.get st i) n a b cs
   | x=>x = .ip cs
 | .agg _=>False
 | .clo _ _=>False
 | .tup _=>False
 | .vw i' n' lo' len'=>match x with
   | .vw i n lo len=>TL.get ρ i'=some (some i)∧n=n'∧lo=lo'∧len=len'
   | .asl i n=>TL.get ρ i'=some (some i)∧n=n'∧lo'=0∧len'=n'
   | _=>False
 | .mp i'=>match x with
   | .mp i=>TL.get ρ i'=some (some i)
   | _=>False
 | y=>x=y
def qu0 (st:Sto) (ρ:Ren) (B:List Nat):List T→List T→Prop
 | [],[]=>True
 | x::xs,y::ys=>ltC0 st ρ B x y∧qu0 st ρ B xs ys
 | _,_=>False
def ltC (st:Sto) (ρ:Ren) (B:List Nat) (x y:T):Prop:=
 match y with
 | .clo f ys=>match x with | .clo g xs=>f=g∧qu0 st ρ B xs ys | _=>False
 | y=>ltC0 st ρ B x y
def ltCs (st:Sto) (ρ:Ren) (B:List Nat):List T→List T→Prop
 | [],[]=>True
 | x::xs,y::ys=>ltC st ρ B x y∧ltCs st ρ B xs ys
 | _,_=>False
def ltA (st:Sto) (ρ:Ren) (B:List Nat) (x y:T):Prop:=
 match y with
 | .agg ys=>match x with | .agg xs=>ltCs st ρ B xs ys | _=>False
 | .clo f ys=>match x with | .clo g xs=>f=g∧ltCs st ρ B xs ys | _=>False
 | y=>ltC st ρ B x y
def ltAs (st:Sto) (ρ:Ren) (B:List Nat):List T→List T→Prop
 | [],[]=>True
 | x::xs,y::ys=>ltA st ρ B x y∧ltAs st ρ B xs ys
 | _,_=>False
def ltT (st:Sto) (ρ:Ren) (B:List Nat) (x y:T):Prop:=
 match y with
 | .tup ys=>match x with | .tup xs=>ltAs st ρ B xs ys | _=>False
 | y=>ltA st ρ B x y
def ltXs (st:Sto) (ρ:Ren) (B:List Nat) (k:Nat) (xs ys:List T):Prop:=xs.length=ys.length∧∀ (i:Nat) (x y:T),xs[i]?=some x→ys[i]?=some y→x.cells.length=k∧y.cells.length=k∧ltCs st ρ B x.cells y.cells
def ltO1 (st:Sto) (ρ:Ren) (B:List Nat) (k:Nat) (ys:List T) (fz':Bool) (i:Nat) (o:Option Ob):Prop:=match o with
 | some (.arr k0 xs fz)=>k0=k∧(fz=true→fz'=true)∧ltXs st ρ B k xs ys∧(i∈B→fz'=true)
 | _=>False
def ltO2 (st:Sto) (ρ:Ren) (B:List Nat) (k:Nat) (ys:List T) (fz':Bool) (r:Option (Option Nat)):Prop:=match r with
 | some none=>ys=[]
 | some (some i)=>ltO1 st ρ B k ys fz' i (TL.get st i)
 | none=>False
def ltM (es:Es) (o:Option Ob):Prop:=match o with | some (.mp es')=>es'=es | _=>False
def ltM2 (st:Sto) (es:Es) (r:Option (Option Nat)):Prop:=match r with
 | some (some i)=>ltM es (TL.get st i)
 | _=>False
def wL (st:Sto) (ρ:Ren) (B:List Nat):Sto→Prop
 | []=>True
 | (i,.dead)::r=>wL st ρ B r
 | (i,.arr k ys fz')::r=>ltO2 st ρ B k ys fz' (TL.get ρ i)∧wL st ρ B r
 | (i,.mp es)::r=>ltM2 st es (TL.get ρ i)∧wL st ρ B r
 | (_,.full ..)::_=>False
def ltFr (st:Sto) (ρ:Ren) (B:List Nat) (fr:List (Nat×T)):List (Nat×T)→Prop
 | []=>True
 | (t,y)::r=>ltT st ρ B ((TL.get fr t).getD .junk) y∧ltFr st ρ B fr r
def wm (st':Sto) (ρ:Ren):Bool:=(ρ.all fun p=>(TL.get st' p.1).isSome)&&decide (ρ.filterMap (·.2)).Nodup
def zk1 (st':Sto) (ρ:Ren):Sto→Bool
 | []=>true
 | (i,_)::r=>(TL.get st' i).isSome&&(TL.get ρ i==some (some i))&&zk1 st' ρ r
section
variable {st st':Sto} {ρ:Ren} {B:List Nat} {d:Nat→Prop}
theorem Ja {α:Type} {l:List (Nat×α)} {i:Nat} {x:α} (h:TL.get l i=some x):(i,x)∈l:=by
 induction l with
 | nil=>cases h
 | cons p r ih=>
   obtain⟨j,y⟩:=p;simp only[TL.get] at h;split at h
   ·rename_i hj;subst hj;injection h with h;subst h;simp
   ·exact CQ _ (ih h)
theorem qu1 (h:wm st' ρ=true) {i:Nat} {x:Option Nat} (hi:TL.get ρ i=some x):TL.get st' i≠none:=by
 simp only[wm,Bq] at h;have:=Bk.1 h.1 (i,x) (Ja hi);intro hn;simp [hn] at this
theorem nodup_inj:∀ {ρ:Ren} {i1 i2 j:Nat},(ρ.filterMap (·.2)).Nodup→(i1,some j)∈ρ→(i2,some j)∈ρ→i1=i2
 | [],_,_,_,_,h,_=>by cases h
 | (i,x)::r,i1,i2,j,hn,h1,h2=>by
   cases x with
   | none=>
     simp only[List.filterMap_cons] at hn;simp only[Ck,Prod.mk.injEq,reduceCtorEq,and_false,false_or] at h1 h2;exact nodup_inj hn h1 h2
   | some y=>
     simp only[List.filterMap_cons,List.nodup_cons,List.mem_filterMap,not_exists,not_and] at hn;simp only[Ck,Prod.mk.injEq,Option.some.injEq] at h1 h2;rcases h1 with⟨rfl,rfl⟩ | h1
     ·rcases h2 with⟨rfl,_⟩ | h2
      ·rfl
      ·exact absurd rfl (hn.1 _ h2)
     ·rcases h2 with⟨rfl,rfl⟩ | h2
      ·exact absurd rfl (hn.1 _ h1)
      ·exact nodup_inj hn.2 h1 h2
theorem zk2 {k:Nat} {xs:List T} (h:ImXs k xs):(∀ x∈xs,x.cells.length=k)∧∀ c∈flat xs,imT c=true:=by
 refine⟨fun x hx=>(h x hx).1,fun c hc=>?_⟩;simp only[flat,Ek] at hc;obtain⟨x,hx,hc⟩:=hc;exact qt2 (h x hx).2 c hc
theorem qO7 (hd:∀ i x,TL.get ρ i=some x→d i) {x y:T} (h:ltC0 st ρ B x y):Lt st d (rho ρ) B x y:=by
 unfold ltC0 at h;split at h
 ·exact .junk x
 ·rename_i i' n';split at h
  ·obtain⟨h1,rfl⟩:=h;exact .asl _ _ _ (by simp [rho,h1]) (hd _ _ h1)
  ·obtain⟨h1,rfl⟩:=h;exact .ghost _ (by simp [rho,h1]) (hd _ _ h1)
  ·exact h.elim
 ·split at h
  ·obtain⟨h1,rfl,rfl,rfl⟩:=h;exact .ptr _ _ _ _ _ (by simp [rho,h1]) (hd _ _ h1)
  ·exact h.elim
 ·rename_i k ys;split at h
  ·rename_i i n;obtain⟨h1,h2⟩:=h;unfold ltS at h2;split at h2
   ·rename_i k' xs fz hg;obtain⟨rfl,rfl,rfl,h3⟩:=h2;obtain⟨h4,h5⟩:=zk2 h3;exact .shut _ _ _ _ _ fz h1 hg rfl rfl h4 (fun j c c' hc hc'=>by
     rw[hc] at hc';injection hc' with hc';subst hc'
     exact .im _ (h5 _ (BX hc))) h5
   ·exact h2.elim
  ·rename_i i n lo len;obtain⟨h1,h2⟩:=h;unfold ltV at h2;split at h2
   ·rename_i k' xs fz hg;obtain⟨rfl,rfl,rfl,hle,h3⟩:=h2;obtain⟨h4,h5⟩:=zk2 h3;have hsub:∀ c∈flat ((xs.drop lo).take len),imT c=true:=fun c hc=>by
     simp only[flat,Ek] at hc;obtain⟨y,hy,hc⟩:=hc;exact h5 c (by simp only[flat,Ek];exact⟨y,EW (EX hy),hc⟩)
    exact .shutv _ _ _ _ _ _ _ fz h1 hg rfl (by simp;omega) (fun y hy=>h4 y (EW (EX hy))) (fun j c c' hc hc'=>by
     rw[hc] at hc';injection hc' with hc';subst hc'
     exact .im _ (hsub _ (BX hc))) hsub
   ·exact h2.elim
  ·subst h;exact .nil k
  ·subst h;exact .im _ rfl
 ·rename_i cs;split at h
  ·rename_i i n a b;obtain⟨h1,h2⟩:=h;unfold ltP at h2;split at h2
   ·rename_i k xs fz hg;obtain⟨h3,h4,h5,h6⟩:=h2;refine .ptrip _ _ _ _ k xs _ fz h1 hg h3 h4 h5 fun c hc=>?_;subst h5;have hx:xs.getD a .junk∈xs:=by
     rw[CY,CK oM];exact AX _
    exact qt2 (h6 _ hx).2 c (EW hc)
   ·exact h2.elim
  ·subst h;exact .im _ rfl
 ·exact h.elim
 ·exact h.elim
 ·exact h.elim
 ·split at h
  ·obtain⟨h1,rfl,rfl,rfl⟩:=h;exact .vw _ _ _ _ _ (by simp [rho,h1]) (hd _ _ h1)
  ·obtain⟨h1,rfl,rfl,rfl⟩:=h;exact .aslv _ _ _ (by simp [rho,h1]) (hd _ _ h1)
  ·exact h.elim
 ·split at h
  ·exact .mp _ _ (by simp [rho,h]) (hd _ _ h)
  ·exact h.elim
 ·rename_i h1 h2 h3 h4 h9 h5 h6 h7 h8 h10;subst h;cases x with
  | v x=>exact .im _ rfl
  | ip cs=>exact absurd rfl (h9 _)
  | ub p q=>exact .im _ rfl
  | junk=>exact .junk _
  | asl=>exact absurd rfl (h2 _ _)
  | ptr=>exact absurd rfl (h3 _ _ _ _)
  | sl=>exact absurd rfl (h4 _ _)
  | agg=>exact absurd rfl (h5 _)
  | clo=>exact absurd rfl (h6 _ _)
  | tup=>exact absurd rfl (h7 _)
  | vw=>exact absurd rfl (h8 _ _ _ _)
  | mp=>exact absurd rfl (h10 _)
theorem qu2 (hd:∀ i x,TL.get ρ i=some x→d i):∀ {xs ys:List T},qu0 st ρ B xs ys→xs.length=ys.length∧∀ (j:Nat) (c c':T),xs[j]?=some c→ys[j]?=some c'→Lt st d (rho ρ) B c c'
 | [],[],_=>⟨rfl,fun j c c' h=>by simp at h⟩
 | [],_::_,h=>h.elim
 | _::_,[],h=>h.elim
 | x::xs,y::ys,h=>by
   obtain⟨h1,h2⟩:=h;obtain⟨h3,h4⟩:=qu2 hd h2;refine⟨by simp [h3],fun j c c' hc hc'=>?_⟩;cases j with
   | zero=>simp at hc hc';subst hc hc';exact qO7 hd h1
   | succ j=>exact h4 j c c' (by simpa using hc) (by simpa using hc')
theorem zk3 (hd:∀ i x,TL.get ρ i=some x→d i) {x y:T} (h:ltC st ρ B x y):Lt st d (rho ρ) B x y:=by
 unfold ltC at h;split at h
 ·split at h
  ·obtain⟨rfl,h⟩:=h;obtain⟨h1,h2⟩:=qu2 hd h;exact .clo _ _ _ h1 h2
  ·exact h.elim
 ·exact qO7 hd h
theorem Wi (hd:∀ i x,TL.get ρ i=some x→d i):∀ {xs ys:List T},ltCs st ρ B xs ys→xs.length=ys.length∧∀ (j:Nat) (c c':T),xs[j]?=some c→ys[j]?=some c'→Lt st d (rho ρ) B c c'
 | [],[],_=>⟨rfl,fun j c c' h=>by simp at h⟩
 | [],_::_,h=>h.elim
 | _::_,[],h=>h.elim
 | x::xs,y::ys,h=>by
   obtain⟨h1,h2⟩:=h;obtain⟨h3,h4⟩:=Wi hd h2;refine⟨by simp [h3],fun j c c' hc hc'=>?_⟩;cases j with
   | zero=>simp at hc hc';subst hc hc';exact zk3 hd h1
   | succ j=>exact h4 j c c' (by simpa using hc) (by simpa using hc')
theorem zk4 (hd:∀ i x,TL.get ρ i=some x→d i) {x y:T} (h:ltA st ρ B x y):Lt st d (rho ρ) B x y:=by
 unfold ltA at h;split at h
 ·split at h
  ·obtain⟨h1,h2⟩:=Wi hd h;exact .agg _ _ h1 h2
  ·exact h.elim
 ·split at h
  ·obtain⟨rfl,h⟩:=h;obtain⟨h1,h2⟩:=Wi hd h;exact .clo _ _ _ h1 h2
  ·exact h.elim
 ·exact zk3 hd h
theorem qg8 (hd:∀ i x,TL.get ρ i=some x→d i):∀ {xs ys:List T},ltAs st ρ B xs ys→xs.length=ys.length∧∀ (j:Nat) (c c':T),xs[j]?=some c→ys[j]?=some c'→Lt st d (rho ρ) B c c'
 | [],[],_=>⟨rfl,fun j c c' h=>by simp at h⟩
 | [],_::_,h=>h.elim
 | _::_,[],h=>h.elim
 | x::xs,y::ys,h=>by
   obtain⟨h1,h2⟩:=h;obtain⟨h3,h4⟩:=qg8 hd h2;refine⟨by simp [h3],fun j c c' hc hc'=>?_⟩;cases j with
   | zero=>simp at hc hc';subst hc hc';exact zk4 hd h1
   | succ j=>exact h4 j c c' (by simpa using hc) (by simpa using hc')
theorem zk5 (hd:∀ i x,TL.get ρ i=some x→d i) {x y:T} (h:ltT st ρ B x y):Lt st d (rho ρ) B x y:=by
 unfold ltT at h;split at h
 ·split at h
  ·obtain⟨h1,h2⟩:=qg8 hd h;exact .tup _ _ h1 h2
  ·exact h.elim
 ·exact zk4 hd h
theorem zk6 {k:Nat} {xs ys:List T} (h:ltXs st ρ B k xs ys) (hd:∀ i x,TL.get ρ i=some x→d i):(∀ y∈ys,y.cells.length=k)∧∀ (j:Nat) (c c':T),(flat xs)[j]?=some c→(flat ys)[j]?=some c'→Lt st d (rho ρ) B c c':=by
 obtain⟨hl,h⟩:=h;have hx:∀ x∈xs,x.cells.length=k:=by
  intro x hx;obtain⟨i,hi,rfl⟩:=CX hx;exact (h i xs[i] (ys[i]'oM) sMp sMp).1
 have hy:∀ y∈ys,y.cells.length=k:=by
  intro y hy;obtain⟨i,hi,rfl⟩:=CX hy;exact (h i (xs[i]'oM) ys[i] sMp sMp).2.1
 refine⟨hy,fun j c c' hc hc'=>?_⟩;have hj:j<xs.length*k:=by rw[← qH hx];exact (List.getElem?_eq_some_iff.1 hc).1
 have hk:0<k:=by
  rcases DQ k with h0 | h0
  ·rw[h0] at hj;simp at hj
  ·exact h0
 have hi:j / k<xs.length:=by rw[Nat.div_lt_iff_lt_mul hk];exact hj
 have he:j=(j / k)*k+j % k:=by rw[Nat.mul_comm];exact (Nat.div_add_mod j k).symm
 have at1:∀ {zs:List T},(∀ z∈zs,z.cells.length=k)→∀ (i m:Nat) (z:T),zs[i]?=some z→m<k→(flat zs)[i*k+m]?=z.cells[m]?:=by
  intro zs
  induction zs with
  | nil=>intro _ i m z hz;simp at hz
  | cons z0 zs ih=>
    intro hk' i m z hz hm;have hz0:=hk' z0 sMp;simp only[flat,Gq];cases i with
    | zero=>simp at hz;subst hz;rw[BK oM];simp
    | succ i=>
      rw[BJ (by rw[hz0,Nat.succ_mul];omega),hz0,show (i+1)*k+m-k=i*k+m by rw[Nat.succ_mul];omega];exact ih (fun z hz=>hk' z (by simp [hz])) i m z (by simpa using hz) hm
 rw[he,at1 hx (j / k) (j % k) xs[j / k] (by simp [hi]) (Nat.mod_lt _ hk)] at hc;rw[he,at1 hy (j / k) (j % k) (ys[j / k]'oM) sMp (Nat.mod_lt _ hk)] at hc';have h3:=(h (j / k) xs[j / k] (ys[j / k]'oM) (by simp [hi]) sMp).2.2;exact (Wi hd h3).2 _ c c' hc hc'
theorem qa6:∀ {l:Sto},wL st ρ B l→∀ {i k:Nat} {ys:List T} {fz:Bool},TL.get l i=some (.arr k ys fz)→ltO2 st ρ B k ys fz (TL.get ρ i)
 | [],_,i,k,ys,fz,h=>by cases h
 | (j,.dead)::r,hs,i,k,ys,fz,h=>by
   simp only[TL.get] at h;split at h
   ·injection h with h;cases h
   ·exact qa6 (l:=r) hs h
 | (j,.arr k0 y0 f0)::r,hs,i,k,ys,fz,h=>by
   simp only[TL.get] at h;split at h
   ·rename_i hj;subst hj;injection h with h;injection h with h1 h2 h3;subst h1 h2 h3;exact hs.1
   ·exact qa6 (l:=r) hs.2 h
 | (j,.mp es)::r,hs,i,k,ys,fz,h=>by
   simp only[TL.get] at h;split at h
   ·injection h with h;cases h
   ·exact qa6 (l:=r) hs.2 h
 | (j,.full ..)::r,hs,i,k,ys,fz,h=>hs.elim
theorem qq4:∀ {l:Sto},wL st ρ B l→∀ {i:Nat} {es:Es},TL.get l i=some (.mp es)→ltM2 st es (TL.get ρ i)
 | [],_,i,es,h=>by cases h
 | (j,.dead)::r,hs,i,es,h=>by
   simp only[TL.get] at h;split at h
   ·injection h with h;cases h
   ·exact qq4 (l:=r) hs h
 | (j,.arr k0 y0 f0)::r,hs,i,es,h=>by
   simp only[TL.get] at h;split at h
   ·injection h with h;cases h
   ·exact qq4 (l:=r) hs.2 h
 | (j,.mp es0)::r,hs,i,es,h=>by
   simp only[TL.get] at h;split at h
   ·rename_i hj;subst hj;injection h with h;injection h with h;subst h;exact hs.1
   ·exact qq4 (l:=r) hs.2 h
 | (j,.full ..)::r,hs,i,es,h=>hs.elim
theorem qq5:∀ {l:Sto},wL st ρ B l→∀ {i:Nat} {a b:Nat} {g:Bool},TL.get l i≠some (.full a b g)
 | [],_,i,a,b,g,h=>by cases h
 | (j,.dead)::r,hs,i,a,b,g,h=>by
   simp only[TL.get] at h;split at h
   ·injection h with h;cases h
   ·exact qq5 (l:=r) hs h
 | (j,.arr k0 y0 f0)::r,hs,i,a,b,g,h=>by
   simp only[TL.get] at h;split at h
   ·injection h with h;cases h
   ·exact qq5 (l:=r) hs.2 h
 | (j,.mp es0)::r,hs,i,a,b,g,h=>by
   simp only[TL.get] at h;split at h
   ·injection h with h;cases h
   ·exact qq5 (l:=r) hs.2 h
 | (j,.full ..)::r,hs,i,a,b,g,h=>hs.elim
theorem zk7:∀ {l:Sto},zk1 st' ρ l=true→∀ {i:Nat},TL.get l i≠none→TL.get st' i≠none∧TL.get ρ i=some (some i)
 | [],_,i,h=>by simp [TL.get] at h
 | (j,o)::r,hh,i,h=>by
   simp only[zk1,Bq,AY] at hh;simp only[TL.get] at h;split at h
   ·rename_i hj;subst hj;exact⟨by intro hn;simp [hn] at hh,hh.1.2⟩
   ·exact zk7 hh.2 h
theorem jL2 {e:Env} {fr fr':List (Nat×T)} (hr:wm st' ρ=true) (hh:zk1 st' ρ e.st0=true) (hs:wL st ρ B st') (hf:ltFr st ρ B fr fr'):LeS e ⟨fr,st⟩ ⟨fr',st'⟩ (rho ρ) B where
 o:={
  ob:=fun i k ys fz hg=>by
   have h:=qa6 hs hg;unfold ltO2 at h;split at h
   ·rename_i hρ;exact .inl ⟨by simp [rho,hρ],h⟩
   ·rename_i j hρ;unfold ltO1 at h;split at h
    ·rename_i k0 xs f0 hg0;obtain⟨rfl,h2,h3,h4⟩:=h;obtain⟨h5,h6⟩:=zk6 h3 (fun _ _ h=>qu1 hr h);exact .inr ⟨j,xs,f0,by simp [rho,hρ],hg0,h3.1,h2,h5,h6,h4⟩
    ·exact h.elim
   ·exact h.elim
  inj:=fun i1 i2 j _ _ h1 h2=>by
   simp only[wm,Bq,AZ] at hr;unfold rho at h1 h2;split at h1
   ·rename_i j1 g1;split at h2
    ·rename_i j2 g2;injection h1 with h1;injection h2 with h2;subst h1 h2;exact nodup_inj hr.2 (Ja g1) (Ja g2)
    ·cases h2
   ·cases h1
  mp:=fun i es hg=>by
   have h:=qq4 hs hg;unfold ltM2 at h;split at h
   ·rename_i j hρ;unfold ltM at h;split at h
    ·rename_i es' hg0;subst h;exact⟨j,by simp [rho,hρ],hg0⟩
    ·exact h.elim
   ·exact h.elim
  nf:=fun i a b g=>qq5 hs }
 fr:=by
  intro t y hy;have:∀ {l:List (Nat×T)},ltFr st ρ B fr l→TL.get l t=some y→ltT st ρ B ((TL.get fr t).getD .junk) y:=by
   intro l
   induction l with
   | nil=>intro _ h;cases h
   | cons p r ih=>
     obtain⟨u,z⟩:=p;intro h hg;simp only[TL.get] at hg;split at hg
     ·rename_i hu;subst hu;injection hg with hg;subst hg;exact h.1
     ·exact ih h.2 hg
  exact zk5 (fun _ _ h=>qu1 hr h) (this hf hy)
 hnd:=fun id hd=>by
  obtain⟨h1,h2⟩:=zk7 hh hd;exact⟨h1,fun k xs fz _=>by simp [rho,h2],fun es _=>by simp [rho,h2]⟩
theorem Le.of {e:Env} {fr fr':List (Nat×T)} (ρ:Ren) (B:List Nat) (hr:wm st' ρ=true) (hh:zk1 st' ρ e.st0=true) (hs:wL st ρ B st') (hf:ltFr st ρ B fr fr'):Le e ⟨fr,st⟩ ⟨fr',st'⟩:=(jL2 hr hh hs hf).le
theorem Qx.of {st0:Sto} {x r:T} (ρ:Ren) (B:List Nat) (hr:wm st' ρ=true) (hh:zk1 st' ρ st0=true) (hs:wL st ρ B st') (hf:ltT st ρ B x r):Qx st0 x st r st':=
 .les ⟨rho ρ,B,jL2 hr hh hs ⟨by simpa [TL.get] using hf,trivial⟩⟩
theorem Qx.cut {st0:Sto} {x r:T} {st st':Sto} (id nid m:Nat) {k:Nat} {xs:List T} (hg:TL.get st id=some (.arr k xs false)) (hn:TL.get st nid=none) (hm:m≤xs.length)
 (h:Qx st0 (cut2 id nid xs.length m x) (Wr id nid m k xs st) r st'):Qx st0 x st r st':=
 fun e he=>(Le.cut id nid m hg hn hm).trans (h e he)
theorem qa7 {x:T} (h:imT0 x=true):ltC0 st ρ B x x:=by
 cases x <;> first | (simp [imT0] at h;done) | trivial | rfl
theorem zk8:∀ {l:List T},ze4 l=true→qu0 st ρ B l l
 | [],_=>trivial
 | c::r,h=>by
   simp only[ze4,Bq] at h;exact⟨qa7 h.1,zk8 h.2⟩
theorem jg7 {x:T} (h:imT x=true):ltC st ρ B x x:=by
 cases x with
 | clo f cs=>exact⟨rfl,zk8 h⟩
 | v a=>exact qa7 (st:=st) (ρ:=ρ) (B:=B) (x:=.v a) h
 | sl k xs=>exact qa7 (st:=st) (ρ:=ρ) (B:=B) (x:=.sl k xs) h
 | ip cs=>exact qa7 (st:=st) (ρ:=ρ) (B:=B) (x:=.ip cs) h
 | junk=>trivial
 | ub p q=>exact qa7 (st:=st) (ρ:=ρ) (B:=B) (x:=.ub p q) h
 | _=>simp [imT,imT0] at h
theorem jV {k:Nat} {xs:List T} (h:ImXs k xs):ltXs st ρ B k xs xs:=by
 refine⟨rfl,fun i x y hx hy=>?_⟩;rw[hx] at hy;injection hy with hy;subst hy
 obtain⟨h1,h2⟩:=h x (BX hx);refine⟨h1,h1,?_⟩;clear h1 hx;have:∀ l:List T,imL l=true→ltCs st ρ B l l:=by
  intro l
  induction l with
  | nil=>intro _;trivial
  | cons c r ih=>
    intro hl;simp only[imL,Bq] at hl;refine⟨?_,ih hl.2⟩;exact jg7 hl.1
 exact this _ h2
theorem zq {k:Nat}:ltXs st ρ B k [] []:=⟨rfl,fun i x y hx=>by simp at hx⟩
theorem zg {k:Nat} {a b c d:List T} (h1:ltXs st ρ B k a c) (h2:ltXs st ρ B k b d):ltXs st ρ B k (a++b) (c++d):=by
 refine⟨by simp [h1.1,h2.1],fun i x y hx hy=>?_⟩;by_cases hi:i<a.length
 ·rw[BK hi] at hx;rw[BK (by rw[← h1.1];exact hi)] at hy;exact h1.2 i x y hx hy
 ·rw[BJ oM] at hx;rw[BJ (by rw[← h1.1];omega),← h1.1] at hy;exact h2.2 _ x y hx hy
theorem zf {k:Nat} {x y:T} {xs ys:List T} (h0:x.cells.length=k∧y.cells.length=k∧ltCs st ρ B x.cells y.cells) (h:ltXs st ρ B k xs ys):ltXs st ρ B k (x::xs) (y::ys):=by
 have h1:ltXs st ρ B k [x] [y]:=by
  refine⟨rfl,fun i a b ha hb=>?_⟩;cases i with
  | zero=>simp at ha hb;subst ha hb;exact h0
  | succ i=>simp at ha
 exact zg h1 h
theorem qV {α:Type} {k:Nat} {f:α→T} (h:∀ a,(f a).cells.length=k∧imL (f a).cells=true) (l:List α):ImXs k (l.map f):=by
 intro x hx;simp only[Cj] at hx;obtain⟨n,_,rfl⟩:=hx;exact h n
end
end Go.TL
namespace Go.TL
def wrO (st st1 st1':Sto) (ρ1 ρ2:Ren) (id k:Nat) (ys:List T) (fz:Bool) (r:Option (Option Nat)):Prop:=match r with
 | none=>fz=true∧(match TL.get st id with | some (.arr k0 xs _)=>k0=k∧xs=ys | _=>False)∧(∀ p∈ρ1,p.2≠some id)
 | some (some i')=>ltO1 st1' ρ2 [] k ys fz i' (TL.get st1' i')∧(TL.get st id=none∨(TL.get ρ1 i'=some (some id)∧(TL.get st1 i').isSome=true))
 | some none=>False
def wrOk (st st1 st1':Sto) (ρ1 ρ2:Ren):List (Nat×Ob)→Prop
 | []=>True
 | (_,.dead)::r=>wrOk st st1 st1' ρ1 ρ2 r
 | (id,.arr k ys fz)::r=>wrO st st1 st1' ρ1 ρ2 id k ys fz (TL.get ρ2 id)∧wrOk st st1 st1' ρ1 ρ2 r
 | _::_=>False
def zw3:List (Nat×Ob)→Ren→Bool
 | [],_=>true
 | (_,.dead)::r,ρ=>zw3 r ρ
 | (id,.arr _ ys _)::r,ρ=>((rho ρ id).isNone||(flat ys).all noA1)&&zw3 r ρ
 | _::_,_=>false
def fzOk (wr:Sto):List Nat→Bool
 | []=>true
 | i::r=>(match TL.get wr i with | some (.arr _ _ true)=>true | _=>false)&&fzOk wr r
section
variable {P:Program} {st st1 st1':Sto} {ρ1 ρ2:Ren} {B:List Nat} {wr:List (Nat×Ob)}
theorem qT9:∀ {l:List (Nat×Ob)},wrOk st st1 st1' ρ1 ρ2 l→∀ {i k:Nat} {ys:List T} {fz:Bool},TL.get l i=some (.arr k ys fz)→wrO st st1 st1' ρ1 ρ2 i k ys fz (TL.get ρ2 i)
 | [],_,i,k,ys,fz,h=>by cases h
 | (j,.dead)::r,hs,i,k,ys,fz,h=>by
   simp only[TL.get] at h;split at h
   ·injection h with h;cases h
   ·exact qT9 (l:=r) hs h
 | (j,.arr k0 y0 f0)::r,hs,i,k,ys,fz,h=>by
   simp only[TL.get] at h;split at h
   ·rename_i hj;subst hj;injection h with h;injection h with h1 h2 h3;subst h1 h2 h3;exact hs.1
   ·exact qT9 (l:=r) hs.2 h
theorem zw4:∀ {l:List (Nat×Ob)},wrOk st st1 st1' ρ1 ρ2 l→∀ {i:Nat} {es:Es},TL.get l i=some (.mp es)→False
 | [],_,i,es,h=>by cases h
 | (j,.dead)::r,hs,i,es,h=>by
   simp only[TL.get] at h;split at h
   ·injection h with h;cases h
   ·exact zw4 (l:=r) hs h
 | (j,.arr k0 y0 f0)::r,hs,i,es,h=>by
   simp only[TL.get] at h;split at h
   ·injection h with h;cases h
   ·exact zw4 (l:=r) hs.2 h
 | (j,.mp _)::r,hs,i,es,h=>hs.elim
 | (j,.full ..)::r,hs,i,es,h=>hs.elim
theorem zw5:∀ {l:List (Nat×Ob)},wrOk st st1 st1' ρ1 ρ2 l→∀ {i a b:Nat} {g:Bool},TL.get l i=some (.full a b g)→False
 | [],_,i,a,b,g,h=>by cases h
 | (j,.dead)::r,hs,i,a,b,g,h=>by
   simp only[TL.get] at h;split at h
   ·injection h with h;cases h
   ·exact zw5 (l:=r) hs h
 | (j,.arr k0 y0 f0)::r,hs,i,a,b,g,h=>by
   simp only[TL.get] at h;split at h
   ·injection h with h;cases h
   ·exact zw5 (l:=r) hs.2 h
 | (j,.mp _)::r,hs,i,a,b,g,h=>hs.elim
 | (j,.full ..)::r,hs,i,a,b,g,h=>hs.elim
theorem qu3:∀ {l:List (Nat×Ob)} {ρ:Ren},zw3 l ρ=true→∀ {i k:Nat} {ys:List T} {fz:Bool},TL.get l i=some (.arr k ys fz)→rho ρ i≠none→∀ c∈flat ys,noA1 c=true
 | [],ρ,_,i,k,ys,fz,h=>by cases h
 | (j,.dead)::r,ρ,hs,i,k,ys,fz,h=>by
   simp only[TL.get] at h;split at h
   ·injection h with h;cases h
   ·exact qu3 (l:=r) hs h
 | (j,.arr k0 y0 f0)::r,ρ,hs,i,k,ys,fz,h=>by
   simp only[zw3,Bq,DZ] at hs;simp only[TL.get] at h;split at h
   ·rename_i hj;subst hj;injection h with h;injection h with h1 h2 h3;subst h1 h2 h3;intro hn c hc;rcases hs.1 with h1 | h1
    ·rw[Option.isNone_iff_eq_none] at h1;exact absurd h1 hn
    ·exact Bk.1 h1 c hc
   ·exact qu3 (l:=r) hs.2 h
theorem zJ4 {wr:Sto}:∀ {B:List Nat},fzOk wr B=true→∀ i∈B,∃ k xs,TL.get wr i=some (.arr k xs true)
 | [],_,i,h=>by simp at h
 | j::r,h,i,hi=>by
   simp only[fzOk,Bq] at h;rcases Ck.1 hi with rfl | hi
   ·have h1:=h.1;split at h1
    ·rename_i k xs hg;exact⟨k,xs,hg⟩
    ·cases h1
   ·exact zJ4 h.2 i hi
def qg9:Ren→Bool
 | []=>true
 | (_,some _)::r=>qg9 r
 | _=>false
theorem qu4:∀ {ρ:Ren},qg9 ρ=true→∀ {i:Nat} {x:Option Nat},TL.get ρ i=some x→∃ j,x=some j
 | [],_,i,x,h=>by cases h
 | (j,none)::r,hs,i,x,h=>by simp [qg9] at hs
 | (j,some y)::r,hs,i,x,h=>by
   simp only[TL.get] at h;split at h
   ·injection h with h;exact⟨y,h.symm⟩
   ·exact qu4 (ρ:=r) hs h
theorem QF {ρ:Ren} {i j:Nat}:rho ρ i=some j↔TL.get ρ i=some (some j):=by
 unfold rho;cases h:TL.get ρ i with
 | none=>simp
 | some x=>cases x <;> simp
theorem jL3 {st':Sto} {ρ:Ren} (h:wm st' ρ=true) {i1 i2 j:Nat} (h1:rho ρ i1=some j) (h2:rho ρ i2=some j):i1=i2:=by
 simp only[wm,Bq,AZ] at h;exact nodup_inj h.2 (Ja (QF.1 h1)) (Ja (QF.1 h2))
theorem zw6 {ρ:Ren} {i j:Nat} (h:rho ρ i=some j):(ρ.map (·.2)).contains (some j)=true:=by
 simp only[List.contains_eq_mem,AZ,Cj];exact⟨_,Ja (QF.1 h),rfl⟩
def ptw (R:T→T→Prop):List T→List T→Prop
 | [],[]=>True
 | x::xs,y::ys=>R x y∧ptw R xs ys
 | _,_=>False
def ltD (st:Sto) (B:List Nat):Nat→T→T→Prop
 | 0,x,y=>x=y∧imT x=true
 | d+1,x,y=>match y with
   | .sl k ys=>match x with
     | .asl i n=>i∈B∧(match TL.get st i with
       | some (.arr k' xs _)=>k'=k∧xs.length=n∧ptw (fun a b=>a.cells.length=k∧b.cells.length=k∧imL b.cells=true∧ptw (ltD st B d) a.cells b.cells) xs ys
       | _=>False)
     | .v (.slice none 0 0)=>ys=[]
     | x=>x = .sl k ys
   | y=>x=y∧imT x=true
def ltAD (st:Sto) (B:List Nat) (x y:T):Prop:=
 match y with
 | .agg ys=>match x with | .agg xs=>ptw (ltD st B 3) xs ys | _=>False
 | y=>ltD st B 3 x y
theorem qh0 {R:T→T→Prop}:∀ {xs ys:List T},ptw R xs ys→xs.length=ys.length∧∀ (j:Nat) (c c':T),xs[j]?=some c→ys[j]?=some c'→R c c'
 | [],[],_=>⟨rfl,fun j c c' h=>by simp at h⟩
 | [],_::_,h=>h.elim
 | _::_,[],h=>h.elim
 | x::xs,y::ys,h=>by
   obtain⟨h1,h2⟩:=h;obtain⟨h3,h4⟩:=qh0 h2;refine⟨by simp [h3],fun j c c' hc hc'=>?_⟩;cases j with
   | zero=>simp at hc hc';subst hc hc';exact h1
   | succ j=>exact h4 j c c' (by simpa using hc) (by simpa using hc')
theorem zJ5 {R:T→T→Prop} {k:Nat}:∀ {xs ys:List T},ptw (fun a b=>a.cells.length=k∧b.cells.length=k∧imL b.cells=true∧ptw R a.cells b.cells) xs ys→ptw R (flat xs) (flat ys)∧(∀ y∈ys,y.cells.length=k)∧∀ c∈flat ys,imT c=true
 | [],[],_=>⟨trivial,sMp,by simp [flat]⟩
 | [],_::_,h=>h.elim
 | _::_,[],h=>h.elim
 | x::xs,y::ys,h=>by
   obtain⟨⟨h1,h2,h3,h4⟩,h5⟩:=h;obtain⟨q1,q2,q3⟩:=zJ5 h5;have app:∀ {a b c d:List T},ptw R a b→ptw R c d→ptw R (a++c) (b++d):=by
    intro a
    induction a with
    | nil=>intro b c d h h';cases b with | nil=>exact h' | cons _ _=>exact h.elim
    | cons x a ih=>intro b c d h h';cases b with | nil=>exact h.elim | cons _ _=>exact⟨h.1,ih h.2 h'⟩
   refine⟨by simp only[flat,Gq];exact app h4 q1,?_,?_⟩
   ·intro z hz;rcases Ck.1 hz with rfl | hz
    ·exact h2
    ·exact q2 z hz
   ·intro c hc;simp only[flat,Gq,Dz] at hc;rcases hc with hc | hc
    ·exact qt2 h3 c hc
    ·exact q3 c hc
theorem qu5 {st:Sto} {B:List Nat} {d:Nat→Prop} {ρ:Nat→Option Nat}:∀ {n:Nat} {x y:T},ltD st B n x y→Lt st d ρ B x y
 | 0,x,y,h=>by obtain⟨rfl,h⟩:=h;exact .im _ h
 | n+1,x,y,h=>by
   unfold ltD at h;split at h
   ·rename_i k ys;split at h
    ·rename_i i m;obtain⟨h1,h2⟩:=h;split at h2
     ·rename_i k' xs fz hg;obtain⟨rfl,rfl,h3⟩:=h2;obtain⟨q1,q2,q3⟩:=zJ5 h3;exact .shut _ _ _ _ _ fz h1 hg rfl (qh0 h3).1.symm q2 (fun j c c' hc hc'=>qu5 ((qh0 q1).2 j c c' hc hc')) q3
     ·exact h2.elim
    ·subst h;exact .nil k
    ·subst h;exact .im _ rfl
   ·obtain⟨rfl,h⟩:=h;exact .im _ h
theorem zR1 {st:Sto} {B:List Nat} {d:Nat→Prop} {ρ:Nat→Option Nat} {x y:T} (h:ltAD st B x y):Lt st d ρ B x y:=by
 unfold ltAD at h;split at h
 ·split at h
  ·obtain⟨h1,h2⟩:=qh0 h;exact .agg _ _ h1 fun j c c' hc hc'=>qu5 (h2 j c c' hc hc')
  ·exact h.elim
 ·exact qu5 h
theorem qT5.ofL {fid:FuncId} {caps xs ts':List T} {r val:T} (ρ1 ρ2:Ren) (B:List Nat) (wr:List (Nat×Ob)) (hs:Spc P fid ts' st1 r st1')
 (hes:(xs++caps).length=ts'.length∧∀ (j:Nat) (c c':T),(xs++caps)[j]?=some c→ts'[j]?=some c'→Lt st (fun i=>TL.get st1 i≠none) (rho ρ1) B c c') (h1:wm st1 ρ1=true) (ho:wL st ρ1 B st1) (hB:(B.all fun i=>!(ρ1.map (·.2)).contains (some i))=true)
 (hk:(ρ1.all fun p=>match p.2 with | some i=>(TL.get wr i).isSome | none=>true)=true)
 (hw:wrOk st st1 st1' ρ1 ρ2 wr) (h2:wm wr ρ2=true) (h3:qg9 ρ2=true) (hv:ltT st1' ρ2 [] r val)
 (hf:fzOk (wr++st) B=true∨(noA2 val=true∧zw3 wr ρ2=true)):qT5 P st (.clo fid caps) xs val wr (B++wr.map (·.1)):=by
 have d1:∀ i x,TL.get ρ1 i=some x→TL.get st1 i≠none:=fun _ _ h=>qu1 h1 h;have d2:∀ i x,TL.get ρ2 i=some x→TL.get wr i≠none∧rho ρ2 i≠none:=fun i x h=>⟨qu1 h2 h,by
  obtain⟨j,rfl⟩:=qu4 h3 h;rw[QF.2 h];simp⟩
 refine .inl ⟨fid,caps,ts',st1,st1',r,rho ρ1,rho ρ2,B,rfl,hs,?_⟩;refine⟨hes.1,hes.2,(jL2 (e:={ S:=fun _=>False,base:=0,hnd:=fun _=>False,w0:=default,n:=1,st0:=[] }) (fr:=[]) (fr':=[]) h1 rfl ho trivial).o,fun id hid=>⟨by simp [hid],fun id' hd hr=>?_⟩,fun id' id hd hr=>?_,fun id ob hg=>?_,fun i1 i2 id' _ _ g1 g2=>jL3 h2 g1 g2,zk5 d2 hv,?_⟩
 ·have h5:=Bk.1 hB id hid;rw[zw6 hr] at h5;simp at h5
 ·have h5:=Bk.1 hk _ (Ja (QF.1 hr));intro hn;simp [hn] at h5
 ·refine⟨by simp only[Dz,Cj];exact .inr ⟨_,Ja hg,rfl⟩,?_⟩;cases ob with
  | dead=>exact .inl rfl
  | mp es=>exact (zw4 hw hg).elim
  | full i n g=>exact (zw5 hw hg).elim
  | arr k ys fz=>
    have h5:=qT9 hw hg;unfold wrO at h5;split at h5
    ·rename_i h6;obtain⟨rfl,h7,h8⟩:=h5;split at h7
     ·rename_i k0 x0 f0 hg0;obtain⟨rfl,rfl⟩:=h7;refine .inr (.inl ⟨_,_,f0,rfl,hg0,by simp [rho,h6],fun id' hd hr=>?_⟩);exact h8 _ (Ja (QF.1 hr)) rfl
     ·exact h7.elim
    ·rename_i i' h6;obtain⟨h7,h8⟩:=h5;unfold ltO1 at h7;split at h7
     ·rename_i k0 xs f0 hg0;obtain⟨rfl,h9,h10,h11⟩:=h7;obtain⟨h12,h13⟩:=zk6 h10 d2;refine .inr (.inr ⟨k0,ys,fz,i',xs,f0,rfl,QF.2 h6,hg0,h10.1,h9,h12,h13,?_⟩);rcases h8 with h8 | ⟨h8,h14⟩
      ·exact .inl h8
      ·refine .inr ⟨QF.2 h8,?_⟩;intro hn;simp [hn] at h14
     ·exact h7.elim
    ·exact h5.elim
 ·rcases hf with hf | ⟨hf,hg⟩
  ·exact .inl (zJ4 hf)
  ·exact .inr ⟨hf,fun id k xs fz hw0 hr=>qu3 hg hw0 hr⟩
theorem qT5.of {fid:FuncId} {caps xs ts':List T} {r val:T} (ρ1 ρ2:Ren) (B:List Nat) (wr:List (Nat×Ob)) (hs:Spc P fid ts' st1 r st1')
 (ha:ltAs st ρ1 B (xs++caps) ts') (h1:wm st1 ρ1=true) (ho:wL st ρ1 B st1) (hB:(B.all fun i=>!(ρ1.map (·.2)).contains (some i))=true)
 (hk:(ρ1.all fun p=>match p.2 with | some i=>(TL.get wr i).isSome | none=>true)=true)
 (hw:wrOk st st1 st1' ρ1 ρ2 wr) (h2:wm wr ρ2=true) (h3:qg9 ρ2=true) (hv:ltT st1' ρ2 [] r val)
 (hf:fzOk (wr++st) B=true∨(noA2 val=true∧zw3 wr ρ2=true)):qT5 P st (.clo fid caps) xs val wr (B++wr.map (·.1)):=
 .ofL ρ1 ρ2 B wr hs (qg8 (fun _ _ h=>qu1 h1 h) ha) h1 ho hB hk hw h2 h3 hv hf
theorem qa8 {st:Sto} {ρ:Ren} {B:List Nat} {x:T} (h:imT x=true):ltC st ρ B x x:=by
 exact jg7 h
theorem zh {st:Sto} {ρ:Ren} {B:List Nat}:∀ {l:List T},imL l=true→ltCs st ρ B l l
 | [],_=>trivial
 | c::r,h=>by
   simp only[imL,Bq] at h;exact⟨qa8 h.1,zh h.2⟩
theorem Ks {st:Sto} {ρ:Ren} {B:List Nat} {x:T} (h:imA x=true):ltA st ρ B x x:=by
 cases x with
 | agg cs=>exact zh h
 | clo f cs=>exact⟨rfl,zh h⟩
 | tup cs=>simp [imA,imT,imT0] at h
 | junk=>trivial
 | v a=>exact qa8 (st:=st) (ρ:=ρ) (B:=B) (x:=.v a) h
 | sl k xs=>exact qa8 (st:=st) (ρ:=ρ) (B:=B) (x:=.sl k xs) h
 | ptr a b c d=>exact qa8 (st:=st) (ρ:=ρ) (B:=B) (x:=.ptr a b c d) h
 | ip cs=>exact qa8 (st:=st) (ρ:=ρ) (B:=B) (x:=.ip cs) h
 | asl a b=>exact qa8 (st:=st) (ρ:=ρ) (B:=B) (x:=.asl a b) h
 | ub a b=>exact qa8 (st:=st) (ρ:=ρ) (B:=B) (x:=.ub a b) h
 | vw a b c d=>exact qa8 (st:=st) (ρ:=ρ) (B:=B) (x:=.vw a b c d) h
 | mp a=>exact qa8 (st:=st) (ρ:=ρ) (B:=B) (x:=.mp a) h
theorem qu6 {st:Sto} {ρ:Ren} {B:List Nat}:∀ {l:List T},imAL l=true→ltAs st ρ B l l
 | [],_=>trivial
 | c::r,h=>by
   simp only[imAL,Bq] at h;exact⟨Ks h.1,qu6 h.2⟩
theorem qa9 {st:Sto} {ρ:Ren} {B:List Nat} {x:T} (h:Kq x=true):ltT st ρ B x x:=by
 cases x with
 | tup cs=>exact qu6 h
 | agg cs=>exact Ks (st:=st) (ρ:=ρ) (B:=B) (x:=.agg cs) h
 | clo f cs=>exact Ks (st:=st) (ρ:=ρ) (B:=B) (x:=.clo f cs) h
 | junk=>trivial
 | v a=>exact Ks (st:=st) (ρ:=ρ) (B:=B) (x:=.v a) h
 | sl k xs=>exact Ks (st:=st) (ρ:=ρ) (B:=B) (x:=.sl k xs) h
 | ptr a b c d=>exact Ks (st:=st) (ρ:=ρ) (B:=B) (x:=.ptr a b c d) h
 | ip cs=>exact Ks (st:=st) (ρ:=ρ) (B:=B) (x:=.ip cs) h
 | asl a b=>exact Ks (st:=st) (ρ:=ρ) (B:=B) (x:=.asl a b) h
 | ub a b=>exact Ks (st:=st) (ρ:=ρ) (B:=B) (x:=.ub a b) h
 | vw a b c d=>exact Ks (st:=st) (ρ:=ρ) (B:=B) (x:=.vw a b c d) h
 | mp a=>exact Ks (st:=st) (ρ:=ρ) (B:=B) (x:=.mp a) h
variable {e:Env} {kss:List (Nat×List Nat)} {Q:Ex→St→Prop} {K:List KF} {rows:Option (List Nat)} {ks:List Nat} {nid:Nat} {ops:List ROp} {F:XF} {acc:Acc}
theorem C1.of {fid:FuncId} {caps xs ts':List T} {r val:T} {d:Option Nat} (ρ1 ρ2:Ren) (B:List Nat) (wr:List (Nat×Ob)) (hs:Spc P fid ts' st1 r st1')
 (ha:ltAs st ρ1 B (xs++caps) ts') (h1:wm st1 ρ1=true) (ho:wL st ρ1 B st1) (hB:(B.all fun i=>!(ρ1.map (·.2)).contains (some i))=true)
 (hk:(ρ1.all fun p=>match p.2 with | some i=>(TL.get wr i).isSome | none=>true)=true)
 (hw:wrOk st st1 st1' ρ1 ρ2 wr) (h2:wm wr ρ2=true) (h3:qg9 ρ2=true) (hv:ltT st1' ρ2 [] r val)
 (hf:fzOk (wr++st) B=true∨(noA2 val=true∧zw3 wr ρ2=true))
 (h:R P e kss Q rows ks K nid ops (putX F d (.p val)) (stUp st wr) (acc++[(B++wr.map (·.1),wr.map (·.1))])):C1 P e kss Q rows ks K (.clo fid caps) xs d nid ops F st acc:=
 ⟨val,wr,_,.of ρ1 ρ2 B wr hs ha h1 ho hB hk hw h2 h3 hv hf,h⟩
theorem C2.of {L:List (Nat×Bool)} {c:Prop} {fid:FuncId} {caps xs ts':List T} {r val:T} {d:Option Nat} (ρ1:Ren) (B:List Nat) (hs:c→Spc P fid ts' st1 r st1')
 (ha:c→ltAs st ρ1 B (xs++caps) ts') (h1:wm st1 ρ1=true) (ho:c→wL st ρ1 B st1) (hB:(B.all fun i=>!(ρ1.map (·.2)).contains (some i))=true)
 (hk:(ρ1.all fun p=>match p.2 with | some _=>false | none=>true)=true) (hv:c→ltT st1' [] [] r val)
 (hf:c→fzOk st B=true∨noA2 val=true)
 (h:R P e kss Q rows ks K nid ops (putX F d (.g L c val)) st (acc++[(B++[],[])])):C2 P e kss Q rows ks K L c (.clo fid caps) xs d nid ops F st acc:=
 ⟨val,[],_,fun hc=>.of ρ1 [] B [] (hs hc) (ha hc) h1 (ho hc) hB (Bk.2 fun p hp=>by
   have:=Bk.1 hk p hp;split <;> simp_all) trivial rfl rfl (hv hc) (by rcases hf hc with h | h;exact .inl h;exact .inr ⟨h,rfl⟩),.inl ⟨rfl,h⟩⟩
theorem C1.lend {fid:FuncId} {caps xs ts':List T} {r:T} {d:Option Nat} (B:List Nat) (hs:Spc P fid ts' [] r [])
 (ha:ltAs st [] B (xs++caps) ts') (h2:Kq r=true) (h3:noA2 r=true)
 (h:R P e kss Q rows ks K nid ops (putX F d (.p r)) st (acc++[(B++[],[])])):C1 P e kss Q rows ks K (.clo fid caps) xs d nid ops F st acc:=
 .of [] [] B [] hs ha rfl trivial sMp rfl trivial rfl rfl (qa9 h2) (.inr ⟨h3,rfl⟩) h
theorem C2.lend {L:List (Nat×Bool)} {c:Prop} {fid:FuncId} {caps xs ts':List T} {r:T} {d:Option Nat} (B:List Nat) (hs:c→Spc P fid ts' [] r [])
 (ha:c→ltAs st [] B (xs++caps) ts') (h2:Kq r=true) (h3:noA2 r=true)
 (h:R P e kss Q rows ks K nid ops (putX F d (.g L c r)) st (acc++[(B++[],[])])):C2 P e kss Q rows ks K L c (.clo fid caps) xs d nid ops F st acc:=
 .of [] B hs ha rfl (fun _=>trivial) sMp rfl (fun _=>qa9 h2) (fun _=>.inr h3) h
theorem ptwA {st:Sto} {B:List Nat} {d:Nat→Prop} {ρ:Nat→Option Nat} {xs ys:List T} (h:ptw (ltAD st B) xs ys):xs.length=ys.length∧∀ (j:Nat) (c c':T),xs[j]?=some c→ys[j]?=some c'→Lt st d ρ B c c':=
 ⟨(qh0 h).1,fun j c c' hc hc'=>zR1 ((qh0 h).2 j c c' hc hc')⟩
theorem C1.lendD {fid:FuncId} {caps xs ts':List T} {r:T} {d:Option Nat} (B:List Nat) (hs:Spc P fid ts' [] r [])
 (ha:ptw (ltAD st B) (xs++caps) ts') (h2:Kq r=true) (h3:noA2 r=true)
 (h:R P e kss Q rows ks K nid ops (putX F d (.p r)) (stUp st []) (acc++[(B++([]:List (Nat×Ob)).map (·.1),([]:List (Nat×Ob)).map (·.1))])):C1 P e kss Q rows ks K (.clo fid caps) xs d nid ops F st acc:=
 ⟨r,[],_,.ofL [] [] B [] hs (ptwA ha) rfl trivial sMp rfl trivial rfl rfl (qa9 h2) (.inr ⟨h3,rfl⟩),h⟩
theorem C2.lendD {L:List (Nat×Bool)} {c:Prop} {fid:FuncId} {caps xs ts':List T} {r:T} {d:Option Nat} (B:List Nat) (hs:c→Spc P fid ts' [] r [])
 (ha:c→ptw (ltAD st B) (xs++caps) ts') (h2:Kq r=true) (h3:noA2 r=true)
 (h:R P e kss Q rows ks K nid ops (putX F d (.g L c r)) st (acc++[(B++[],[])])):C2 P e kss Q rows ks K L c (.clo fid caps) xs d nid ops F st acc:=
 ⟨r,[],_,fun hc=>.ofL [] [] B [] (hs hc) (ptwA (ha hc)) rfl trivial sMp rfl trivial rfl rfl (qa9 h2) (.inr ⟨h3,rfl⟩),.inl ⟨rfl,h⟩⟩
end
end Go.TL
namespace Go.TL
theorem tl:type_of% (
Az @jC3 (Az @jC4 (Az @jQ7 (Az @zY7 (Az @jQ8 (Az @zY8 (Az @jC5 (Az @zY9 (Az @jR0 (Az @jR1 (Az @jR2 (Az @qN0 (Az @zg3 (Az @zZ1 (Az @qt3 (Az @ql3 (Az @jR3 (Az @zZ2 (Az @zZ3 (Az @R_op (Az @jR4 (Az @zZ4 (Az @zZ5 (Az @zZ6 (Az @jR6 (Az @jR7 (Az @zZ7 (Az @zZ8 (Az @jS0 (Az @jR8 (Az @jR9 (Az @zk0 (Az @jg4 (Az @jG8 (Az @zC8 (Az @zg4 (Az @zg5 (Az @zg6 (Az @zg7 (Az @qN1 (Az @ja0 (Az @ja1 (Az @qN2 (Az @jC6 (Az @ja2 (Az @jS1 (Az @zC9 (Az @jS2 (Az @ja3 (Az @jC7 (Az @jC9 (Az @zD0 (Az @zD1 (Az @jD0 (Az @ja4 (Az @ja5 (Az @jD1 (Az @jD2 (Az @jD3 (Az @ja6 (Az @jD4 (Az @ja7 (Az @zD2 (Az @zD3 (Az @zD4 (Az @jD5 (Az @jD6 (Az @ja8 (Az @ja9 (Az @jb0 (Az @jD7 (Az @jD8 (Az @zD5 (Az @zD6 (Az @jb1 (Az @zD7 (Az @qN3 (Az @jb2 (Az @jb3 (Az @jD9 (Az @jE0 (Az @rv_t (Az @rv_k (Az @qN4 (Az @qt5 (Az @jb4 (Az @jb5 (Az @jb6 (Az @jb7 (Az @jb8 (Az @zD8 (Az @jb9 (Az @jg6 (Az @jH0 (Az @jc0 (Az @jc1 (Az @jc3 (Az @je2 (Az @zF2 (Az @qN8 (Az @qt7 (Az @zF0 (Az @qN9 (Az @qt8 (Az @zF1 (Az @zh6 (Az @je5 (Az @jF8 (Az @jF9 (Az @zH0 (Az @zh7 (Az @qO0 (Az @jT1 (Az @jT2 (Az @jT3 (Az @jc4 (Az @zh0 (Az @qt9 (Az @ql4 (Az @ql5 (Az @qO1 (Az @jQ9 (Az @zZ0 (Az @jc2 (Az @jE1 (Az @jE2 (Az @jE3 (Az @zE1 (Az @zh2 (Az @jc5 (Az @jc6 (Az @zD9 (Az @zg8 (Az @qN5 (Az @zE0 (Az @zE2 (Az @zh1 (Az @qt6 (Az @zh3 (Az @zh4 (Az @zh5 (Az @zE3 (Az @jc7 (Az @jc8 (Az @jE4 (Az @jc9 (Az @jd0 (Az @qN6 (Az @jd1 (Az @jE5 (Az @jS4 (Az @jE6 (Az @jE7 (Az @jS5 (Az @jd2 (Az @jE8 (Az @jd3 (Az @jd4 (Az @jE9 (Az @jd5 (Az @jd6 (Az @jF0 (Az @jF1 (Az @zE4 (Az @zE5 (Az @jd7 (Az @jd8 (Az @zE6 (Az @zE7 (Az @zE8 (Az @jd9 (Az @qN7 (Az @jF2 (Az @je0 (Az @zw2 (Az @zH1 (Az @jF3 (Az @zE9 (Az @je6 (Az @jG0 (Az @qT8 (Az @je1 (Az @jG1 (Az @zh9 (Az @qO2 (Az @jG2 (Az @je7 (Az @zH2 (Az @zH4 (Az @jG3 (Az @je9 (Az @zH3 (Az @zi0 (Az @jf0 (Az @zH5 (Az @zH6 (Az @jf1 (Az @jG4 (Az @zH7 (Az @jG5 (Az @jf3 (Az @zH8 (Az @zH9 (Az @jf5 (Az @jf2 (Az @jf4 (Az @zI0 (Az @zI1 (Az @zi1 (Az @zi2 (Az @zi3 (Az @zi4 (Az @zi5 (Az @zi6 (Az @Kr (Az @zI2 (Az @zi8 (Az @zI3 (Az @jf6 (Az @zi7 (Az @zi9 (Az @zI4 (Az @zj0 (Az @zj1 (Az @zI5 (Az @jG6 (Az @jf7 (Az @zI6 (Az @qO3 (Az @zI7 (Az @zj2 (Az @qO4 (Az @zj3 (Az @qO5 (Az @jG7 (Az @jf8 (Az @jf9 (Az @zI8 (Az @zI9 (Az @jg0 (Az @zJ0 (Az @zj4 (Az @qO6 (Az @jg1 (Az @zJ1 (Az @jg2 (Az @zj5 (Az @zJ2 (Az @zj6 (Az @zJ3 (Az @zj7 (Az @zj8 (@zj9))))))))))))))))))))))))))))))))))))))))))))))))))))))))))))))))))))))))))))))))))))))))))))))))))))))))))))))))))))))))))))))))))))))))))))))))))))))))))))))))))))))))))))))))))))))))))))))))))))))))))))))))))))))))))))))))))))))))))))))))))))))))))))):=Az @jC3 (Az @jC4 (Az @jQ7 (Az @zY7 (Az @jQ8 (Az @zY8 (Az @jC5 (Az @zY9 (Az @jR0 (Az @jR1 (Az @jR2 (Az @qN0 (Az @zg3 (Az @zZ1 (Az @qt3 (Az @ql3 (Az @jR3 (Az @zZ2 (Az @zZ3 (Az @R_op (Az @jR4 (Az @zZ4 (Az @zZ5 (Az @zZ6 (Az @jR6 (Az @jR7 (Az @zZ7 (Az @zZ8 (Az @jS0 (Az @jR8 (Az @jR9 (Az @zk0 (Az @jg4 (Az @jG8 (Az @zC8 (Az @zg4 (Az @zg5 (Az @zg6 (Az @zg7 (Az @qN1 (Az @ja0 (Az @ja1 (Az @qN2 (Az @jC6 (Az @ja2 (Az @jS1 (Az @zC9 (Az @jS2 (Az @ja3 (Az @jC7 (Az @jC9 (Az @zD0 (Az @zD1 (Az @jD0 (Az @ja4 (Az @ja5 (Az @jD1 (Az @jD2 (Az @jD3 (Az @ja6 (Az @jD4 (Az @ja7 (Az @zD2 (Az @zD3 (Az @zD4 (Az @jD5 (Az @jD6 (Az @ja8 (Az @ja9 (Az @jb0 (Az @jD7 (Az @jD8 (Az @zD5 (Az @zD6 (Az @jb1 (Az @zD7 (Az @qN3 (Az @jb2 (Az @jb3 (Az @jD9 (Az @jE0 (Az @rv_t (Az @rv_k (Az @qN4 (Az @qt5 (Az @jb4 (Az @jb5 (Az @jb6 (Az @jb7 (Az @jb8 (Az @zD8 (Az @jb9 (Az @jg6 (Az @jH0 (Az @jc0 (Az @jc1 (Az @jc3 (Az @je2 (Az @zF2 (Az @qN8 (Az @qt7 (Az @zF0 (Az @qN9 (Az @qt8 (Az @zF1 (Az @zh6 (Az @je5 (Az @jF8 (Az @jF9 (Az @zH0 (Az @zh7 (Az @qO0 (Az @jT1 (Az @jT2 (Az @jT3 (Az @jc4 (Az @zh0 (Az @qt9 (Az @ql4 (Az @ql5 (Az @qO1 (Az @jQ9 (Az @zZ0 (Az @jc2 (Az @jE1 (Az @jE2 (Az @jE3 (Az @zE1 (Az @zh2 (Az @jc5 (Az @jc6 (Az @zD9 (Az @zg8 (Az @qN5 (Az @zE0 (Az @zE2 (Az @zh1 (Az @qt6 (Az @zh3 (Az @zh4 (Az @zh5 (Az @zE3 (Az @jc7 (Az @jc8 (Az @jE4 (Az @jc9 (Az @jd0 (Az @qN6 (Az @jd1 (Az @jE5 (Az @jS4 (Az @jE6 (Az @jE7 (Az @jS5 (Az @jd2 (Az @jE8 (Az @jd3 (Az @jd4 (Az @jE9 (Az @jd5 (Az @jd6 (Az @jF0 (Az @jF1 (Az @zE4 (Az @zE5 (Az @jd7 (Az @jd8 (Az @zE6 (Az @zE7 (Az @zE8 (Az @jd9 (Az @qN7 (Az @jF2 (Az @je0 (Az @zw2 (Az @zH1 (Az @jF3 (Az @zE9 (Az @je6 (Az @jG0 (Az @qT8 (Az @je1 (Az @jG1 (Az @zh9 (Az @qO2 (Az @jG2 (Az @je7 (Az @zH2 (Az @zH4 (Az @jG3 (Az @je9 (Az @zH3 (Az @zi0 (Az @jf0 (Az @zH5 (Az @zH6 (Az @jf1 (Az @jG4 (Az @zH7 (Az @jG5 (Az @jf3 (Az @zH8 (Az @zH9 (Az @jf5 (Az @jf2 (Az @jf4 (Az @zI0 (Az @zI1 (Az @zi1 (Az @zi2 (Az @zi3 (Az @zi4 (Az @zi5 (Az @zi6 (Az @Kr (Az @zI2 (Az @zi8 (Az @zI3 (Az @jf6 (Az @zi7 (Az @zi9 (Az @zI4 (Az @zj0 (Az @zj1 (Az @zI5 (Az @jG6 (Az @jf7 (Az @zI6 (Az @qO3 (Az @zI7 (Az @zj2 (Az @qO4 (Az @zj3 (Az @qO5 (Az @jG7 (Az @jf8 (Az @jf9 (Az @zI8 (Az @zI9 (Az @jg0 (Az @zJ0 (Az @zj4 (Az @qO6 (Az @jg1 (Az @zJ1 (Az @jg2 (Az @zj5 (Az @zJ2 (Az @zj6 (Az @zJ3 (Az @zj7 (Az @zj8 (@zj9))))))))))))))))))))))))))))))))))))))))))))))))))))))))))))))))))))))))))))))))))))))))))))))))))))))))))))))))))))))))))))))))))))))))))))))))))))))))))))))))))))))))))))))))))))))))))))))))))))))))))))))))))))))))))))))))))))))))))))))))))))))))))))
theorem tl2:type_of% (
Az @Option.getD_some.{0} (Az @Option.isSome_some.{0} (Az @List.map_cons.{0,0} (Az @List.map_nil.{0,0} (Az @List.all_cons.{0} (Az @List.all_nil.{0} (Az @List.contains_cons.{0} (Az @List.contains_nil.{0} (Az @Bool.and_true (Az @Fq (Az @Bool.and_self (Az @Bool.or_true (Az @Bool.true_or (Az @Bool.or_false (Az @Bool.false_or (Az @true_and (Az @and_true (Az @BEq.rfl.{0} (Az @forall_const.{0} (Az @true_implies (Az @implies_true.{0} (Az @cond_true.{1} (Az @cond_false.{1} (Az @Bool.true_eq_false (Az @EZ (Az @false_implies (Az @Bool.not_true (Az @Bool.not_false (Az @List.append_nil.{0} (Az @eq_self.{1} (Az @imp_self (Az @Bx (Az @jG9 (Az @and_false (Az @false_and (Az @or_false (Az @false_or (Az @List.length_cons.{0} (Az @List.length_nil.{0} (Az @List.length_map.{0,0} (Az @List.length_append.{0} (@and_self)))))))))))))))))))))))))))))))))))))))))):=Az @Option.getD_some.{0} (Az @Option.isSome_some.{0} (Az @List.map_cons.{0,0} (Az @List.map_nil.{0,0} (Az @List.all_cons.{0} (Az @List.all_nil.{0} (Az @List.contains_cons.{0} (Az @List.contains_nil.{0} (Az @Bool.and_true (Az @Fq (Az @Bool.and_self (Az @Bool.or_true (Az @Bool.true_or (Az @Bool.or_false (Az @Bool.false_or (Az @true_and (Az @and_true (Az @BEq.rfl.{0} (Az @forall_const.{0} (Az @true_implies (Az @implies_true.{0} (Az @cond_true.{1} (Az @cond_false.{1} (Az @Bool.true_eq_false (Az @EZ (Az @false_implies (Az @Bool.not_true (Az @Bool.not_false (Az @List.append_nil.{0} (Az @eq_self.{1} (Az @imp_self (Az @Bx (Az @jG9 (Az @and_false (Az @false_and (Az @or_false (Az @false_or (Az @List.length_cons.{0} (Az @List.length_nil.{0} (Az @List.length_map.{0,0} (Az @List.length_append.{0} (@and_self)))))))))))))))))))))))))))))))))))))))))
theorem tl4:type_of% (
Az @jS6 (Az @je3 (Az @jS7 (Az @jS8 (Az @jS9 (Az @jT0 (Az @zF3 (Az @zF4 (Az @zF5 (Az @zF6 (Az @zF7 (Az @zF8 (Az @zF9 (Az @zG0 (Az @zG1 (Az @zG2 (Az @jF4 (Az @jF5 (Az @jF6 (Az @jF7 (Az @je4 (Az @zG3 (Az @zG4 (Az @zG5 (Az @zG6 (Az @zG7 (Az @zG8 (Az @zG9 (Az @ql6 (Az @ql7 (@zh8))))))))))))))))))))))))))))))):=Az @jS6 (Az @je3 (Az @jS7 (Az @jS8 (Az @jS9 (Az @jT0 (Az @zF3 (Az @zF4 (Az @zF5 (Az @zF6 (Az @zF7 (Az @zF8 (Az @zF9 (Az @zG0 (Az @zG1 (Az @zG2 (Az @jF4 (Az @jF5 (Az @jF6 (Az @jF7 (Az @je4 (Az @zG3 (Az @zG4 (Az @zG5 (Az @zG6 (Az @zG7 (Az @zG8 (Az @zG9 (Az @ql6 (Az @ql7 (@zh8))))))))))))))))))))))))))))))
end Go.TL
namespace Go.TL
abbrev vL (bs:List UInt8):T:=.sl 1 (bs.map wi)
def u8 (n:Int):UInt8:=UInt8.ofNat (n % 256).toNat
theorem jT5 (n:Int):((u8 n).toNat:Int)=n % 256:=by
 unfold u8;have h:(n % 256).toNat<256:=by omega
 rw[UInt8.toNat_ofNat'];omega
theorem zw7 (b:UInt8):(b.toNat:Int)<256:=by have:=b.toNat_lt;omega
theorem qO8 {b:UInt8}:(wi b).cells=[wi b]:=rfl
theorem zk9 {st:Sto} {b:UInt8}:live st (wi b)=True:=by simp [wi,live,Value.oneCell']
theorem qO9 {bs:List UInt8} {i:Nat} (h:i<bs.length):(bs.map wi).getD i .junk = .v (.int .u8 (bs.getD i 0).toNat):=by
 simp [List.getD,CK h,wi]
theorem ql8 (bs:List UInt8):(bs.map wi).map WH=bs:=by
 induction bs with
 | nil=>rfl
 | cons b r ih=>
   simp only[List.map_cons,ih]
   congr 1
   simp [wi,WH]
theorem zl0 {bs:List UInt8}:∀ y∈bs.map wi,yp y=true:=by
 intro y hy;obtain⟨b,_,rfl⟩:=Cj.1 hy
 rfl
theorem qP0 {bs:List UInt8}:(∀ y∈bs.map wi,yp y=true)=True:=eq_true zl0
theorem jg8 {α:Type} {f:α→T} (h:∀ a,imL (f a).cells=true) (l:List α):qS5 (l.map f):=by
 intro x hx c hc;obtain⟨a,_,rfl⟩:=Cj.1 hx;exact qt2 (h a) c hc
theorem qu7 {bs:List UInt8}:qS5 (bs.map wi)=True:=eq_true (jg8 (fun _=>rfl) bs)
theorem Kt {α β:Type} (f:α→β) (a b:Int) (l:List α):cutT a b (l.map f)=(cutT a b l).map f:=by
 simp [cutT,List.map_take,List.map_drop]
theorem qU0 {α:Type} {a:Nat} {l:List α}:cutT (a:Int) (l.length:Int) l=l.drop a:=by simp [cutT]
theorem zl1 {α:Type} {b:Nat} {l:List α}:cutT 0 (b:Int) l=l.take b:=by simp [cutT]
theorem bits_nat {n:Int} (h0:0≤n):BitVec.ofInt 64 n=BitVec.ofNat 64 n.toNat:=by
 apply BitVec.eq_of_toNat_eq
 simp [BitVec.toNat_ofInt];omega
theorem qU1 {k:Nat}:ImXs k []=True:=by simp [ImXs]
theorem Spc.weaken {P:Program} {f:FuncId} {ts:List T} {st st' st2:Sto} {r r2:T} (h:Spc P f ts st r st') (hl:Qx st r st' r2 st2):Spc P f ts st r2 st2:=by
 refine⟨h.1,h.2.1,fun S ι w vals hR=>(h.2.2 S ι w vals hR).mono ?_⟩;rintro en w' ⟨v,ι',rfl,hp⟩;obtain⟨ι2,h2⟩:=hl _ rfl _ _ _ hp;exact⟨v,ι2,rfl,h2⟩
abbrev vIs (l:List Int):T:=.sl 1 (l.map vI)
theorem qg {α:Type} {l:List α} {i:Nat} {d:α} (h:i<l.length):l.getD i d=l[i]:=by simp [List.getD,h]
theorem jg9 (l:List Int):ImXs 1 (l.map vI):=qV (f:=vI) (fun _=>⟨rfl,rfl⟩) l
def frzC (i:Nat) (o:Option Ob) (l:List (Nat×Ob)):List (Nat×Ob):=match o with
 | some (.arr k xs _)=>(i,.arr k xs true)::l
 | _=>l
def frz (st:Sto):List Nat→List (Nat×Ob)
 | []=>[]
 | i::r=>frzC i (TL.get st i) (frz st r)
def jv9 (st:Sto) (i:Nat):Bool:=match TL.get st i with | some (.arr ..)=>true | _=>false
theorem jh0 {st:Sto}:frz st []=[]:=iR
theorem qq6 {st:Sto} {i:Nat} {r:List Nat}:frz st (i::r)=frzC i (TL.get st i) (frz st r):=iR
theorem qU2 {i k:Nat} {xs:List T} {fz:Bool} {l:List (Nat×Ob)}:frzC i (some (.arr k xs fz)) l=(i,.arr k xs true)::l:=iR
theorem Jb {st:Sto}:∀ (B:List Nat),wrOk st [] [] [] [] (frz st B)
 | []=>trivial
 | i::r=>by
   rw[qq6];cases h:TL.get st i with
   | none=>exact Jb r
   | some o=>cases o with
     | dead=>exact Jb r
     | mp es=>exact Jb r
     | full i n g=>exact Jb r
     | arr k xs fz=>
       refine⟨?_,Jb r⟩;simp only[TL.get,wrO,h];exact⟨trivial,⟨trivial,trivial⟩,sMp⟩
theorem zw8 {st:Sto}:∀ (B:List Nat) (i:Nat),i∈B→jv9 st i=true→∃ k xs,TL.get (frz st B) i=some (.arr k xs true)
 | [],i,h,_=>by simp at h
 | j::r,i,h,hi=>by
   rw[qq6];by_cases hj:j=i
   ·subst hj;unfold jv9 at hi;split at hi
    ·rename_i k xs fz hg;rw[hg,qU2];exact⟨k,xs,by simp [TL.get]⟩
    ·cases hi
   ·obtain⟨k,xs,h3⟩:=zw8 r i (by rcases Ck.1 h with h | h;exact absurd h.symm hj;exact h) hi;refine⟨k,xs,?_⟩;unfold frzC;split
    ·simp [TL.get,hj,h3]
    ·exact h3
theorem zw9 {wr:Sto}:∀ {B:List Nat},(∀ i∈B,∃ k xs,TL.get wr i=some (.arr k xs true))→fzOk wr B=true
 | [],_=>rfl
 | i::r,h=>by
   obtain⟨k,xs,h1⟩:=h i sMp;simp only[fzOk,h1,Fq];exact zw9 fun j hj=>h j (by simp [hj])
section
variable {P:Program} {st:Sto} {e:Env} {kss:List (Nat×List Nat)} {Q:Ex→St→Prop} {K:List KF} {rows:Option (List Nat)} {ks:List Nat} {nid:Nat} {ops:List ROp} {F:XF} {acc:Acc}
theorem C1.shut {fid:FuncId} {caps xs ts':List T} {r:T} {d:Option Nat} (B:List Nat) (hs:Spc P fid ts' [] r [])
 (ha:ltAs st [] B (xs++caps) ts') (h2:Kq r=true) (hB:B.all (jv9 st)=true)
 (h:R P e kss Q rows ks K nid ops (putX F d (.p r)) (stUp st (frz st B)) (acc++[(B++(frz st B).map (·.1),(frz st B).map (·.1))])):C1 P e kss Q rows ks K (.clo fid caps) xs d nid ops F st acc:=
 .of [] [] B (frz st B) hs ha rfl trivial sMp rfl (Jb B) rfl rfl (qa9 h2) (.inl (zw9 fun i hi=>by
  obtain⟨k,xs,h3⟩:=zw8 B i hi (Bk.1 hB i hi);exact⟨k,xs,by rw[zZ,h3];rfl⟩)) h
theorem C1.shutD {fid:FuncId} {caps xs ts':List T} {r:T} {d:Option Nat} (B:List Nat) (hs:Spc P fid ts' [] r [])
 (ha:ptw (ltAD st B) (xs++caps) ts') (h2:Kq r=true) (hB:B.all (jv9 st)=true)
 (h:R P e kss Q rows ks K nid ops (putX F d (.p r)) (stUp st (frz st B)) (acc++[(B++(frz st B).map (·.1),(frz st B).map (·.1))])):C1 P e kss Q rows ks K (.clo fid caps) xs d nid ops F st acc:=
 ⟨r,frz st B,_,.ofL [] [] B (frz st B) hs (ptwA ha) rfl trivial sMp rfl (Jb B) rfl rfl (qa9 h2) (.inl (zw9 fun i hi=>by
   obtain⟨k,xs,h3⟩:=zw8 B i hi (Bk.1 hB i hi);exact⟨k,xs,by rw[zZ,h3];rfl⟩)),h⟩
end
section
variable {st:Sto}
theorem zl2 {n:Nat} {d:T}:([]:List T).getD n d=d:=iR
theorem qP1:T.junk.cells=[.junk]:=iR
theorem zJ6:conT st .junk=none:=iR
theorem qP2 {p:Prop}:jv8 none p=none:=iR
theorem zl3 {op:BinOp} {ib:Bool} {y:T}:binR op ib .junk y=none:=by cases y <;> rfl
theorem qP3 {op:BinOp} {ib:Bool} {y:T}:binR op ib (.v undef) y=none:=by
 cases y <;> first | rfl | (rename_i v;cases v <;> rfl)
theorem zl4 {cells:List T}:qT2 cells []=some cells:=iR
theorem qP4 {cells:List T} {off n:Nat} {x:T} {r:List ((Nat×Nat)×T)}:qT2 cells (((off,n),x)::r)=if x.cells.length=n∧off+n≤cells.length then qT2 (cells.take off++x.cells++cells.drop (off+n)) r else none:=iR
theorem jh1 {a b:ByteArray}:strT .eql a b=retB (a.toList==b.toList):=iR
theorem jh2 {a b:ByteArray}:strT .neq a b=retB (!(a.toList==b.toList)):=iR
theorem jh3 {a b:ByteArray}:strT .add a b=some ⟨a.size+b.size≤9223372036854775807,.v (.string (a++b)),[]⟩:=iR
theorem jh4 {a b:ByteArray}:strT .gtr a b=retB (!(Op.bytesLess a.toList b.toList||a.toList==b.toList)):=iR
theorem jh5 {a b:ByteArray}:strT .leq a b=retB (Op.bytesLess a.toList b.toList||a.toList==b.toList):=iR
theorem jh6 {a b:ByteArray}:strT .geq a b=retB (!Op.bytesLess a.toList b.toList):=iR
theorem jh7 {a b:ByteArray}:strT .lss a b=retB (Op.bytesLess a.toList b.toList):=iR
theorem ex_0 {a:T} {r:List T}:yv (.tup (a::r)) 0=ret a:=iR
theorem ex_1 {a:T} {r:List T} {n:Nat}:yv (.tup (a::r)) (n+1)=yv (.tup r) n:=by simp [yv]
theorem mn_2 {a b:Int}:qn2 minI [vI a,vI b]=retI .i64 (minI a b):=iR
theorem mx_2 {a b:Int}:qn2 maxI [vI a,vI b]=retI .i64 (maxI a b):=iR
theorem tl3:type_of% (Az @zl2 (Az @qP1 (Az @zJ6 (Az @qP2 (Az @zl3 (Az @qP3 (Az @qt4 (Az @qu7 (Az @jh0 (Az @qq6 (Az @qU2 (Az @zl4 (Az @qP4 (Az @jh1 (Az @jh2 (Az @jh3 (Az @jh7 (Az @jh4 (Az @jh5 (Az @jh6 (Az @ex_0 (Az @ex_1 (Az @mn_2 (Az @mx_2 (Az @ByteArray.toList_mk (Az @ql8 (Az @qP0 (Az @qO8 (Az @zk9 (Az @List.take_succ_cons.{0} (Az @List.drop_succ_cons.{0} (Az @List.take_zero.{0} (Az @List.drop_zero.{0} (Az @List.take_nil.{0} (Az @List.drop_nil.{0} (Az @List.cons_append.{0} (Az @List.nil_append.{0} (Az @Nat.zero_add (Az @List.set_cons_zero.{0} (@List.set_cons_succ.{0})))))))))))))))))))))))))))))))))))))))):=
 Az @zl2 (Az @qP1 (Az @zJ6 (Az @qP2 (Az @zl3 (Az @qP3 (Az @qt4 (Az @qu7 (Az @jh0 (Az @qq6 (Az @qU2 (Az @zl4 (Az @qP4 (Az @jh1 (Az @jh2 (Az @jh3 (Az @jh7 (Az @jh4 (Az @jh5 (Az @jh6 (Az @ex_0 (Az @ex_1 (Az @mn_2 (Az @mx_2 (Az @ByteArray.toList_mk (Az @ql8 (Az @qP0 (Az @qO8 (Az @zk9 (Az @List.take_succ_cons.{0} (Az @List.drop_succ_cons.{0} (Az @List.take_zero.{0} (Az @List.drop_zero.{0} (Az @List.take_nil.{0} (Az @List.drop_nil.{0} (Az @List.cons_append.{0} (Az @List.nil_append.{0} (Az @Nat.zero_add (Az @List.set_cons_zero.{0} (@List.set_cons_succ.{0})))))))))))))))))))))))))))))))))))))))
end
end Go.TL
namespace Go.TL
section
variable {P:Program} {e:Env} {kss:List (Nat×List Nat)} {Q:Ex→St→Prop} {K:List KF} {fr:List (Nat×T)} {st:Sto}
def rm1 (k:Nat):List (Nat×T)→List (Nat×T)
 | []=>[]
 | (t,x)::r=>if t=k then rm1 k r else (t,x)::rm1 k r
def rmK:List Nat→List (Nat×T)→List (Nat×T)
 | [],fr=>fr
 | k::ks,fr=>rm1 k (rmK ks fr)
theorem qt {α:Type} {body:RC} (hm:P.follows .mixedOrders=true) (ks:List Nat) (I:α→Prop) (ch:α→List (Nat×T)) (g:α→Sto) (μ:α→Nat) (x0:α) (h0:I x0) (hs:Le e ⟨fr,st⟩ ⟨ch x0++rmK ks fr,g x0⟩)
 (round:∀ x,I x→W P e kss (LQ P e kss Q K I (fun x=>ch x++rmK ks fr) g μ x) body [] (ch x++rmK ks fr) (g x)):W P e kss Q (.loop body) K fr st:=
 jg5 hm I (fun x=>ch x++rmK ks fr) g μ x0 h0 hs round
end
theorem qd {α:Type} {f:α→T} {l:List α} {i:Nat} (h:i<l.length):(l.map f).getD i .junk=f l[i]:=by
 rw[qg (by simpa using h)];simp
theorem qh {i:Nat} (h:i<4611686018427387904):IntKind.i64.wrap ((i:Int)+1)=((i+1:Nat):Int):=by
 rw[AK _ oM];omega
theorem kK {i:Nat} (h:0<i) (h2:i<4611686018427387904):IntKind.i64.wrap ((i:Int)-1)=((i-1:Nat):Int):=by
 rw[AK _ oM];omega
theorem jm {α:Type} {st:Sto} {ρ:Ren} {B:List Nat} {k:Nat} {f:α→T} (h:∀ a,(f a).cells.length=k∧imL (f a).cells=true) (l:List α):ltXs st ρ B k (l.map f) (l.map f):=jV (qV h l)
theorem qy {α:Type} {l:List α} {i:Nat} (h:i<l.length):l.take (i+1)=l.take i++[l[i]]:=List.take_succ_eq_append_getElem h
theorem zm {k:Nat} {a b:List T} (h1:ImXs k a) (h2:ImXs k b):ImXs k (a++b):=fun x hx=>by
 rcases Dz.1 hx with h | h
 ·exact h1 x h
 ·exact h2 x h
theorem zj {k:Nat} {x:T} {a:List T} (h0:x.cells.length=k∧imL x.cells=true) (h:ImXs k a):ImXs k (x::a):=fun y hy=>by
 rcases Ck.1 hy with rfl | hy
 ·exact h0
 ·exact h y hy
theorem zC {k:Nat}:ImXs k []:=fun x hx=>by simp at hx
theorem ql9 {α:Type} {p:α→Bool} {l:List α} {i:Nat} (h:i<l.length) (hp:p l[i]=true):l.any p=true:=DJ.2 ⟨l[i],AX h,hp⟩
theorem zV {α:Type} {p:α→Bool} {l:List α} {i:Nat} (h:i<l.length) (h1:(l.take i).any p=false) (hp:p l[i]=false):(l.take (i+1)).any p=false:=by
 rw[qy h,FW,h1];simp [hp]
theorem jI {α:Type} {p:α→Bool}:∀ {l:List α} {i:Nat} (h:i<l.length),(l.take i).any p=false→p l[i]=true→l.findIdx p=i
 | [],i,h,_,_=>by simp at h
 | x::r,0,h,_,hp=>by simp at hp;simp [List.findIdx_cons,hp]
 | x::r,i+1,h,h1,hp=>by
   simp only[List.take_succ_cons,List.any_cons,FX] at h1;rw[List.findIdx_cons,h1.1,cond_false,jI (l:=r) (i:=i) (by simpa using h) h1.2 (by simpa using hp)]
def idxI {α:Type} (p:α→Bool) (l:List α):Int:=if l.any p=true then l.findIdx p else -1
theorem qU3 {α:Type} (p:α→Bool) (l:List α):decide (0≤idxI p l)=l.any p:=by
 unfold idxI;cases h:l.any p <;> simp
theorem qP5 {α:Type} {p:α→Bool} {l:List α} (h:l.any p=false):l.find? p=none:=by
 rw[List.find?_eq_none];intro x hx h2;have:=List.any_eq_false.1 h x hx;exact this h2
theorem jw0 {α:Type} {p:α→Bool} {l:List α} {i:Nat} (h:i<l.length) (h1:(l.take i).any p=false) (h2:p l[i]=true):l.find? p=some l[i]:=by
 have e:l.find? p=(l.take i++l.drop i).find? p:=by rw[List.take_append_drop]
 rw[e,List.find?_append,qP5 h1,List.drop_eq_getElem_cons h,List.find?_cons,h2]
 rfl
def wM {α:Type} (eq:α→α→Bool):List α→List α→Bool
 | [],[]=>true
 | a::as,b::bs=>eq a b&&wM eq as bs
 | _,_=>false
section
variable {α:Type} {eq:α→α→Bool}
theorem qU4:∀ {a b:List α},a.length≠b.length→wM eq a b=false
 | [],[],h=>absurd rfl h
 | [],_::_,_=>rfl
 | _::_,[],_=>rfl
 | a::as,b::bs,h=>by
   simp only[wM];rw[qU4 (a:=as) (b:=bs) (by simpa using h),Bool.and_false]
theorem Ku:∀ {a b c d:List α},a.length=b.length→wM eq (a++c) (b++d)=(wM eq a b&&wM eq c d)
 | [],[],c,d,_=>by simp [wM]
 | [],_::_,_,_,h=>by simp at h
 | _::_,[],_,_,h=>by simp at h
 | a::as,b::bs,c,d,h=>by
   simp only[BW,wM];rw[Ku (by simpa using h),Bool.and_assoc]
theorem qh1 {a b:List α} {i:Nat} (ha:i<a.length) (hb:i<b.length):wM eq (a.take (i+1)) (b.take (i+1))=(wM eq (a.take i) (b.take i)&&eq a[i] b[i]):=by
 rw[qy ha,qy hb,Ku (by simp;omega)];simp [wM]
theorem qu8 {a b:List α} {i:Nat} (hl:a.length=b.length) (ha:i<a.length) (h:eq a[i] (b[i]'oM)=false):wM eq a b=false:=by
 have e:wM eq a b=wM eq (a.take (i+1)++a.drop (i+1)) (b.take (i+1)++b.drop (i+1)):=by rw[List.take_append_drop,List.take_append_drop]
 rw[e,Ku (by simp;omega),qh1 ha oM,h];simp
theorem qP6 (h:∀ x,eq x x=true):∀ (a:List α),wM eq a a=true
 | []=>rfl
 | a::as=>by simp [wM,h,qP6 h as]
theorem zl5 (h:∀ x y,eq x y=true↔x=y):∀ {a b:List α},wM eq a b=true↔a=b
 | [],[]=>by simp [wM]
 | [],_::_=>by simp [wM]
 | _::_,[]=>by simp [wM]
 | a::as,b::bs=>by simp [wM,h,zl5 h (a:=as) (b:=bs)]
end
theorem jL4 {x:T} (h:imT0 x=true):imT x=true:=by
 cases x <;> first | exact h | (simp [imT0] at h)
theorem jh8:∀ {l:List T},ze4 l=true→imL l=true
 | [],_=>rfl
 | x::r,h=>by
   simp only[ze4,Bq] at h;simp only[imL,Bq];exact⟨jL4 h.1,jh8 h.2⟩
theorem jL5 {x:T} (h:imT x=true):imA x=true:=by
 cases x with
 | clo f cs=>exact jh8 h
 | agg cs=>simp [imT,imT0] at h
 | _=>exact h
theorem jL6 {l:List T} (h:imL l=true):imAL l=true:=by
 induction l with
 | nil=>rfl
 | cons c r ih=>
   simp only[imL,Bq] at h;simp only[imAL,Bq];refine⟨?_,ih h.2⟩;exact jL5 h.1
theorem qq7 {x:T} {f:FuncId} {caps:List T} (h0:imA x=true) (h:imL caps=true):imAL [x,.clo f caps]=true:=by
 show (imA x&&(imL caps&&true))=true;rw[h0,h];rfl
theorem Kv {x:T} {l:List T} (h0:imA x=true) (h:imL l=true):imAL (x::l)=true:=by
 simp only[imAL,h0,jL6 h,Bool.and_self]
def nx (l:List UInt8) (at_:Nat) (n:Int):Int×Nat:=
 if n<1∨l.length≤at_ then (0,at_)
 else if 256<n∧at_+1<l.length then (((l.getD at_ 0).toNat*256+(l.getD (at_+1) 0).toNat) % n,at_+2)
 else ((l.getD at_ 0).toNat % n,at_+1)
abbrev oC (l:List UInt8) (at_:Nat):Ob:=.arr 2 [.agg [vL l,vI at_]] false
theorem qb0 (l:List UInt8) (at_:Nat) (n:Int) (h:at_≤l.length):(nx l at_ n).2≤l.length:=by
 unfold nx;split
 ·exact h
 ·split
  ·simp only;omega
  ·simp only;omega
theorem kf (l:List UInt8) (at_:Nat) (n:Int) (h:1≤n):0≤(nx l at_ n).1∧(nx l at_ n).1<n:=by
 unfold nx;split
 ·simp only;omega
 ·split
  ·exact⟨Int.emod_nonneg _ oM,Int.emod_lt_of_pos _ oM⟩
  ·exact⟨Int.emod_nonneg _ oM,Int.emod_lt_of_pos _ oM⟩
section
variable {P:Program} {e:Env} {kss:List (Nat×List Nat)} {Q:Ex→St→Prop} {K:List KF} {rows:Option (List Nat)} {ks:List Nat} {nid:Nat} {ops:List ROp} {F:XF} {acc:Acc} {st:Sto} {fid:FuncId} {xs caps ts':List T} {r:T} {d:Option Nat}
theorem C1.draw (id:Nat) (l:List UInt8) (a a':Nat)
 (hs:Spc P fid (.ptr 0 1 0 0::xs) [(0,oC l a)] r [(0,oC l a')]) (hg:TL.get st id=some (oC l a)) (hx:imAL xs=true) (h2:Kq r=true)
 (h:R P e kss Q rows ks K nid ops (putX F d (.p r)) (stUp st [(id,oC l a')]) (acc++[([]++[(id,oC l a')].map (·.1),[(id,oC l a')].map (·.1))])):C1 P e kss Q rows ks K (.clo fid []) (.ptr id 1 0 0::xs) d nid ops F st acc:=by
 refine C1.of [(0,some id)] [(id,some 0)] [] [(id,oC l a')] hs ?_ (by simp [wm,TL.get]) ?_ rF (by simp [TL.get]) ?_ (by simp [wm,TL.get]) rF (qa9 h2) (.inl rF) h
 ·rw[CW];exact⟨by simp [ltA,ltC,ltC0,TL.get],qu6 hx⟩
 ·refine⟨?_,trivial⟩;simp only[TL.get,if_true,ltO2,hg,ltO1];exact⟨trivial,sMp,zf ⟨rfl,rfl,rfl,rfl,trivial⟩ zq,sMp⟩
 ·refine⟨?_,trivial⟩;simp only[TL.get,if_true,wrO,ltO1];exact⟨⟨trivial,sMp,zf ⟨rfl,rfl,rfl,rfl,trivial⟩ zq,sMp⟩,.inr ⟨trivial,rfl⟩⟩
theorem C1.keep (id k:Nat) (ys:List T)
 (hs:Spc P fid ts' [(0,.arr k ys false)] r [(0,.arr k ys false)]) (hg:TL.get st id=some (.arr k ys false)) (him:ImXs k ys) (ha:ltAs st [(0,some id)] [] (xs++caps) ts') (h2:Kq r=true)
 (h:R P e kss Q rows ks K nid ops (putX F d (.p r)) (stUp st [(id,.arr k ys false)]) (acc++[([]++[(id,Ob.arr k ys false)].map (·.1),[(id,Ob.arr k ys false)].map (·.1))])):C1 P e kss Q rows ks K (.clo fid caps) xs d nid ops F st acc:=by
 refine C1.of [(0,some id)] [(id,some 0)] [] [(id,.arr k ys false)] hs ha (by simp [wm,TL.get]) ?_ rF (by simp [TL.get]) ?_ (by simp [wm,TL.get]) rF (qa9 h2) (.inl rF) h
 ·refine⟨?_,trivial⟩;simp only[TL.get,if_true,ltO2,hg,ltO1];exact⟨trivial,sMp,jV him,sMp⟩
 ·refine⟨?_,trivial⟩;simp only[TL.get,if_true,wrO,ltO1];exact⟨⟨trivial,sMp,jV him,sMp⟩,.inr ⟨trivial,rfl⟩⟩
theorem C1.upd (id k:Nat) (ys zs:List T)
 (hs:Spc P fid ts' [(0,.arr k ys false)] r [(0,.arr k zs false)]) (hg:TL.get st id=some (.arr k ys false)) (him:ImXs k ys) (him2:ImXs k zs) (ha:ltAs st [(0,some id)] [] (xs++caps) ts') (h2:Kq r=true)
 (h:R P e kss Q rows ks K nid ops (putX F d (.p r)) (stUp st [(id,.arr k zs false)]) (acc++[([]++[(id,Ob.arr k zs false)].map (·.1),[(id,Ob.arr k zs false)].map (·.1))])):C1 P e kss Q rows ks K (.clo fid caps) xs d nid ops F st acc:=by
 refine C1.of [(0,some id)] [(id,some 0)] [] [(id,.arr k zs false)] hs ha (by simp [wm,TL.get]) ?_ rF (by simp [TL.get]) ?_ (by simp [wm,TL.get]) rF (qa9 h2) (.inl rF) h
 ·refine⟨?_,trivial⟩;simp only[TL.get,if_true,ltO2,hg,ltO1];exact⟨trivial,sMp,jV him,sMp⟩
 ·refine⟨?_,trivial⟩;simp only[TL.get,if_true,wrO,ltO1];exact⟨⟨trivial,sMp,jV him2,sMp⟩,.inr ⟨trivial,rfl⟩⟩
theorem C1.newdraw {l:List UInt8} {a:Nat} (nid':Nat) (hs:Spc P fid (xs++caps) [] (.ptr 0 1 0 0) [(0,oC l a)]) (h1:imAL (xs++caps)=true) (hn:TL.get st nid'=none)
 (h:R P e kss Q rows ks K nid ops (putX F d (.p (.ptr nid' 1 0 0))) (stUp st [(nid',oC l a)]) (acc++[([]++[nid'],[nid'])])):C1 P e kss Q rows ks K (.clo fid caps) xs d nid ops F st acc:=by
 refine C1.of [] [(nid',some 0)] [] [(nid',oC l a)] hs (qu6 h1) rfl trivial sMp rF ?_ (by simp [wm,TL.get]) rF ?_ (.inl rF) h
 ·refine⟨?_,trivial⟩;simp only[TL.get,if_true,wrO,ltO1];exact⟨⟨trivial,sMp,zf ⟨rfl,rfl,rfl,rfl,trivial⟩ zq,sMp⟩,.inl hn⟩
 ·exact⟨by simp [TL.get],rfl,rfl,rfl⟩
theorem C2.one {L:List (Nat×Bool)} {c:Prop} {f:T} {as:List T} (hc:c) (h:C1 P e kss Q rows ks K f as d nid ops F st acc):C2 P e kss Q rows ks K L c f as d nid ops F st acc:=by
 obtain⟨val,wr,rd,h1,h2⟩:=h;exact⟨val,wr,rd,fun _=>h1,.inr (.inl ⟨hc,h2⟩)⟩
theorem C2.no {L:List (Nat×Bool)} {c:Prop} {f:T} {as:List T} (hc:¬ c) (h:R P e kss Q rows ks K nid ops (putX F d (.p (.v undef))) st (acc++[([],[])])):C2 P e kss Q rows ks K L c f as d nid ops F st acc:=
 ⟨.junk,[],[],fun h=>absurd h hc,.inr (.inr ⟨hc,h⟩)⟩
theorem C1.fresh {ys:List T} {m k:Nat} (nid':Nat) (hs:Spc P fid (xs++caps) [] (.asl 0 m) [(0,.arr k ys false)]) (h1:imAL (xs++caps)=true) (hy:ImXs k ys) (hn:TL.get st nid'=none)
 (h:R P e kss Q rows ks K nid ops (putX F d (.p (.asl nid' m))) (stUp st [(nid',.arr k ys false)]) (acc++[([]++[nid'],[nid'])])):C1 P e kss Q rows ks K (.clo fid caps) xs d nid ops F st acc:=by
 refine C1.of [] [(nid',some 0)] [] [(nid',.arr k ys false)] hs (qu6 h1) rfl trivial sMp rF ?_ (by simp [wm,TL.get]) rF ?_ (.inl rF) h
 ·refine⟨?_,trivial⟩;simp only[TL.get,if_true,wrO,ltO1];exact⟨⟨trivial,sMp,jV hy,sMp⟩,.inl hn⟩
 ·exact⟨by simp [TL.get],rfl⟩
end
theorem clA {p:Prop} (h:p:=by
 all_goals (try simp only[wL,ltO2,ltO1,ltAs,ltA,ltC,ltC0,qu0,ltCs,ltT,ltFr,ltS,wrOk,wrO,TL.get,qn5,↓reduceIte,Nat.reduceEqDiff,reduceCtorEq,Option.getD_some,Option.isSome_some,BY,AW,CJ,Cw,CW,Ey,Ck,List.not_mem_nil,and_true,true_and,and_self,imp_self,forall_const,false_implies,implies_true,true_implies,or_false,EZ,Bool.true_eq_false,qU1,true_or,or_true,false_or,false_and,and_false,rmK,rm1,By,List.map_cons,List.map_nil,BW,Cy])
 all_goals (try (repeat' (first
  | exact zq
  | (apply jm;intro _;exact⟨rfl,rfl⟩)
  | (apply qV;intro _;exact⟨rfl,rfl⟩)
  | with_reducible apply zm
  | with_reducible refine zj ⟨rfl,rfl⟩ ?_
  | exact zC
  | with_reducible apply zg
  | with_reducible refine zf ⟨rfl,rfl,?_⟩ ?_
  | with_reducible apply Az
  | exact zh rfl
  | exact zh (by assumption)
  | exact jV (by assumption)
  | (refine⟨⟨?_,rfl,?_,rfl,?_⟩,trivial⟩ <;> first | (simp;done) | (apply qV;intro _;exact⟨rfl,rfl⟩))
  | trivial
  | rfl
  | (rw[qh oM])
  | omega)))):p:=h
theorem sW {p q:Prop} (h:q) (e:p=q:=by simp only[tl,tl2,tl4,↓uU,zK,entX,ZY,ret,retI,retB,intT,unT,endR,qa5,resR,tupT,bslR,boxR,JQ,↓reduceIte,Nat.reduceEqDiff,Nat.reduceAdd,Nat.reduceMul,Nat.reduceLT,Nat.reduceLeDiff,reduceCtorEq,Int.reduceLE,Int.reduceLT,ne_eq,Int.reduceEq,not_false_eq_true,decide_true,decide_false,Int.reduceToNat,tl3,Int.reduceBNe,Int.reduceBEq,rmK,rm1,not_true_eq_false];rfl):p:=e.mpr h
theorem sD {p q:Prop} (h:q) (e:p=q:=by simp only[tl,tl2,tl4,↓uU,zK,entX,ZY,ret,retI,retB,intT,unT,endR,qa5,resR,tupT,bslR,boxR,JQ,↓reduceIte,Nat.reduceEqDiff,Nat.reduceAdd,Nat.reduceMul,Nat.reduceLT,Nat.reduceLeDiff,reduceCtorEq,Int.reduceLE,Int.reduceLT,ne_eq,Int.reduceEq,not_false_eq_true,decide_true,decide_false,Int.reduceToNat,tl3,Int.reduceBNe,Int.reduceBEq,rmK,rm1,not_true_eq_false,AZ,Ay,DZ,FX,Bq,FJ];rfl):p:=e.mpr h
end Go.TL
