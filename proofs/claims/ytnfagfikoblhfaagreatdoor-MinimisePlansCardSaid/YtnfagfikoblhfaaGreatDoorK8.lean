/- A part of the proof: trees of Go values, short forms, contracts. -/
import Derived.Test.YtnfagfikoblhfaaGreatDoorK7
namespace Go.TL
abbrev vI (n:Int):T:=.v (.int .i64 n)
abbrev vB (b:Bool):T:=.v (.bool b)
abbrev vU64 (n:Int):T:=.v (.int .u64 n)
abbrev vS (s:ByteArray):T:=.v (.string s)
def zX8 (fr:List (Nat×T)):List (Nat×T)→Prop
 | []=>True
 | (t,x)::r=>TL.get fr t=some x∧zX8 fr r
section
variable {P:Program} {e:Env} {kss:List (Nat×List Nat)} {Q:Ex→St→Prop} {K:List KF} {fr:List (Nat×T)} {st:Sto}
def LQ {α:Type} (P:Program) (e:Env) (kss:List (Nat×List Nat)) (Q:Ex→St→Prop) (K:List KF) (I:α→Prop) (f:α→List (Nat×T)) (g:α→Sto) (μ:α→Nat) (x:α):Ex→St→Prop
 | .normal,s=>∃ y,I y∧μ y<μ x∧Le e s ⟨f y,g y⟩
 | .exit i,s=>X P e kss Q (.exit i) K s.fr s.st
 | .ret,s=>X P e kss Q .ret K s.fr s.st
theorem zw6 {α:Type} {I:α→Prop} {f:α→List (Nat×T)} {g:α→Sto} {μ:α→Nat} {x:α}:LQ P e kss Q K I f g μ x .normal ⟨fr,st⟩=∃ y,I y∧μ y<μ x∧Le e ⟨fr,st⟩ ⟨f y,g y⟩:=iR
theorem jm1 {α:Type} {I:α→Prop} {f:α→List (Nat×T)} {g:α→Sto} {μ:α→Nat} {x:α} {i:Nat}:LQ P e kss Q K I f g μ x (.exit i) ⟨fr,st⟩=X P e kss Q (.exit i) K fr st:=iR
theorem jI5 {α:Type} {I:α→Prop} {f:α→List (Nat×T)} {g:α→Sto} {μ:α→Nat} {x:α}:LQ P e kss Q K I f g μ x .ret ⟨fr,st⟩=X P e kss Q .ret K fr st:=iR
theorem jU6 {α:Type} {body:RC} (hm:P.follows .mixedOrders=true) (I:α→Prop) (f:α→List (Nat×T)) (g:α→Sto) (μ:α→Nat) (x0:α) (h0:I x0) (hs:Le e ⟨fr,st⟩ ⟨f x0,g x0⟩)
 (round:∀ x,I x→W P e kss (LQ P e kss Q K I f g μ x) body [] (f x) (g x)):W P e kss Q (.loop body) K fr st:=by
 refine WPR.loop hm I (fun x=>⟨f x,g x⟩) μ x0 h0 hs fun x hI=>?_;have:jw0 e I (fun x=>⟨f x,g x⟩) μ x (kq P e kss Q K)=LQ P e kss Q K I f g μ x:=by
  funext ex s
  cases ex <;> rfl
 rw[this];exact round x hI
theorem yx.imR {x r:T} {st:Sto} (h:x=r) (hi:YM x=true):yx [] x st r []:=h ▸ .im hi
theorem jI6 {a b:Int}:(a≥b)=(b≤a):=rfl
theorem jm2 {a b:Bool}:(bif a then b else false)=(a&&b):=by cases a <;> rfl
theorem jI7 {a b:Bool}:(bif a then true else b)=(a||b):=by cases a <;> rfl
end
end Go.TL
namespace Go.TL
abbrev Ren:=List (Nat×Option Nat)
def rho (ρ:Ren) (i:Nat):Option Nat:=match TL.get ρ i with | some (some j)=>some j | _=>none
def ImXs (k:Nat) (xs:List T):Prop:=∀ x∈xs,x.cells.length=k∧imL x.cells=true
def ltS (o:Option Ob) (k n:Nat) (ys:List T):Prop:=match o with
 | some (.arr k' xs _)=>k'=k∧xs.length=n∧ys=xs∧ImXs k xs
 | _=>False
def ltV (o:Option Ob) (k n lo len:Nat) (ys:List T):Prop:=match o with
 | some (.arr k' xs _)=>k'=k∧xs.length=n∧ys=(xs.drop lo).take len∧lo+len≤n∧ImXs k xs
 | _=>False
def ltP (o:Option Ob) (n i j:Nat) (cs:List T):Prop:=match o with
 | some (.arr k xs _)=>xs.length=n∧i<n∧cs=(xs.getD i .junk).cells.drop j∧ImXs k xs
 | _=>False
def ltC0 (st:Sto) (ρ:Ren) (B:List Nat) (x y:T):Prop:=
 match y with
 | .junk=>True
 | .asl i' n'=>match x with
   | .asl i n=>TL.get ρ i'=some (some i)∧n=n'
   | .v (.slice none 0 0)=>TL.get ρ i'=some none∧n'=0
   | _=>False
 | .ptr i' n' a' b'=>match x with
   | .ptr i n a b=>TL.get ρ i'=some (some i)∧n=n'∧a=a'∧b=b'
   | _=>False
 | .sl k ys=>match x with
   | .asl i n=>i∈B∧ltS (TL.get st i) k n ys
   | .vw i n lo len=>i∈B∧ltV (TL.get st i) k n lo len ys
   | .v (.slice none 0 0)=>ys=[]
   | x=>x = .sl k ys
 | .ip cs=>match x with
   | .ptr i n a b=>i∈B∧ltP (TL.get st i) n a b cs
   | x=>x = .ip cs
 | .agg _=>False
 | .clo _ _=>False
 | .tup _=>False
 | .vw i' n' lo' len'=>match x with
   | .vw i n lo len=>TL.get ρ i'=some (some i)∧n=n'∧lo=lo'∧len=len'
   | .asl i n=>TL.get ρ i'=some (some i)∧n=n'∧lo'=0∧len'=n'
   | _=>False
 | .mp i'=>match x with
   | .mp i=>TL.get ρ i'=some (some i)
   | _=>False
 | y=>x=y
def qN9 (st:Sto) (ρ:Ren) (B:List Nat):List T→List T→Prop
 | [],[]=>True
 | x::xs,y::ys=>ltC0 st ρ B x y∧qN9 st ρ B xs ys
 | _,_=>False
def ltC (st:Sto) (ρ:Ren) (B:List Nat) (x y:T):Prop:=
 match y with
 | .clo f ys=>match x with | .clo g xs=>f=g∧qN9 st ρ B xs ys | _=>False
 | y=>ltC0 st ρ B x y
def ltCs (st:Sto) (ρ:Ren) (B:List Nat):List T→List T→Prop
 | [],[]=>True
 | x::xs,y::ys=>ltC st ρ B x y∧ltCs st ρ B xs ys
 | _,_=>False
def ltA (st:Sto) (ρ:Ren) (B:List Nat) (x y:T):Prop:=
 match y with
 | .agg ys=>match x with | .agg xs=>ltCs st ρ B xs ys | _=>False
 | .clo f ys=>match x with | .clo g xs=>f=g∧ltCs st ρ B xs ys | _=>False
 | y=>ltC st ρ B x y
def ltAs (st:Sto) (ρ:Ren) (B:List Nat):List T→List T→Prop
 | [],[]=>True
 | x::xs,y::ys=>ltA st ρ B x y∧ltAs st ρ B xs ys
 | _,_=>False
def ltT (st:Sto) (ρ:Ren) (B:List Nat) (x y:T):Prop:=
 match y with
 | .tup ys=>match x with | .tup xs=>ltAs st ρ B xs ys | _=>False
 | y=>ltA st ρ B x y
def ltXs (st:Sto) (ρ:Ren) (B:List Nat) (k:Nat) (xs ys:List T):Prop:=xs.length=ys.length∧∀ (i:Nat) (x y:T),xs[i]?=some x→ys[i]?=some y→x.cells.length=k∧y.cells.length=k∧ltCs st ρ B x.cells y.cells
def ltO1 (st:Sto) (ρ:Ren) (B:List Nat) (k:Nat) (ys:List T) (fz':Bool) (i:Nat) (o:Option Ob):Prop:=match o with
 | some (.arr k0 xs fz)=>k0=k∧(fz=true→fz'=true)∧ltXs st ρ B k xs ys∧(i∈B→fz'=true)
 | _=>False
def ltO2 (st:Sto) (ρ:Ren) (B:List Nat) (k:Nat) (ys:List T) (fz':Bool) (r:Option (Option Nat)):Prop:=match r with
 | some none=>ys=[]
 | some (some i)=>ltO1 st ρ B k ys fz' i (TL.get st i)
 | none=>False
def ltM (es:Es) (o:Option Ob):Prop:=match o with | some (.mp es')=>es'=es | _=>False
def ltM2 (st:Sto) (es:Es) (r:Option (Option Nat)):Prop:=match r with
 | some (some i)=>ltM es (TL.get st i)
 | _=>False
def QP (st:Sto) (ρ:Ren) (B:List Nat):Sto→Prop
 | []=>True
 | (i,.dead)::r=>QP st ρ B r
 | (i,.arr k ys fz')::r=>ltO2 st ρ B k ys fz' (TL.get ρ i)∧QP st ρ B r
 | (i,.mp es)::r=>ltM2 st es (TL.get ρ i)∧QP st ρ B r
 | (_,.full ..)::_=>False
def ltFr (st:Sto) (ρ:Ren) (B:List Nat) (fr:List (Nat×T)):List (Nat×T)→Prop
 | []=>True
 | (t,y)::r=>ltT st ρ B ((TL.get fr t).getD .junk) y∧ltFr st ρ B fr r
def yz (st':Sto) (ρ:Ren):Bool:=(ρ.all fun p=>(TL.get st' p.1).isSome)&&decide (ρ.filterMap (·.2)).Nodup
def zw7 (st':Sto) (ρ:Ren):Sto→Bool
 | []=>true
 | (i,_)::r=>(TL.get st' i).isSome&&(TL.get ρ i==some (some i))&&zw7 st' ρ r
section
variable {st st':Sto} {ρ:Ren} {B:List Nat} {d:Nat→Prop}
theorem WN {α:Type} {l:List (Nat×α)} {i:Nat} {x:α} (h:TL.get l i=some x):(i,x)∈l:=by
 induction l with
 | nil=>cases h
 | cons p r ih=>
   obtain⟨j,y⟩:=p;simp only[TL.get] at h;split at h
   ·rename_i hj;subst hj;injection h with h;subst h;simp
   ·exact CQ _ (ih h)
theorem qO0 (h:yz st' ρ=true) {i:Nat} {x:Option Nat} (hi:TL.get ρ i=some x):TL.get st' i≠none:=by
 simp only[yz,Bq] at h;have:=Bk.1 h.1 (i,x) (WN hi);intro hn;simp [hn] at this
theorem qq4:∀ {ρ:Ren} {i1 i2 j:Nat},(ρ.filterMap (·.2)).Nodup→(i1,some j)∈ρ→(i2,some j)∈ρ→i1=i2
 | [],_,_,_,_,h,_=>by cases h
 | (i,x)::r,i1,i2,j,hn,h1,h2=>by
   cases x with
   | none=>
     simp only[List.filterMap_cons] at hn;simp only[Ck,Prod.mk.injEq,reduceCtorEq,and_false,false_or] at h1 h2;exact qq4 hn h1 h2
   | some y=>
     simp only[List.filterMap_cons,List.nodup_cons,List.mem_filterMap,not_exists,not_and] at hn;simp only[Ck,Prod.mk.injEq,Option.some.injEq] at h1 h2;rcases h1 with⟨rfl,rfl⟩ | h1
     ·rcases h2 with⟨rfl,_⟩ | h2
      ·rfl
      ·exact absurd rfl (hn.1 _ h2)
     ·rcases h2 with⟨rfl,rfl⟩ | h2
      ·exact absurd rfl (hn.1 _ h1)
      ·exact qq4 hn.2 h1 h2
theorem zw8 {k:Nat} {xs:List T} (h:ImXs k xs):(∀ x∈xs,x.cells.length=k)∧∀ c∈flat xs,imT c=true:=by
 refine⟨fun x hx=>(h x hx).1,fun c hc=>?_⟩;simp only[flat,Ew] at hc;obtain⟨x,hx,hc⟩:=hc;exact qN2 (h x hx).2 c hc
theorem zf1 (hd:∀ i x,TL.get ρ i=some x→d i) {x y:T} (h:ltC0 st ρ B x y):Lt st d (rho ρ) B x y:=by
 unfold ltC0 at h;split at h
 ·exact .junk x
 ·rename_i i' n';split at h
  ·obtain⟨h1,rfl⟩:=h;exact .asl _ _ _ (by simp [rho,h1]) (hd _ _ h1)
  ·obtain⟨h1,rfl⟩:=h;exact .ghost _ (by simp [rho,h1]) (hd _ _ h1)
  ·exact h.elim
 ·split at h
  ·obtain⟨h1,rfl,rfl,rfl⟩:=h;exact .ptr _ _ _ _ _ (by simp [rho,h1]) (hd _ _ h1)
  ·exact h.elim
 ·rename_i k ys;split at h
  ·rename_i i n;obtain⟨h1,h2⟩:=h;unfold ltS at h2;split at h2
   ·rename_i k' xs fz hg;obtain⟨rfl,rfl,rfl,h3⟩:=h2;obtain⟨h4,h5⟩:=zw8 h3;exact .shut _ _ _ _ _ fz h1 hg rfl rfl h4 (fun j c c' hc hc'=>by
     rw[hc] at hc';injection hc' with hc';subst hc'
     exact .im _ (h5 _ (BX hc))) h5
   ·exact h2.elim
  ·rename_i i n lo len;obtain⟨h1,h2⟩:=h;unfold ltV at h2;split at h2
   ·rename_i k' xs fz hg;obtain⟨rfl,rfl,rfl,hle,h3⟩:=h2;obtain⟨h4,h5⟩:=zw8 h3;have hsub:∀ c∈flat ((xs.drop lo).take len),imT c=true:=fun c hc=>by
     simp only[flat,Ew] at hc;obtain⟨y,hy,hc⟩:=hc;exact h5 c (by simp only[flat,Ew];exact⟨y,EY (EQ hy),hc⟩)
    exact .shutv _ _ _ _ _ _ _ fz h1 hg rfl (by simp;omega) (fun y hy=>h4 y (EY (EQ hy))) (fun j c c' hc hc'=>by
     rw[hc] at hc';injection hc' with hc';subst hc'
     exact .im _ (hsub _ (BX hc))) hsub
   ·exact h2.elim
  ·subst h;exact .nil k
  ·subst h;exact .im _ rfl
 ·rename_i cs;split at h
  ·rename_i i n a b;obtain⟨h1,h2⟩:=h;unfold ltP at h2;split at h2
   ·rename_i k xs fz hg;obtain⟨h3,h4,h5,h6⟩:=h2;refine .ptrip _ _ _ _ k xs _ fz h1 hg h3 h4 h5 fun c hc=>?_;subst h5;have hx:xs.getD a .junk∈xs:=by
     rw[CY,CK oM];exact AX _
    exact qN2 (h6 _ hx).2 c (EY hc)
   ·exact h2.elim
  ·subst h;exact .im _ rfl
 ·exact h.elim
 ·exact h.elim
 ·exact h.elim
 ·split at h
  ·obtain⟨h1,rfl,rfl,rfl⟩:=h;exact .vw _ _ _ _ _ (by simp [rho,h1]) (hd _ _ h1)
  ·obtain⟨h1,rfl,rfl,rfl⟩:=h;exact .aslv _ _ _ (by simp [rho,h1]) (hd _ _ h1)
  ·exact h.elim
 ·split at h
  ·exact .mp _ _ (by simp [rho,h]) (hd _ _ h)
  ·exact h.elim
 ·rename_i h1 h2 h3 h4 h9 h5 h6 h7 h8 h10;subst h;cases x with
  | v x=>exact .im _ rfl
  | ip cs=>exact absurd rfl (h9 _)
  | ub p q=>exact .im _ rfl
  | junk=>exact .junk _
  | asl=>exact absurd rfl (h2 _ _)
  | ptr=>exact absurd rfl (h3 _ _ _ _)
  | sl=>exact absurd rfl (h4 _ _)
  | agg=>exact absurd rfl (h5 _)
  | clo=>exact absurd rfl (h6 _ _)
  | tup=>exact absurd rfl (h7 _)
  | vw=>exact absurd rfl (h8 _ _ _ _)
  | mp=>exact absurd rfl (h10 _)
theorem qO1 (hd:∀ i x,TL.get ρ i=some x→d i):∀ {xs ys:List T},qN9 st ρ B xs ys→xs.length=ys.length∧∀ (j:Nat) (c c':T),xs[j]?=some c→ys[j]?=some c'→Lt st d (rho ρ) B c c'
 | [],[],_=>⟨rfl,fun j c c' h=>by simp at h⟩
 | [],_::_,h=>h.elim
 | _::_,[],h=>h.elim
 | x::xs,y::ys,h=>by
   obtain⟨h1,h2⟩:=h;obtain⟨h3,h4⟩:=qO1 hd h2;refine⟨by simp [h3],fun j c c' hc hc'=>?_⟩;cases j with
   | zero=>simp at hc hc';subst hc hc';exact zf1 hd h1
   | succ j=>exact h4 j c c' (by simpa using hc) (by simpa using hc')
theorem zw9 (hd:∀ i x,TL.get ρ i=some x→d i) {x y:T} (h:ltC st ρ B x y):Lt st d (rho ρ) B x y:=by
 unfold ltC at h;split at h
 ·split at h
  ·obtain⟨rfl,h⟩:=h;obtain⟨h1,h2⟩:=qO1 hd h;exact .clo _ _ _ h1 h2
  ·exact h.elim
 ·exact zf1 hd h
theorem qg8 (hd:∀ i x,TL.get ρ i=some x→d i):∀ {xs ys:List T},ltCs st ρ B xs ys→xs.length=ys.length∧∀ (j:Nat) (c c':T),xs[j]?=some c→ys[j]?=some c'→Lt st d (rho ρ) B c c'
 | [],[],_=>⟨rfl,fun j c c' h=>by simp at h⟩
 | [],_::_,h=>h.elim
 | _::_,[],h=>h.elim
 | x::xs,y::ys,h=>by
   obtain⟨h1,h2⟩:=h;obtain⟨h3,h4⟩:=qg8 hd h2;refine⟨by simp [h3],fun j c c' hc hc'=>?_⟩;cases j with
   | zero=>simp at hc hc';subst hc hc';exact zw9 hd h1
   | succ j=>exact h4 j c c' (by simpa using hc) (by simpa using hc')
theorem zx0 (hd:∀ i x,TL.get ρ i=some x→d i) {x y:T} (h:ltA st ρ B x y):Lt st d (rho ρ) B x y:=by
 unfold ltA at h;split at h
 ·split at h
  ·obtain⟨h1,h2⟩:=qg8 hd h;exact .agg _ _ h1 h2
  ·exact h.elim
 ·split at h
  ·obtain⟨rfl,h⟩:=h;obtain⟨h1,h2⟩:=qg8 hd h;exact .clo _ _ _ h1 h2
  ·exact h.elim
 ·exact zw9 hd h
theorem qy9 (hd:∀ i x,TL.get ρ i=some x→d i):∀ {xs ys:List T},ltAs st ρ B xs ys→xs.length=ys.length∧∀ (j:Nat) (c c':T),xs[j]?=some c→ys[j]?=some c'→Lt st d (rho ρ) B c c'
 | [],[],_=>⟨rfl,fun j c c' h=>by simp at h⟩
 | [],_::_,h=>h.elim
 | _::_,[],h=>h.elim
 | x::xs,y::ys,h=>by
   obtain⟨h1,h2⟩:=h;obtain⟨h3,h4⟩:=qy9 hd h2;refine⟨by simp [h3],fun j c c' hc hc'=>?_⟩;cases j with
   | zero=>simp at hc hc';subst hc hc';exact zx0 hd h1
   | succ j=>exact h4 j c c' (by simpa using hc) (by simpa using hc')
theorem zx1 (hd:∀ i x,TL.get ρ i=some x→d i) {x y:T} (h:ltT st ρ B x y):Lt st d (rho ρ) B x y:=by
 unfold ltT at h;split at h
 ·split at h
  ·obtain⟨h1,h2⟩:=qy9 hd h;exact .tup _ _ h1 h2
  ·exact h.elim
 ·exact zx0 hd h
theorem zx2 {k:Nat} {xs ys:List T} (h:ltXs st ρ B k xs ys) (hd:∀ i x,TL.get ρ i=some x→d i):(∀ y∈ys,y.cells.length=k)∧∀ (j:Nat) (c c':T),(flat xs)[j]?=some c→(flat ys)[j]?=some c'→Lt st d (rho ρ) B c c':=by
 obtain⟨hl,h⟩:=h;have hx:∀ x∈xs,x.cells.length=k:=by
  intro x hx;obtain⟨i,hi,rfl⟩:=CX hx;exact (h i xs[i] (ys[i]'oM) sMp sMp).1
 have hy:∀ y∈ys,y.cells.length=k:=by
  intro y hy;obtain⟨i,hi,rfl⟩:=CX hy;exact (h i (xs[i]'oM) ys[i] sMp sMp).2.1
 refine⟨hy,fun j c c' hc hc'=>?_⟩;have hj:j<xs.length*k:=by rw[← qO hx];exact (List.getElem?_eq_some_iff.1 hc).1
 have hk:0<k:=by
  rcases DQ k with h0 | h0
  ·rw[h0] at hj;simp at hj
  ·exact h0
 have hi:j / k<xs.length:=by rw[Nat.div_lt_iff_lt_mul hk];exact hj
 have he:j=(j / k)*k+j % k:=by rw[Nat.mul_comm];exact (Nat.div_add_mod j k).symm
 have at1:∀ {zs:List T},(∀ z∈zs,z.cells.length=k)→∀ (i m:Nat) (z:T),zs[i]?=some z→m<k→(flat zs)[i*k+m]?=z.cells[m]?:=by
  intro zs
  induction zs with
  | nil=>intro _ i m z hz;simp at hz
  | cons z0 zs ih=>
    intro hk' i m z hz hm;have hz0:=hk' z0 sMp;simp only[flat,Gj];cases i with
    | zero=>simp at hz;subst hz;rw[BK oM];simp
    | succ i=>
      rw[BJ (by rw[hz0,Nat.succ_mul];omega),hz0,show (i+1)*k+m-k=i*k+m by rw[Nat.succ_mul];omega];exact ih (fun z hz=>hk' z (by simp [hz])) i m z (by simpa using hz) hm
 rw[he,at1 hx (j / k) (j % k) xs[j / k] (by simp [hi]) (Nat.mod_lt _ hk)] at hc;rw[he,at1 hy (j / k) (j % k) (ys[j / k]'oM) sMp (Nat.mod_lt _ hk)] at hc';have h3:=(h (j / k) xs[j / k] (ys[j / k]'oM) (by simp [hi]) sMp).2.2;exact (qg8 hd h3).2 _ c c' hc hc'
theorem qq5:∀ {l:Sto},QP st ρ B l→∀ {i k:Nat} {ys:List T} {fz:Bool},TL.get l i=some (.arr k ys fz)→ltO2 st ρ B k ys fz (TL.get ρ i)
 | [],_,i,k,ys,fz,h=>by cases h
 | (j,.dead)::r,hs,i,k,ys,fz,h=>by
   simp only[TL.get] at h;split at h
   ·injection h with h;cases h
   ·exact qq5 (l:=r) hs h
 | (j,.arr k0 y0 f0)::r,hs,i,k,ys,fz,h=>by
   simp only[TL.get] at h;split at h
   ·rename_i hj;subst hj;injection h with h;injection h with h1 h2 h3;subst h1 h2 h3;exact hs.1
   ·exact qq5 (l:=r) hs.2 h
 | (j,.mp es)::r,hs,i,k,ys,fz,h=>by
   simp only[TL.get] at h;split at h
   ·injection h with h;cases h
   ·exact qq5 (l:=r) hs.2 h
 | (j,.full ..)::r,hs,i,k,ys,fz,h=>hs.elim
theorem qK3:∀ {l:Sto},QP st ρ B l→∀ {i:Nat} {es:Es},TL.get l i=some (.mp es)→ltM2 st es (TL.get ρ i)
 | [],_,i,es,h=>by cases h
 | (j,.dead)::r,hs,i,es,h=>by
   simp only[TL.get] at h;split at h
   ·injection h with h;cases h
   ·exact qK3 (l:=r) hs h
 | (j,.arr k0 y0 f0)::r,hs,i,es,h=>by
   simp only[TL.get] at h;split at h
   ·injection h with h;cases h
   ·exact qK3 (l:=r) hs.2 h
 | (j,.mp es0)::r,hs,i,es,h=>by
   simp only[TL.get] at h;split at h
   ·rename_i hj;subst hj;injection h with h;injection h with h;subst h;exact hs.1
   ·exact qK3 (l:=r) hs.2 h
 | (j,.full ..)::r,hs,i,es,h=>hs.elim
theorem qK4:∀ {l:Sto},QP st ρ B l→∀ {i:Nat} {a b:Nat} {g:Bool},TL.get l i≠some (.full a b g)
 | [],_,i,a,b,g,h=>by cases h
 | (j,.dead)::r,hs,i,a,b,g,h=>by
   simp only[TL.get] at h;split at h
   ·injection h with h;cases h
   ·exact qK4 (l:=r) hs h
 | (j,.arr k0 y0 f0)::r,hs,i,a,b,g,h=>by
   simp only[TL.get] at h;split at h
   ·injection h with h;cases h
   ·exact qK4 (l:=r) hs.2 h
 | (j,.mp es0)::r,hs,i,a,b,g,h=>by
   simp only[TL.get] at h;split at h
   ·injection h with h;cases h
   ·exact qK4 (l:=r) hs.2 h
 | (j,.full ..)::r,hs,i,a,b,g,h=>hs.elim
theorem zx3:∀ {l:Sto},zw7 st' ρ l=true→∀ {i:Nat},TL.get l i≠none→TL.get st' i≠none∧TL.get ρ i=some (some i)
 | [],_,i,h=>by simp [TL.get] at h
 | (j,o)::r,hh,i,h=>by
   simp only[zw7,Bq,AY] at hh;simp only[TL.get] at h;split at h
   ·rename_i hj;subst hj;exact⟨by intro hn;simp [hn] at hh,hh.1.2⟩
   ·exact zx3 hh.2 h
theorem jN4 {e:Env} {fr fr':List (Nat×T)} (hr:yz st' ρ=true) (hh:zw7 st' ρ e.st0=true) (hs:QP st ρ B st') (hf:ltFr st ρ B fr fr'):LeS e ⟨fr,st⟩ ⟨fr',st'⟩ (rho ρ) B where
 o:={
  ob:=fun i k ys fz hg=>by
   have h:=qq5 hs hg;unfold ltO2 at h;split at h
   ·rename_i hρ;exact .inl ⟨by simp [rho,hρ],h⟩
   ·rename_i j hρ;unfold ltO1 at h;split at h
    ·rename_i k0 xs f0 hg0;obtain⟨rfl,h2,h3,h4⟩:=h;obtain⟨h5,h6⟩:=zx2 h3 (fun _ _ h=>qO0 hr h);exact .inr ⟨j,xs,f0,by simp [rho,hρ],hg0,h3.1,h2,h5,h6,h4⟩
    ·exact h.elim
   ·exact h.elim
  inj:=fun i1 i2 j _ _ h1 h2=>by
   simp only[yz,Bq,AZ] at hr;unfold rho at h1 h2;split at h1
   ·rename_i j1 g1;split at h2
    ·rename_i j2 g2;injection h1 with h1;injection h2 with h2;subst h1 h2;exact qq4 hr.2 (WN g1) (WN g2)
    ·cases h2
   ·cases h1
  mp:=fun i es hg=>by
   have h:=qK3 hs hg;unfold ltM2 at h;split at h
   ·rename_i j hρ;unfold ltM at h;split at h
    ·rename_i es' hg0;subst h;exact⟨j,by simp [rho,hρ],hg0⟩
    ·exact h.elim
   ·exact h.elim
  nf:=fun i a b g=>qK4 hs }
 fr:=by
  intro t y hy;have:∀ {l:List (Nat×T)},ltFr st ρ B fr l→TL.get l t=some y→ltT st ρ B ((TL.get fr t).getD .junk) y:=by
   intro l
   induction l with
   | nil=>intro _ h;cases h
   | cons p r ih=>
     obtain⟨u,z⟩:=p;intro h hg;simp only[TL.get] at hg;split at hg
     ·rename_i hu;subst hu;injection hg with hg;subst hg;exact h.1
     ·exact ih h.2 hg
  exact zx1 (fun _ _ h=>qO0 hr h) (this hf hy)
 hnd:=fun id hd=>by
  obtain⟨h1,h2⟩:=zx3 hh hd;exact⟨h1,fun k xs fz _=>by simp [rho,h2],fun es _=>by simp [rho,h2]⟩
theorem Le.of {e:Env} {fr fr':List (Nat×T)} (ρ:Ren) (B:List Nat) (hr:yz st' ρ=true) (hh:zw7 st' ρ e.st0=true) (hs:QP st ρ B st') (hf:ltFr st ρ B fr fr'):Le e ⟨fr,st⟩ ⟨fr',st'⟩:=(jN4 hr hh hs hf).le
theorem yx.of {st0:Sto} {x r:T} (ρ:Ren) (B:List Nat) (hr:yz st' ρ=true) (hh:zw7 st' ρ st0=true) (hs:QP st ρ B st') (hf:ltT st ρ B x r):yx st0 x st r st':=
 .les ⟨rho ρ,B,jN4 hr hh hs ⟨by simpa [TL.get] using hf,trivial⟩⟩
theorem yx.cut {st0:Sto} {x r:T} {st st':Sto} (id nid m:Nat) {k:Nat} {xs:List T} (hg:TL.get st id=some (.arr k xs false)) (hn:TL.get st nid=none) (hm:m≤xs.length)
 (h:yx st0 (cut2 id nid xs.length m x) (WM id nid m k xs st) r st'):yx st0 x st r st':=
 fun e he=>(Le.cut id nid m hg hn hm).trans (h e he)
theorem yx.cutv {st0:Sto} {r:T} {st st':Sto} {id n m:Nat} (nid:Nat) {k:Nat} {xs:List T} (hg:TL.get st id=some (.arr k xs false)) (hl:xs.length=n) (hn:TL.get st nid=none) (hm:m≤xs.length)
 (h:yx st0 (.asl nid m) (WM id nid m k xs st) r st'):yx st0 (.vw id n 0 m) st r st':=by
 refine .cut id nid m hg hn hm ?_;have:cut2 id nid xs.length m (.vw id n 0 m) = .asl nid m:=by
  simp [cut2,cut1,cut0,hl]
 rw[this];exact h
theorem qq6 {x:T} (h:imT0 x=true):ltC0 st ρ B x x:=by
 cases x <;> first | (simp [imT0] at h;done) | trivial | rfl
theorem zx4:∀ {l:List T},zq8 l=true→qN9 st ρ B l l
 | [],_=>trivial
 | c::r,h=>by
   simp only[zq8,Bq] at h;exact⟨qq6 h.1,zx4 h.2⟩
theorem jm3 {x:T} (h:imT x=true):ltC st ρ B x x:=by
 cases x with
 | clo f cs=>exact⟨rfl,zx4 h⟩
 | v a=>exact qq6 (st:=st) (ρ:=ρ) (B:=B) (x:=.v a) h
 | sl k xs=>exact qq6 (st:=st) (ρ:=ρ) (B:=B) (x:=.sl k xs) h
 | ip cs=>exact qq6 (st:=st) (ρ:=ρ) (B:=B) (x:=.ip cs) h
 | junk=>trivial
 | ub p q=>exact qq6 (st:=st) (ρ:=ρ) (B:=B) (x:=.ub p q) h
 | _=>simp [imT,imT0] at h
theorem jA {k:Nat} {xs:List T} (h:ImXs k xs):ltXs st ρ B k xs xs:=by
 refine⟨rfl,fun i x y hx hy=>?_⟩;rw[hx] at hy;injection hy with hy;subst hy
 obtain⟨h1,h2⟩:=h x (BX hx);refine⟨h1,h1,?_⟩;clear h1 hx;have:∀ l:List T,imL l=true→ltCs st ρ B l l:=by
  intro l
  induction l with
  | nil=>intro _;trivial
  | cons c r ih=>
    intro hl;simp only[imL,Bq] at hl;refine⟨?_,ih hl.2⟩;exact jm3 hl.1
 exact this _ h2
theorem zk {k:Nat}:ltXs st ρ B k [] []:=⟨rfl,fun i x y hx=>by simp at hx⟩
theorem qZ {k:Nat} {a b c d:List T} (h1:ltXs st ρ B k a c) (h2:ltXs st ρ B k b d):ltXs st ρ B k (a++b) (c++d):=by
 refine⟨by simp [h1.1,h2.1],fun i x y hx hy=>?_⟩;by_cases hi:i<a.length
 ·rw[BK hi] at hx;rw[BK (by rw[← h1.1];exact hi)] at hy;exact h1.2 i x y hx hy
 ·rw[BJ oM] at hx;rw[BJ (by rw[← h1.1];omega),← h1.1] at hy;exact h2.2 _ x y hx hy
theorem zd {k:Nat} {x y:T} {xs ys:List T} (h0:x.cells.length=k∧y.cells.length=k∧ltCs st ρ B x.cells y.cells) (h:ltXs st ρ B k xs ys):ltXs st ρ B k (x::xs) (y::ys):=by
 have h1:ltXs st ρ B k [x] [y]:=by
  refine⟨rfl,fun i a b ha hb=>?_⟩;cases i with
  | zero=>simp at ha hb;subst ha hb;exact h0
  | succ i=>simp at ha
 exact qZ h1 h
theorem qw {α:Type} {k:Nat} {f:α→T} (h:∀ a,(f a).cells.length=k∧imL (f a).cells=true) (l:List α):ImXs k (l.map f):=by
 intro x hx;simp only[Cj] at hx;obtain⟨n,_,rfl⟩:=hx;exact h n
end
end Go.TL
namespace Go.TL
def wrO (st st1 st1':Sto) (ρ1 ρ2:Ren) (id k:Nat) (ys:List T) (fz:Bool) (r:Option (Option Nat)):Prop:=match r with
 | none=>fz=true∧(match TL.get st id with | some (.arr k0 xs _)=>k0=k∧xs=ys | _=>False)∧(∀ p∈ρ1,p.2≠some id)
 | some (some i')=>ltO1 st1' ρ2 [] k ys fz i' (TL.get st1' i')∧(TL.get st id=none∨(TL.get ρ1 i'=some (some id)∧(TL.get st1 i').isSome=true))
 | some none=>False
def wrOk (st st1 st1':Sto) (ρ1 ρ2:Ren):List (Nat×Ob)→Prop
 | []=>True
 | (_,.dead)::r=>wrOk st st1 st1' ρ1 ρ2 r
 | (id,.arr k ys fz)::r=>wrO st st1 st1' ρ1 ρ2 id k ys fz (TL.get ρ2 id)∧wrOk st st1 st1' ρ1 ρ2 r
 | _::_=>False
def zx5:List (Nat×Ob)→Ren→Bool
 | [],_=>true
 | (_,.dead)::r,ρ=>zx5 r ρ
 | (id,.arr _ ys _)::r,ρ=>((rho ρ id).isNone||(flat ys).all noA1)&&zx5 r ρ
 | _::_,_=>false
def fzOk (wr:Sto):List Nat→Bool
 | []=>true
 | i::r=>(match TL.get wr i with | some (.arr _ _ true)=>true | _=>false)&&fzOk wr r
section
variable {P:Program} {st st1 st1':Sto} {ρ1 ρ2:Ren} {B:List Nat} {wr:List (Nat×Ob)}
theorem zj4:∀ {l:List (Nat×Ob)},wrOk st st1 st1' ρ1 ρ2 l→∀ {i k:Nat} {ys:List T} {fz:Bool},TL.get l i=some (.arr k ys fz)→wrO st st1 st1' ρ1 ρ2 i k ys fz (TL.get ρ2 i)
 | [],_,i,k,ys,fz,h=>by cases h
 | (j,.dead)::r,hs,i,k,ys,fz,h=>by
   simp only[TL.get] at h;split at h
   ·injection h with h;cases h
   ·exact zj4 (l:=r) hs h
 | (j,.arr k0 y0 f0)::r,hs,i,k,ys,fz,h=>by
   simp only[TL.get] at h;split at h
   ·rename_i hj;subst hj;injection h with h;injection h with h1 h2 h3;subst h1 h2 h3;exact hs.1
   ·exact zj4 (l:=r) hs.2 h
theorem zF1:∀ {l:List (Nat×Ob)},wrOk st st1 st1' ρ1 ρ2 l→∀ {i:Nat} {es:Es},TL.get l i=some (.mp es)→False
 | [],_,i,es,h=>by cases h
 | (j,.dead)::r,hs,i,es,h=>by
   simp only[TL.get] at h;split at h
   ·injection h with h;cases h
   ·exact zF1 (l:=r) hs h
 | (j,.arr k0 y0 f0)::r,hs,i,es,h=>by
   simp only[TL.get] at h;split at h
   ·injection h with h;cases h
   ·exact zF1 (l:=r) hs.2 h
 | (j,.mp _)::r,hs,i,es,h=>hs.elim
 | (j,.full ..)::r,hs,i,es,h=>hs.elim
theorem zF2:∀ {l:List (Nat×Ob)},wrOk st st1 st1' ρ1 ρ2 l→∀ {i a b:Nat} {g:Bool},TL.get l i=some (.full a b g)→False
 | [],_,i,a,b,g,h=>by cases h
 | (j,.dead)::r,hs,i,a,b,g,h=>by
   simp only[TL.get] at h;split at h
   ·injection h with h;cases h
   ·exact zF2 (l:=r) hs h
 | (j,.arr k0 y0 f0)::r,hs,i,a,b,g,h=>by
   simp only[TL.get] at h;split at h
   ·injection h with h;cases h
   ·exact zF2 (l:=r) hs.2 h
 | (j,.mp _)::r,hs,i,a,b,g,h=>hs.elim
 | (j,.full ..)::r,hs,i,a,b,g,h=>hs.elim
theorem qO2:∀ {l:List (Nat×Ob)} {ρ:Ren},zx5 l ρ=true→∀ {i k:Nat} {ys:List T} {fz:Bool},TL.get l i=some (.arr k ys fz)→rho ρ i≠none→∀ c∈flat ys,noA1 c=true
 | [],ρ,_,i,k,ys,fz,h=>by cases h
 | (j,.dead)::r,ρ,hs,i,k,ys,fz,h=>by
   simp only[TL.get] at h;split at h
   ·injection h with h;cases h
   ·exact qO2 (l:=r) hs h
 | (j,.arr k0 y0 f0)::r,ρ,hs,i,k,ys,fz,h=>by
   simp only[zx5,Bq,DZ] at hs;simp only[TL.get] at h;split at h
   ·rename_i hj;subst hj;injection h with h;injection h with h1 h2 h3;subst h1 h2 h3;intro hn c hc;rcases hs.1 with h1 | h1
    ·rw[Option.isNone_iff_eq_none] at h1;exact absurd h1 hn
    ·exact Bk.1 h1 c hc
   ·exact qO2 (l:=r) hs.2 h
theorem zR4 {wr:Sto}:∀ {B:List Nat},fzOk wr B=true→∀ i∈B,∃ k xs,TL.get wr i=some (.arr k xs true)
 | [],_,i,h=>by simp at h
 | j::r,h,i,hi=>by
   simp only[fzOk,Bq] at h;rcases Ck.1 hi with rfl | hi
   ·have h1:=h.1;split at h1
    ·rename_i k xs hg;exact⟨k,xs,hg⟩
    ·cases h1
   ·exact zR4 h.2 i hi
def qz0:Ren→Bool
 | []=>true
 | (_,some _)::r=>qz0 r
 | _=>false
theorem qO3:∀ {ρ:Ren},qz0 ρ=true→∀ {i:Nat} {x:Option Nat},TL.get ρ i=some x→∃ j,x=some j
 | [],_,i,x,h=>by cases h
 | (j,none)::r,hs,i,x,h=>by simp [qz0] at hs
 | (j,some y)::r,hs,i,x,h=>by
   simp only[TL.get] at h;split at h
   ·injection h with h;exact⟨y,h.symm⟩
   ·exact qO3 (ρ:=r) hs h
theorem Ke {ρ:Ren} {i j:Nat}:rho ρ i=some j↔TL.get ρ i=some (some j):=by
 unfold rho;cases h:TL.get ρ i with
 | none=>simp
 | some x=>cases x <;> simp
theorem jN5 {st':Sto} {ρ:Ren} (h:yz st' ρ=true) {i1 i2 j:Nat} (h1:rho ρ i1=some j) (h2:rho ρ i2=some j):i1=i2:=by
 simp only[yz,Bq,AZ] at h;exact qq4 h.2 (WN (Ke.1 h1)) (WN (Ke.1 h2))
theorem zF3 {ρ:Ren} {i j:Nat} (h:rho ρ i=some j):(ρ.map (·.2)).contains (some j)=true:=by
 simp only[List.contains_eq_mem,AZ,Cj];exact⟨_,WN (Ke.1 h),rfl⟩
def ptw (R:T→T→Prop):List T→List T→Prop
 | [],[]=>True
 | x::xs,y::ys=>R x y∧ptw R xs ys
 | _,_=>False
def ltD (st:Sto) (B:List Nat):Nat→T→T→Prop
 | 0,x,y=>x=y∧imT x=true
 | d+1,x,y=>match y with
   | .sl k ys=>match x with
     | .asl i n=>i∈B∧(match TL.get st i with
       | some (.arr k' xs _)=>k'=k∧xs.length=n∧ptw (fun a b=>a.cells.length=k∧b.cells.length=k∧imL b.cells=true∧ptw (ltD st B d) a.cells b.cells) xs ys
       | _=>False)
     | .v (.slice none 0 0)=>ys=[]
     | x=>x = .sl k ys
   | y=>x=y∧imT x=true
def ltAD (st:Sto) (B:List Nat) (x y:T):Prop:=
 match y with
 | .agg ys=>match x with | .agg xs=>ptw (ltD st B 3) xs ys | _=>False
 | y=>ltD st B 3 x y
theorem qz1 {R:T→T→Prop}:∀ {xs ys:List T},ptw R xs ys→xs.length=ys.length∧∀ (j:Nat) (c c':T),xs[j]?=some c→ys[j]?=some c'→R c c'
 | [],[],_=>⟨rfl,fun j c c' h=>by simp at h⟩
 | [],_::_,h=>h.elim
 | _::_,[],h=>h.elim
 | x::xs,y::ys,h=>by
   obtain⟨h1,h2⟩:=h;obtain⟨h3,h4⟩:=qz1 h2;refine⟨by simp [h3],fun j c c' hc hc'=>?_⟩;cases j with
   | zero=>simp at hc hc';subst hc hc';exact h1
   | succ j=>exact h4 j c c' (by simpa using hc) (by simpa using hc')
theorem zR5 {R:T→T→Prop} {k:Nat}:∀ {xs ys:List T},ptw (fun a b=>a.cells.length=k∧b.cells.length=k∧imL b.cells=true∧ptw R a.cells b.cells) xs ys→ptw R (flat xs) (flat ys)∧(∀ y∈ys,y.cells.length=k)∧∀ c∈flat ys,imT c=true
 | [],[],_=>⟨trivial,sMp,by simp [flat]⟩
 | [],_::_,h=>h.elim
 | _::_,[],h=>h.elim
 | x::xs,y::ys,h=>by
   obtain⟨⟨h1,h2,h3,h4⟩,h5⟩:=h;obtain⟨q1,q2,q3⟩:=zR5 h5;have app:∀ {a b c d:List T},ptw R a b→ptw R c d→ptw R (a++c) (b++d):=by
    intro a
    induction a with
    | nil=>intro b c d h h';cases b with | nil=>exact h' | cons _ _=>exact h.elim
    | cons x a ih=>intro b c d h h';cases b with | nil=>exact h.elim | cons _ _=>exact⟨h.1,ih h.2 h'⟩
   refine⟨by simp only[flat,Gj];exact app h4 q1,?_,?_⟩
   ·intro z hz;rcases Ck.1 hz with rfl | hz
    ·exact h2
    ·exact q2 z hz
   ·intro c hc;simp only[flat,Gj,Dz] at hc;rcases hc with hc | hc
    ·exact qN2 h3 c hc
    ·exact q3 c hc
theorem qO4 {st:Sto} {B:List Nat} {d:Nat→Prop} {ρ:Nat→Option Nat}:∀ {n:Nat} {x y:T},ltD st B n x y→Lt st d ρ B x y
 | 0,x,y,h=>by obtain⟨rfl,h⟩:=h;exact .im _ h
 | n+1,x,y,h=>by
   unfold ltD at h;split at h
   ·rename_i k ys;split at h
    ·rename_i i m;obtain⟨h1,h2⟩:=h;split at h2
     ·rename_i k' xs fz hg;obtain⟨rfl,rfl,h3⟩:=h2;obtain⟨q1,q2,q3⟩:=zR5 h3;exact .shut _ _ _ _ _ fz h1 hg rfl (qz1 h3).1.symm q2 (fun j c c' hc hc'=>qO4 ((qz1 q1).2 j c c' hc hc')) q3
     ·exact h2.elim
    ·subst h;exact .nil k
    ·subst h;exact .im _ rfl
   ·obtain⟨rfl,h⟩:=h;exact .im _ h
theorem zX9 {st:Sto} {B:List Nat} {d:Nat→Prop} {ρ:Nat→Option Nat} {x y:T} (h:ltAD st B x y):Lt st d ρ B x y:=by
 unfold ltAD at h;split at h
 ·split at h
  ·obtain⟨h1,h2⟩:=qz1 h;exact .agg _ _ h1 fun j c c' hc hc'=>qO4 (h2 j c c' hc hc')
  ·exact h.elim
 ·exact qO4 h
theorem zj0.ofL {fid:FuncId} {caps xs ts':List T} {r val:T} (ρ1 ρ2:Ren) (B:List Nat) (wr:List (Nat×Ob)) (hs:Spc P fid ts' st1 r st1')
 (hes:(xs++caps).length=ts'.length∧∀ (j:Nat) (c c':T),(xs++caps)[j]?=some c→ts'[j]?=some c'→Lt st (fun i=>TL.get st1 i≠none) (rho ρ1) B c c') (h1:yz st1 ρ1=true) (ho:QP st ρ1 B st1) (hB:(B.all fun i=>!(ρ1.map (·.2)).contains (some i))=true)
 (hk:(ρ1.all fun p=>match p.2 with | some i=>(TL.get wr i).isSome | none=>true)=true)
 (hw:wrOk st st1 st1' ρ1 ρ2 wr) (h2:yz wr ρ2=true) (h3:qz0 ρ2=true) (hv:ltT st1' ρ2 [] r val)
 (hf:fzOk (wr++st) B=true∨(noA2 val=true∧zx5 wr ρ2=true)):zj0 P st (.clo fid caps) xs val wr (B++wr.map (·.1)):=by
 have d1:∀ i x,TL.get ρ1 i=some x→TL.get st1 i≠none:=fun _ _ h=>qO0 h1 h;have d2:∀ i x,TL.get ρ2 i=some x→TL.get wr i≠none∧rho ρ2 i≠none:=fun i x h=>⟨qO0 h2 h,by
  obtain⟨j,rfl⟩:=qO3 h3 h;rw[Ke.2 h];simp⟩
 refine .inl ⟨fid,caps,ts',st1,st1',r,rho ρ1,rho ρ2,B,rfl,hs,?_⟩;refine⟨hes.1,hes.2,(jN4 (e:={ S:=fun _=>False,base:=0,hnd:=fun _=>False,w0:=default,n:=1,st0:=[] }) (fr:=[]) (fr':=[]) h1 rfl ho trivial).o,fun id hid=>⟨by simp [hid],fun id' hd hr=>?_⟩,fun id' id hd hr=>?_,fun id ob hg=>?_,fun i1 i2 id' _ _ g1 g2=>jN5 h2 g1 g2,zx1 d2 hv,?_⟩
 ·have h5:=Bk.1 hB id hid;rw[zF3 hr] at h5;simp at h5
 ·have h5:=Bk.1 hk _ (WN (Ke.1 hr));intro hn;simp [hn] at h5
 ·refine⟨by simp only[Dz,Cj];exact .inr ⟨_,WN hg,rfl⟩,?_⟩;cases ob with
  | dead=>exact .inl rfl
  | mp es=>exact (zF1 hw hg).elim
  | full i n g=>exact (zF2 hw hg).elim
  | arr k ys fz=>
    have h5:=zj4 hw hg;unfold wrO at h5;split at h5
    ·rename_i h6;obtain⟨rfl,h7,h8⟩:=h5;split at h7
     ·rename_i k0 x0 f0 hg0;obtain⟨rfl,rfl⟩:=h7;refine .inr (.inl ⟨_,_,f0,rfl,hg0,by simp [rho,h6],fun id' hd hr=>?_⟩);exact h8 _ (WN (Ke.1 hr)) rfl
     ·exact h7.elim
    ·rename_i i' h6;obtain⟨h7,h8⟩:=h5;unfold ltO1 at h7;split at h7
     ·rename_i k0 xs f0 hg0;obtain⟨rfl,h9,h10,h11⟩:=h7;obtain⟨h12,h13⟩:=zx2 h10 d2;refine .inr (.inr ⟨k0,ys,fz,i',xs,f0,rfl,Ke.2 h6,hg0,h10.1,h9,h12,h13,?_⟩);rcases h8 with h8 | ⟨h8,h14⟩
      ·exact .inl h8
      ·refine .inr ⟨Ke.2 h8,?_⟩;intro hn;simp [hn] at h14
     ·exact h7.elim
    ·exact h5.elim
 ·rcases hf with hf | ⟨hf,hg⟩
  ·exact .inl (zR4 hf)
  ·exact .inr ⟨hf,fun id k xs fz hw0 hr=>qO2 hg hw0 hr⟩
theorem zj0.of {fid:FuncId} {caps xs ts':List T} {r val:T} (ρ1 ρ2:Ren) (B:List Nat) (wr:List (Nat×Ob)) (hs:Spc P fid ts' st1 r st1')
 (ha:ltAs st ρ1 B (xs++caps) ts') (h1:yz st1 ρ1=true) (ho:QP st ρ1 B st1) (hB:(B.all fun i=>!(ρ1.map (·.2)).contains (some i))=true)
 (hk:(ρ1.all fun p=>match p.2 with | some i=>(TL.get wr i).isSome | none=>true)=true)
 (hw:wrOk st st1 st1' ρ1 ρ2 wr) (h2:yz wr ρ2=true) (h3:qz0 ρ2=true) (hv:ltT st1' ρ2 [] r val)
 (hf:fzOk (wr++st) B=true∨(noA2 val=true∧zx5 wr ρ2=true)):zj0 P st (.clo fid caps) xs val wr (B++wr.map (·.1)):=
 .ofL ρ1 ρ2 B wr hs (qy9 (fun _ _ h=>qO0 h1 h) ha) h1 ho hB hk hw h2 h3 hv hf
theorem qq7 {st:Sto} {ρ:Ren} {B:List Nat} {x:T} (h:imT x=true):ltC st ρ B x x:=by
 exact jm3 h
theorem qY {st:Sto} {ρ:Ren} {B:List Nat}:∀ {l:List T},imL l=true→ltCs st ρ B l l
 | [],_=>trivial
 | c::r,h=>by
   simp only[imL,Bq] at h;exact⟨qq7 h.1,qY h.2⟩
theorem YF {st:Sto} {ρ:Ren} {B:List Nat} {x:T} (h:imA x=true):ltA st ρ B x x:=by
 cases x with
 | agg cs=>exact qY h
 | clo f cs=>exact⟨rfl,qY h⟩
 | tup cs=>simp [imA,imT,imT0] at h
 | junk=>trivial
 | v a=>exact qq7 (st:=st) (ρ:=ρ) (B:=B) (x:=.v a) h
 | sl k xs=>exact qq7 (st:=st) (ρ:=ρ) (B:=B) (x:=.sl k xs) h
 | ptr a b c d=>exact qq7 (st:=st) (ρ:=ρ) (B:=B) (x:=.ptr a b c d) h
 | ip cs=>exact qq7 (st:=st) (ρ:=ρ) (B:=B) (x:=.ip cs) h
 | asl a b=>exact qq7 (st:=st) (ρ:=ρ) (B:=B) (x:=.asl a b) h
 | ub a b=>exact qq7 (st:=st) (ρ:=ρ) (B:=B) (x:=.ub a b) h
 | vw a b c d=>exact qq7 (st:=st) (ρ:=ρ) (B:=B) (x:=.vw a b c d) h
 | mp a=>exact qq7 (st:=st) (ρ:=ρ) (B:=B) (x:=.mp a) h
theorem qz2 {st:Sto} {ρ:Ren} {B:List Nat}:∀ {l:List T},imAL l=true→ltAs st ρ B l l
 | [],_=>trivial
 | c::r,h=>by
   simp only[imAL,Bq] at h;exact⟨YF h.1,qz2 h.2⟩
theorem qj9 {st:Sto} {ρ:Ren} {B:List Nat} {x:T} (h:YM x=true):ltT st ρ B x x:=by
 cases x with
 | tup cs=>exact qz2 h
 | agg cs=>exact YF (st:=st) (ρ:=ρ) (B:=B) (x:=.agg cs) h
 | clo f cs=>exact YF (st:=st) (ρ:=ρ) (B:=B) (x:=.clo f cs) h
 | junk=>trivial
 | v a=>exact YF (st:=st) (ρ:=ρ) (B:=B) (x:=.v a) h
 | sl k xs=>exact YF (st:=st) (ρ:=ρ) (B:=B) (x:=.sl k xs) h
 | ptr a b c d=>exact YF (st:=st) (ρ:=ρ) (B:=B) (x:=.ptr a b c d) h
 | ip cs=>exact YF (st:=st) (ρ:=ρ) (B:=B) (x:=.ip cs) h
 | asl a b=>exact YF (st:=st) (ρ:=ρ) (B:=B) (x:=.asl a b) h
 | ub a b=>exact YF (st:=st) (ρ:=ρ) (B:=B) (x:=.ub a b) h
 | vw a b c d=>exact YF (st:=st) (ρ:=ρ) (B:=B) (x:=.vw a b c d) h
 | mp a=>exact YF (st:=st) (ρ:=ρ) (B:=B) (x:=.mp a) h
variable {e:Env} {kss:List (Nat×List Nat)} {Q:Ex→St→Prop} {K:List KF} {rows:Option (List Nat)} {ks:List Nat} {nid:Nat} {ops:List ROp} {F:XF} {acc:Acc}
theorem C1.of {fid:FuncId} {caps xs ts':List T} {r val:T} {d:Option Nat} (ρ1 ρ2:Ren) (B:List Nat) (wr:List (Nat×Ob)) (hs:Spc P fid ts' st1 r st1')
 (ha:ltAs st ρ1 B (xs++caps) ts') (h1:yz st1 ρ1=true) (ho:QP st ρ1 B st1) (hB:(B.all fun i=>!(ρ1.map (·.2)).contains (some i))=true)
 (hk:(ρ1.all fun p=>match p.2 with | some i=>(TL.get wr i).isSome | none=>true)=true)
 (hw:wrOk st st1 st1' ρ1 ρ2 wr) (h2:yz wr ρ2=true) (h3:qz0 ρ2=true) (hv:ltT st1' ρ2 [] r val)
 (hf:fzOk (wr++st) B=true∨(noA2 val=true∧zx5 wr ρ2=true))
 (h:R P e kss Q rows ks K nid ops (putX F d (.p val)) (stUp st wr) (acc++[(B++wr.map (·.1),wr.map (·.1))])):C1 P e kss Q rows ks K (.clo fid caps) xs d nid ops F st acc:=
 ⟨val,wr,_,.of ρ1 ρ2 B wr hs ha h1 ho hB hk hw h2 h3 hv hf,h⟩
theorem C2.of {L:List (Nat×Bool)} {c:Prop} {fid:FuncId} {caps xs ts':List T} {r val:T} {d:Option Nat} (ρ1:Ren) (B:List Nat) (hs:c→Spc P fid ts' st1 r st1')
 (ha:c→ltAs st ρ1 B (xs++caps) ts') (h1:yz st1 ρ1=true) (ho:c→QP st ρ1 B st1) (hB:(B.all fun i=>!(ρ1.map (·.2)).contains (some i))=true)
 (hk:(ρ1.all fun p=>match p.2 with | some _=>false | none=>true)=true) (hv:c→ltT st1' [] [] r val)
 (hf:c→fzOk st B=true∨noA2 val=true)
 (h:R P e kss Q rows ks K nid ops (putX F d (.g L c val)) st (acc++[(B++[],[])])):C2 P e kss Q rows ks K L c (.clo fid caps) xs d nid ops F st acc:=
 ⟨val,[],_,fun hc=>.of ρ1 [] B [] (hs hc) (ha hc) h1 (ho hc) hB (Bk.2 fun p hp=>by
   have:=Bk.1 hk p hp;split <;> simp_all) trivial rfl rfl (hv hc) (by rcases hf hc with h | h;exact .inl h;exact .inr ⟨h,rfl⟩),.inl ⟨rfl,h⟩⟩
theorem C1.lend {fid:FuncId} {caps xs ts':List T} {r:T} {d:Option Nat} (B:List Nat) (hs:Spc P fid ts' [] r [])
 (ha:ltAs st [] B (xs++caps) ts') (h2:YM r=true) (h3:noA2 r=true)
 (h:R P e kss Q rows ks K nid ops (putX F d (.p r)) st (acc++[(B++[],[])])):C1 P e kss Q rows ks K (.clo fid caps) xs d nid ops F st acc:=
 .of [] [] B [] hs ha rfl trivial sMp rfl trivial rfl rfl (qj9 h2) (.inr ⟨h3,rfl⟩) h
theorem C2.lend {L:List (Nat×Bool)} {c:Prop} {fid:FuncId} {caps xs ts':List T} {r:T} {d:Option Nat} (B:List Nat) (hs:c→Spc P fid ts' [] r [])
 (ha:c→ltAs st [] B (xs++caps) ts') (h2:YM r=true) (h3:noA2 r=true)
 (h:R P e kss Q rows ks K nid ops (putX F d (.g L c r)) st (acc++[(B++[],[])])):C2 P e kss Q rows ks K L c (.clo fid caps) xs d nid ops F st acc:=
 .of [] B hs ha rfl (fun _=>trivial) sMp rfl (fun _=>qj9 h2) (fun _=>.inr h3) h
theorem ptwA {st:Sto} {B:List Nat} {d:Nat→Prop} {ρ:Nat→Option Nat} {xs ys:List T} (h:ptw (ltAD st B) xs ys):xs.length=ys.length∧∀ (j:Nat) (c c':T),xs[j]?=some c→ys[j]?=some c'→Lt st d ρ B c c':=
 ⟨(qz1 h).1,fun j c c' hc hc'=>zX9 ((qz1 h).2 j c c' hc hc')⟩
theorem C1.lendD {fid:FuncId} {caps xs ts':List T} {r:T} {d:Option Nat} (B:List Nat) (hs:Spc P fid ts' [] r [])
 (ha:ptw (ltAD st B) (xs++caps) ts') (h2:YM r=true) (h3:noA2 r=true)
 (h:R P e kss Q rows ks K nid ops (putX F d (.p r)) (stUp st []) (acc++[(B++([]:List (Nat×Ob)).map (·.1),([]:List (Nat×Ob)).map (·.1))])):C1 P e kss Q rows ks K (.clo fid caps) xs d nid ops F st acc:=
 ⟨r,[],_,.ofL [] [] B [] hs (ptwA ha) rfl trivial sMp rfl trivial rfl rfl (qj9 h2) (.inr ⟨h3,rfl⟩),h⟩
theorem C2.lendD {L:List (Nat×Bool)} {c:Prop} {fid:FuncId} {caps xs ts':List T} {r:T} {d:Option Nat} (B:List Nat) (hs:c→Spc P fid ts' [] r [])
 (ha:c→ptw (ltAD st B) (xs++caps) ts') (h2:YM r=true) (h3:noA2 r=true)
 (h:R P e kss Q rows ks K nid ops (putX F d (.g L c r)) st (acc++[(B++[],[])])):C2 P e kss Q rows ks K L c (.clo fid caps) xs d nid ops F st acc:=
 ⟨r,[],_,fun hc=>.ofL [] [] B [] (hs hc) (ptwA (ha hc)) rfl trivial sMp rfl trivial rfl rfl (qj9 h2) (.inr ⟨h3,rfl⟩),.inl ⟨rfl,h⟩⟩
end
end Go.TL
namespace Go.TL
theorem tl:type_of% (
Az @jE1 (Az @jE2 (Az @jR8 (Az @je5 (Az @jR9 (Az @je6 (Az @jE3 (Az @je7 (Az @jS1 (Az @jS2 (Az @jS3 (Az @zd4 (Az @zt0 (Az @je9 (Az @qN3 (Az @qE2 (Az @jS4 (Az @jf0 (Az @jf1 (Az @R_op (Az @jS5 (Az @jf2 (Az @jf3 (Az @jf4 (Az @jS7 (Az @jS8 (Az @jf5 (Az @jf6 (Az @jT1 (Az @jS9 (Az @jT0 (Az @zw6 (Az @jm1 (Az @jI5 (Az @zK8 (Az @zt1 (Az @zt2 (Az @zt3 (Az @zt4 (Az @zd5 (Az @jf9 (Az @jg0 (Az @zd6 (Az @jE4 (Az @jg1 (Az @jT2 (Az @zK9 (Az @jT3 (Az @jg2 (Az @jE5 (Az @jE6 (Az @zL0 (Az @zL1 (Az @jE7 (Az @jg3 (Az @jg4 (Az @jE8 (Az @jE9 (Az @jF0 (Az @jg5 (Az @jF1 (Az @jg6 (Az @zL2 (Az @zL3 (Az @zL4 (Az @jF2 (Az @jF3 (Az @jg7 (Az @jg8 (Az @jg9 (Az @jF4 (Az @jF5 (Az @zL5 (Az @zL6 (Az @jh0 (Az @zL7 (Az @zd7 (Az @jh1 (Az @jh2 (Az @jF6 (Az @jF7 (Az @rv_t (Az @rv_k (Az @zd8 (Az @qN4 (Az @jh3 (Az @jh4 (Az @jh5 (Az @jh6 (Az @jh7 (Az @zL8 (Az @jh8 (Az @jm2 (Az @jI7 (Az @jh9 (Az @ji0 (Az @ji2 (Az @jk1 (Az @zN2 (Az @ze2 (Az @qN6 (Az @zN0 (Az @ze3 (Az @qN7 (Az @zN1 (Az @zu3 (Az @jk4 (Az @jH5 (Az @jH6 (Az @zP0 (Az @zu4 (Az @ze4 (Az @jU2 (Az @jU3 (Az @jU4 (Az @ji3 (Az @zt7 (Az @qN8 (Az @qE3 (Az @qE4 (Az @ze5 (Az @jS0 (Az @je8 (Az @ji1 (Az @jF8 (Az @jF9 (Az @jG0 (Az @zM1 (Az @zt9 (Az @ji4 (Az @ji5 (Az @zL9 (Az @zt5 (Az @zd9 (Az @zM0 (Az @zM2 (Az @zt8 (Az @qN5 (Az @zu0 (Az @zu1 (Az @zu2 (Az @zM3 (Az @ji6 (Az @ji7 (Az @jG1 (Az @ji8 (Az @ji9 (Az @ze0 (Az @jj0 (Az @jG2 (Az @jT5 (Az @jG3 (Az @jG4 (Az @jT6 (Az @jj1 (Az @jG5 (Az @jj2 (Az @jj3 (Az @jG6 (Az @jj4 (Az @jj5 (Az @jG7 (Az @jG8 (Az @zM4 (Az @zM5 (Az @jj6 (Az @jj7 (Az @zM6 (Az @zM7 (Az @zM8 (Az @jj8 (Az @ze1 (Az @jG9 (Az @jj9 (Az @zF0 (Az @zP1 (Az @jH0 (Az @zM9 (Az @jk5 (Az @jH7 (Az @zj3 (Az @jk0 (Az @jH8 (Az @zu6 (Az @ze6 (Az @jH9 (Az @jk6 (Az @zP2 (Az @zP4 (Az @jI0 (Az @jk7 (Az @zP3 (Az @jk8 (Az @zP5 (Az @zP6 (Az @jk9 (Az @jI1 (Az @zP7 (Az @jI2 (Az @jl1 (Az @zP8 (Az @zP9 (Az @jl3 (Az @jl0 (Az @jl2 (Az @zQ0 (Az @zQ1 (Az @zu7 (Az @zu8 (Az @zu9 (Az @zv0 (Az @zv1 (Az @zv2 (Az @qc0 (Az @zQ2 (Az @zv4 (Az @zQ3 (Az @jl4 (Az @zv3 (Az @zv5 (Az @zQ4 (Az @zv6 (Az @zv7 (Az @zQ5 (Az @jI3 (Az @jl5 (Az @zQ6 (Az @ze7 (Az @zQ7 (Az @zv8 (Az @ze8 (Az @zv9 (Az @ze9 (Az @jI4 (Az @jl6 (Az @jl7 (Az @zQ8 (Az @zQ9 (Az @jl8 (Az @zR0 (Az @zw0 (Az @zf0 (Az @jl9 (Az @zR1 (Az @jm0 (Az @zw1 (Az @zR2 (Az @zw2 (Az @zR3 (Az @zw3 (Az @zw4 (@zw5)))))))))))))))))))))))))))))))))))))))))))))))))))))))))))))))))))))))))))))))))))))))))))))))))))))))))))))))))))))))))))))))))))))))))))))))))))))))))))))))))))))))))))))))))))))))))))))))))))))))))))))))))))))))))))))))))))))))))))))))))))))))))))):=Az @jE1 (Az @jE2 (Az @jR8 (Az @je5 (Az @jR9 (Az @je6 (Az @jE3 (Az @je7 (Az @jS1 (Az @jS2 (Az @jS3 (Az @zd4 (Az @zt0 (Az @je9 (Az @qN3 (Az @qE2 (Az @jS4 (Az @jf0 (Az @jf1 (Az @R_op (Az @jS5 (Az @jf2 (Az @jf3 (Az @jf4 (Az @jS7 (Az @jS8 (Az @jf5 (Az @jf6 (Az @jT1 (Az @jS9 (Az @jT0 (Az @zw6 (Az @jm1 (Az @jI5 (Az @zK8 (Az @zt1 (Az @zt2 (Az @zt3 (Az @zt4 (Az @zd5 (Az @jf9 (Az @jg0 (Az @zd6 (Az @jE4 (Az @jg1 (Az @jT2 (Az @zK9 (Az @jT3 (Az @jg2 (Az @jE5 (Az @jE6 (Az @zL0 (Az @zL1 (Az @jE7 (Az @jg3 (Az @jg4 (Az @jE8 (Az @jE9 (Az @jF0 (Az @jg5 (Az @jF1 (Az @jg6 (Az @zL2 (Az @zL3 (Az @zL4 (Az @jF2 (Az @jF3 (Az @jg7 (Az @jg8 (Az @jg9 (Az @jF4 (Az @jF5 (Az @zL5 (Az @zL6 (Az @jh0 (Az @zL7 (Az @zd7 (Az @jh1 (Az @jh2 (Az @jF6 (Az @jF7 (Az @rv_t (Az @rv_k (Az @zd8 (Az @qN4 (Az @jh3 (Az @jh4 (Az @jh5 (Az @jh6 (Az @jh7 (Az @zL8 (Az @jh8 (Az @jm2 (Az @jI7 (Az @jh9 (Az @ji0 (Az @ji2 (Az @jk1 (Az @zN2 (Az @ze2 (Az @qN6 (Az @zN0 (Az @ze3 (Az @qN7 (Az @zN1 (Az @zu3 (Az @jk4 (Az @jH5 (Az @jH6 (Az @zP0 (Az @zu4 (Az @ze4 (Az @jU2 (Az @jU3 (Az @jU4 (Az @ji3 (Az @zt7 (Az @qN8 (Az @qE3 (Az @qE4 (Az @ze5 (Az @jS0 (Az @je8 (Az @ji1 (Az @jF8 (Az @jF9 (Az @jG0 (Az @zM1 (Az @zt9 (Az @ji4 (Az @ji5 (Az @zL9 (Az @zt5 (Az @zd9 (Az @zM0 (Az @zM2 (Az @zt8 (Az @qN5 (Az @zu0 (Az @zu1 (Az @zu2 (Az @zM3 (Az @ji6 (Az @ji7 (Az @jG1 (Az @ji8 (Az @ji9 (Az @ze0 (Az @jj0 (Az @jG2 (Az @jT5 (Az @jG3 (Az @jG4 (Az @jT6 (Az @jj1 (Az @jG5 (Az @jj2 (Az @jj3 (Az @jG6 (Az @jj4 (Az @jj5 (Az @jG7 (Az @jG8 (Az @zM4 (Az @zM5 (Az @jj6 (Az @jj7 (Az @zM6 (Az @zM7 (Az @zM8 (Az @jj8 (Az @ze1 (Az @jG9 (Az @jj9 (Az @zF0 (Az @zP1 (Az @jH0 (Az @zM9 (Az @jk5 (Az @jH7 (Az @zj3 (Az @jk0 (Az @jH8 (Az @zu6 (Az @ze6 (Az @jH9 (Az @jk6 (Az @zP2 (Az @zP4 (Az @jI0 (Az @jk7 (Az @zP3 (Az @jk8 (Az @zP5 (Az @zP6 (Az @jk9 (Az @jI1 (Az @zP7 (Az @jI2 (Az @jl1 (Az @zP8 (Az @zP9 (Az @jl3 (Az @jl0 (Az @jl2 (Az @zQ0 (Az @zQ1 (Az @zu7 (Az @zu8 (Az @zu9 (Az @zv0 (Az @zv1 (Az @zv2 (Az @qc0 (Az @zQ2 (Az @zv4 (Az @zQ3 (Az @jl4 (Az @zv3 (Az @zv5 (Az @zQ4 (Az @zv6 (Az @zv7 (Az @zQ5 (Az @jI3 (Az @jl5 (Az @zQ6 (Az @ze7 (Az @zQ7 (Az @zv8 (Az @ze8 (Az @zv9 (Az @ze9 (Az @jI4 (Az @jl6 (Az @jl7 (Az @zQ8 (Az @zQ9 (Az @jl8 (Az @zR0 (Az @zw0 (Az @zf0 (Az @jl9 (Az @zR1 (Az @jm0 (Az @zw1 (Az @zR2 (Az @zw2 (Az @zR3 (Az @zw3 (Az @zw4 (@zw5)))))))))))))))))))))))))))))))))))))))))))))))))))))))))))))))))))))))))))))))))))))))))))))))))))))))))))))))))))))))))))))))))))))))))))))))))))))))))))))))))))))))))))))))))))))))))))))))))))))))))))))))))))))))))))))))))))))))))))))))))))))))))))
theorem tl2:type_of% (
Az @Option.getD_some.{0} (Az @Option.isSome_some.{0} (Az @List.map_cons.{0,0} (Az @List.map_nil.{0,0} (Az @List.all_cons.{0} (Az @List.all_nil.{0} (Az @List.contains_cons.{0} (Az @List.contains_nil.{0} (Az @Bool.and_true (Az @Fj (Az @Bool.and_self (Az @Bool.or_true (Az @Bool.true_or (Az @Bool.or_false (Az @Bool.false_or (Az @true_and (Az @and_true (Az @BEq.rfl.{0} (Az @forall_const.{0} (Az @true_implies (Az @implies_true.{0} (Az @cond_true.{1} (Az @cond_false.{1} (Az @Bool.true_eq_false (Az @EX (Az @false_implies (Az @Bool.not_true (Az @Bool.not_false (Az @List.append_nil.{0} (Az @eq_self.{1} (Az @imp_self (Az @Bx (Az @jI6 (Az @and_false (Az @false_and (Az @or_false (Az @false_or (Az @List.length_cons.{0} (Az @List.length_nil.{0} (Az @List.length_map.{0,0} (Az @List.length_append.{0} (@and_self)))))))))))))))))))))))))))))))))))))))))):=Az @Option.getD_some.{0} (Az @Option.isSome_some.{0} (Az @List.map_cons.{0,0} (Az @List.map_nil.{0,0} (Az @List.all_cons.{0} (Az @List.all_nil.{0} (Az @List.contains_cons.{0} (Az @List.contains_nil.{0} (Az @Bool.and_true (Az @Fj (Az @Bool.and_self (Az @Bool.or_true (Az @Bool.true_or (Az @Bool.or_false (Az @Bool.false_or (Az @true_and (Az @and_true (Az @BEq.rfl.{0} (Az @forall_const.{0} (Az @true_implies (Az @implies_true.{0} (Az @cond_true.{1} (Az @cond_false.{1} (Az @Bool.true_eq_false (Az @EX (Az @false_implies (Az @Bool.not_true (Az @Bool.not_false (Az @List.append_nil.{0} (Az @eq_self.{1} (Az @imp_self (Az @Bx (Az @jI6 (Az @and_false (Az @false_and (Az @or_false (Az @false_or (Az @List.length_cons.{0} (Az @List.length_nil.{0} (Az @List.length_map.{0,0} (Az @List.length_append.{0} (@and_self)))))))))))))))))))))))))))))))))))))))))
theorem tl4:type_of% (
Az @jT7 (Az @jk2 (Az @jT8 (Az @jT9 (Az @jU0 (Az @jU1 (Az @zN3 (Az @zN4 (Az @zN5 (Az @zN6 (Az @zN7 (Az @zN8 (Az @zN9 (Az @zO0 (Az @zO1 (Az @zO2 (Az @jH1 (Az @jH2 (Az @jH3 (Az @jH4 (Az @jk3 (Az @zO3 (Az @zO4 (Az @zO5 (Az @zO6 (Az @zO7 (Az @zO8 (Az @zO9 (Az @qE5 (Az @qE6 (@zu5))))))))))))))))))))))))))))))):=Az @jT7 (Az @jk2 (Az @jT8 (Az @jT9 (Az @jU0 (Az @jU1 (Az @zN3 (Az @zN4 (Az @zN5 (Az @zN6 (Az @zN7 (Az @zN8 (Az @zN9 (Az @zO0 (Az @zO1 (Az @zO2 (Az @jH1 (Az @jH2 (Az @jH3 (Az @jH4 (Az @jk3 (Az @zO3 (Az @zO4 (Az @zO5 (Az @zO6 (Az @zO7 (Az @zO8 (Az @zO9 (Az @qE5 (Az @qE6 (@zu5))))))))))))))))))))))))))))))
end Go.TL
namespace Go.TL
abbrev vL (bs:List UInt8):T:=.sl 1 (bs.map Qm)
def u8 (n:Int):UInt8:=UInt8.ofNat (n % 256).toNat
theorem jU7 (n:Int):((u8 n).toNat:Int)=n % 256:=by
 unfold u8;have h:(n % 256).toNat<256:=by omega
 rw[UInt8.toNat_ofNat'];omega
theorem zF4 (b:UInt8):(b.toNat:Int)<256:=by have:=b.toNat_lt;omega
theorem zf2 {b:UInt8}:(Qm b).cells=[Qm b]:=rfl
theorem zx6 {st:Sto} {b:UInt8}:live st (Qm b)=True:=by simp [Qm,live,Value.oneCell']
theorem zf3 {bs:List UInt8} {i:Nat} (h:i<bs.length):(bs.map Qm).getD i .junk = .v (.int .u8 (bs.getD i 0).toNat):=by
 simp [List.getD,CK h,Qm]
theorem qE7 (bs:List UInt8):(bs.map Qm).map qj7=bs:=by
 induction bs with
 | nil=>rfl
 | cons b r ih=>
   simp only[List.map_cons,ih]
   congr 1
   simp [Qm,qj7]
theorem zx7 {bs:List UInt8}:∀ y∈bs.map Qm,ZE y=true:=by
 intro y hy;obtain⟨b,_,rfl⟩:=Cj.1 hy
 rfl
theorem zf4 {bs:List UInt8}:(∀ y∈bs.map Qm,ZE y=true)=True:=eq_true zx7
theorem jm4 {α:Type} {f:α→T} (h:∀ a,imL (f a).cells=true) (l:List α):zi0 (l.map f):=by
 intro x hx c hc;obtain⟨a,_,rfl⟩:=Cj.1 hx;exact qN2 (h a) c hc
theorem qO5 {bs:List UInt8}:zi0 (bs.map Qm)=True:=eq_true (jm4 (fun _=>rfl) bs)
theorem qc1 {α β:Type} (f:α→β) (a b:Int) (l:List α):cutT a b (l.map f)=(cutT a b l).map f:=by
 simp [cutT,List.map_take,List.map_drop]
theorem jy3 {α:Type} {a:Nat} {l:List α}:cutT (a:Int) (l.length:Int) l=l.drop a:=by simp [cutT]
theorem qO6 {α:Type} {b:Nat} {l:List α}:cutT 0 (b:Int) l=l.take b:=by simp [cutT]
theorem zj5 {k:Nat}:ImXs k []=True:=by simp [ImXs]
abbrev vIs (l:List Int):T:=.sl 1 (l.map vI)
theorem qj {α:Type} {l:List α} {i:Nat} {d:α} (h:i<l.length):l.getD i d=l[i]:=by simp [List.getD,h]
def frzC (i:Nat) (o:Option Ob) (l:List (Nat×Ob)):List (Nat×Ob):=match o with
 | some (.arr k xs _)=>(i,.arr k xs true)::l
 | _=>l
def frz (st:Sto):List Nat→List (Nat×Ob)
 | []=>[]
 | i::r=>frzC i (TL.get st i) (frz st r)
def jy4 (st:Sto) (i:Nat):Bool:=match TL.get st i with | some (.arr ..)=>true | _=>false
theorem jm5 {st:Sto}:frz st []=[]:=iR
theorem qK5 {st:Sto} {i:Nat} {r:List Nat}:frz st (i::r)=frzC i (TL.get st i) (frz st r):=iR
theorem zj6 {i k:Nat} {xs:List T} {fz:Bool} {l:List (Nat×Ob)}:frzC i (some (.arr k xs fz)) l=(i,.arr k xs true)::l:=iR
theorem WO {st:Sto}:∀ (B:List Nat),wrOk st [] [] [] [] (frz st B)
 | []=>trivial
 | i::r=>by
   rw[qK5];cases h:TL.get st i with
   | none=>exact WO r
   | some o=>cases o with
     | dead=>exact WO r
     | mp es=>exact WO r
     | full i n g=>exact WO r
     | arr k xs fz=>
       refine⟨?_,WO r⟩;simp only[TL.get,wrO,h];exact⟨trivial,⟨trivial,trivial⟩,sMp⟩
theorem zF5 {st:Sto}:∀ (B:List Nat) (i:Nat),i∈B→jy4 st i=true→∃ k xs,TL.get (frz st B) i=some (.arr k xs true)
 | [],i,h,_=>by simp at h
 | j::r,i,h,hi=>by
   rw[qK5];by_cases hj:j=i
   ·subst hj;unfold jy4 at hi;split at hi
    ·rename_i k xs fz hg;rw[hg,zj6];exact⟨k,xs,by simp [TL.get]⟩
    ·cases hi
   ·obtain⟨k,xs,h3⟩:=zF5 r i (by rcases Ck.1 h with h | h;exact absurd h.symm hj;exact h) hi;refine⟨k,xs,?_⟩;unfold frzC;split
    ·simp [TL.get,hj,h3]
    ·exact h3
theorem zF6 {wr:Sto}:∀ {B:List Nat},(∀ i∈B,∃ k xs,TL.get wr i=some (.arr k xs true))→fzOk wr B=true
 | [],_=>rfl
 | i::r,h=>by
   obtain⟨k,xs,h1⟩:=h i sMp;simp only[fzOk,h1,Fj];exact zF6 fun j hj=>h j (by simp [hj])
section
variable {P:Program} {st:Sto} {e:Env} {kss:List (Nat×List Nat)} {Q:Ex→St→Prop} {K:List KF} {rows:Option (List Nat)} {ks:List Nat} {nid:Nat} {ops:List ROp} {F:XF} {acc:Acc}
theorem C1.shut {fid:FuncId} {caps xs ts':List T} {r:T} {d:Option Nat} (B:List Nat) (hs:Spc P fid ts' [] r [])
 (ha:ltAs st [] B (xs++caps) ts') (h2:YM r=true) (hB:B.all (jy4 st)=true)
 (h:R P e kss Q rows ks K nid ops (putX F d (.p r)) (stUp st (frz st B)) (acc++[(B++(frz st B).map (·.1),(frz st B).map (·.1))])):C1 P e kss Q rows ks K (.clo fid caps) xs d nid ops F st acc:=
 .of [] [] B (frz st B) hs ha rfl trivial sMp rfl (WO B) rfl rfl (qj9 h2) (.inl (zF6 fun i hi=>by
  obtain⟨k,xs,h3⟩:=zF5 B i hi (Bk.1 hB i hi);exact⟨k,xs,by rw[jy,h3];rfl⟩)) h
theorem C1.shutD {fid:FuncId} {caps xs ts':List T} {r:T} {d:Option Nat} (B:List Nat) (hs:Spc P fid ts' [] r [])
 (ha:ptw (ltAD st B) (xs++caps) ts') (h2:YM r=true) (hB:B.all (jy4 st)=true)
 (h:R P e kss Q rows ks K nid ops (putX F d (.p r)) (stUp st (frz st B)) (acc++[(B++(frz st B).map (·.1),(frz st B).map (·.1))])):C1 P e kss Q rows ks K (.clo fid caps) xs d nid ops F st acc:=
 ⟨r,frz st B,_,.ofL [] [] B (frz st B) hs (ptwA ha) rfl trivial sMp rfl (WO B) rfl rfl (qj9 h2) (.inl (zF6 fun i hi=>by
   obtain⟨k,xs,h3⟩:=zF5 B i hi (Bk.1 hB i hi);exact⟨k,xs,by rw[jy,h3];rfl⟩)),h⟩
end
section
variable {st:Sto}
theorem zx8 {n:Nat} {d:T}:([]:List T).getD n d=d:=iR
theorem zf5:T.junk.cells=[.junk]:=iR
theorem zR6:conT st .junk=none:=iR
theorem zf6 {p:Prop}:jy2 none p=none:=iR
theorem zx9 {op:BinOp} {ib:Bool} {y:T}:binR op ib .junk y=none:=by cases y <;> rfl
theorem zf7 {op:BinOp} {ib:Bool} {y:T}:binR op ib (.v undef) y=none:=by
 cases y <;> first | rfl | (rename_i v;cases v <;> rfl)
theorem zy0 {cells:List T}:zi7 cells []=some cells:=iR
theorem zf8 {cells:List T} {off n:Nat} {x:T} {r:List ((Nat×Nat)×T)}:zi7 cells (((off,n),x)::r)=if x.cells.length=n∧off+n≤cells.length then zi7 (cells.take off++x.cells++cells.drop (off+n)) r else none:=iR
theorem jm6 {a b:ByteArray}:strT .eql a b=retB (a.toList==b.toList):=iR
theorem jm7 {a b:ByteArray}:strT .neq a b=retB (!(a.toList==b.toList)):=iR
theorem jm8 {a b:ByteArray}:strT .add a b=some ⟨a.size+b.size≤9223372036854775807,.v (.string (a++b)),[]⟩:=iR
theorem jm9 {a b:ByteArray}:strT .gtr a b=retB (!(Op.bytesLess a.toList b.toList||a.toList==b.toList)):=iR
theorem jn0 {a b:ByteArray}:strT .leq a b=retB (Op.bytesLess a.toList b.toList||a.toList==b.toList):=iR
theorem jn1 {a b:ByteArray}:strT .geq a b=retB (!Op.bytesLess a.toList b.toList):=iR
theorem jn2 {a b:ByteArray}:strT .lss a b=retB (Op.bytesLess a.toList b.toList):=iR
theorem ex_0 {a:T} {r:List T}:ZH (.tup (a::r)) 0=ret a:=iR
theorem ex_1 {a:T} {r:List T} {n:Nat}:ZH (.tup (a::r)) (n+1)=ZH (.tup r) n:=by simp [ZH]
theorem mn_2 {a b:Int}:qF5 minI [vI a,vI b]=retI .i64 (minI a b):=iR
theorem mx_2 {a b:Int}:qF5 maxI [vI a,vI b]=retI .i64 (maxI a b):=iR
theorem tl3:type_of% (Az @zx8 (Az @zf5 (Az @zR6 (Az @zf6 (Az @zx9 (Az @zf7 (Az @jf7 (Az @qO5 (Az @jm5 (Az @qK5 (Az @zj6 (Az @zy0 (Az @zf8 (Az @jm6 (Az @jm7 (Az @jm8 (Az @jn2 (Az @jm9 (Az @jn0 (Az @jn1 (Az @ex_0 (Az @ex_1 (Az @mn_2 (Az @mx_2 (Az @ByteArray.toList_mk (Az @qE7 (Az @zf4 (Az @zf2 (Az @zx6 (Az @List.take_succ_cons.{0} (Az @List.drop_succ_cons.{0} (Az @List.take_zero.{0} (Az @List.drop_zero.{0} (Az @List.take_nil.{0} (Az @List.drop_nil.{0} (Az @List.cons_append.{0} (Az @List.nil_append.{0} (Az @Nat.zero_add (Az @List.set_cons_zero.{0} (@List.set_cons_succ.{0})))))))))))))))))))))))))))))))))))))))):=
 Az @zx8 (Az @zf5 (Az @zR6 (Az @zf6 (Az @zx9 (Az @zf7 (Az @jf7 (Az @qO5 (Az @jm5 (Az @qK5 (Az @zj6 (Az @zy0 (Az @zf8 (Az @jm6 (Az @jm7 (Az @jm8 (Az @jn2 (Az @jm9 (Az @jn0 (Az @jn1 (Az @ex_0 (Az @ex_1 (Az @mn_2 (Az @mx_2 (Az @ByteArray.toList_mk (Az @qE7 (Az @zf4 (Az @zf2 (Az @zx6 (Az @List.take_succ_cons.{0} (Az @List.drop_succ_cons.{0} (Az @List.take_zero.{0} (Az @List.drop_zero.{0} (Az @List.take_nil.{0} (Az @List.drop_nil.{0} (Az @List.cons_append.{0} (Az @List.nil_append.{0} (Az @Nat.zero_add (Az @List.set_cons_zero.{0} (@List.set_cons_succ.{0})))))))))))))))))))))))))))))))))))))))
end
end Go.TL
namespace Go.TL
section
variable {P:Program} {e:Env} {kss:List (Nat×List Nat)} {Q:Ex→St→Prop} {K:List KF} {fr:List (Nat×T)} {st:Sto}
def rm1 (k:Nat):List (Nat×T)→List (Nat×T)
 | []=>[]
 | (t,x)::r=>if t=k then rm1 k r else (t,x)::rm1 k r
def rmK:List Nat→List (Nat×T)→List (Nat×T)
 | [],fr=>fr
 | k::ks,fr=>rm1 k (rmK ks fr)
theorem qt {α:Type} {body:RC} (hm:P.follows .mixedOrders=true) (ks:List Nat) (I:α→Prop) (ch:α→List (Nat×T)) (g:α→Sto) (μ:α→Nat) (x0:α) (h0:I x0) (hs:Le e ⟨fr,st⟩ ⟨ch x0++rmK ks fr,g x0⟩)
 (round:∀ x,I x→W P e kss (LQ P e kss Q K I (fun x=>ch x++rmK ks fr) g μ x) body [] (ch x++rmK ks fr) (g x)):W P e kss Q (.loop body) K fr st:=
 jU6 hm I (fun x=>ch x++rmK ks fr) g μ x0 h0 hs round
end
theorem qd {α:Type} {f:α→T} {l:List α} {i:Nat} (h:i<l.length):(l.map f).getD i .junk=f l[i]:=by
 rw[qj (by simpa using h)];simp
theorem qh {i:Nat} (h:i<4611686018427387904):IntKind.i64.wrap ((i:Int)+1)=((i+1:Nat):Int):=by
 rw[AK _ oM];omega
theorem wJ {i:Nat} (h:0<i) (h2:i<4611686018427387904):IntKind.i64.wrap ((i:Int)-1)=((i-1:Nat):Int):=by
 rw[AK _ oM];omega
theorem zH {α:Type} {st:Sto} {ρ:Ren} {B:List Nat} {k:Nat} {f:α→T} (h:∀ a,(f a).cells.length=k∧imL (f a).cells=true) (l:List α):ltXs st ρ B k (l.map f) (l.map f):=jA (qw h l)
theorem qS {α:Type} {l:List α} {i:Nat} (h:i<l.length):l.take (i+1)=l.take i++[l[i]]:=List.take_succ_eq_append_getElem h
theorem ze {k:Nat} {a b:List T} (h1:ImXs k a) (h2:ImXs k b):ImXs k (a++b):=fun x hx=>by
 rcases Dz.1 hx with h | h
 ·exact h1 x h
 ·exact h2 x h
theorem qQ {k:Nat} {x:T} {a:List T} (h0:x.cells.length=k∧imL x.cells=true) (h:ImXs k a):ImXs k (x::a):=fun y hy=>by
 rcases Ck.1 hy with rfl | hy
 ·exact h0
 ·exact h y hy
theorem qR {k:Nat}:ImXs k []:=fun x hx=>by simp at hx
theorem YG {α:Type} {p:α→Bool} {l:List α} {i:Nat} (h:i<l.length) (hp:p l[i]=true):l.any p=true:=DJ.2 ⟨l[i],AX h,hp⟩
theorem zS {α:Type} {p:α→Bool} {l:List α} {i:Nat} (h:i<l.length) (h1:(l.take i).any p=false) (hp:p l[i]=false):(l.take (i+1)).any p=false:=by
 rw[qS h,FY,h1];simp [hp]
theorem yg {α:Type} {p:α→Bool}:∀ {l:List α} {i:Nat} (h:i<l.length),(l.take i).any p=false→p l[i]=true→l.findIdx p=i
 | [],i,h,_,_=>by simp at h
 | x::r,0,h,_,hp=>by simp at hp;simp [List.findIdx_cons,hp]
 | x::r,i+1,h,h1,hp=>by
   simp only[List.take_succ_cons,List.any_cons,FQ] at h1;rw[List.findIdx_cons,h1.1,cond_false,yg (l:=r) (i:=i) (by simpa using h) h1.2 (by simpa using hp)]
def idxI {α:Type} (p:α→Bool) (l:List α):Int:=if l.any p=true then l.findIdx p else -1
theorem ql4 {α:Type} (p:α→Bool) (l:List α):decide (0≤idxI p l)=l.any p:=by
 unfold idxI;cases h:l.any p <;> simp
def Wg {α:Type} (eq:α→α→Bool):List α→List α→Bool
 | [],[]=>true
 | a::as,b::bs=>eq a b&&Wg eq as bs
 | _,_=>false
section
variable {α:Type} {eq:α→α→Bool}
theorem zR7:∀ {a b:List α},a.length≠b.length→Wg eq a b=false
 | [],[],h=>absurd rfl h
 | [],_::_,_=>rfl
 | _::_,[],_=>rfl
 | a::as,b::bs,h=>by
   simp only[Wg];rw[zR7 (a:=as) (b:=bs) (by simpa using h),Bool.and_false]
theorem qc2:∀ {a b c d:List α},a.length=b.length→Wg eq (a++c) (b++d)=(Wg eq a b&&Wg eq c d)
 | [],[],c,d,_=>by simp [Wg]
 | [],_::_,_,_,h=>by simp at h
 | _::_,[],_,_,h=>by simp at h
 | a::as,b::bs,c,d,h=>by
   simp only[BW,Wg];rw[qc2 (by simpa using h),Bool.and_assoc]
theorem zf9 {a b:List α} {i:Nat} (ha:i<a.length) (hb:i<b.length):Wg eq (a.take (i+1)) (b.take (i+1))=(Wg eq (a.take i) (b.take i)&&eq a[i] b[i]):=by
 rw[qS ha,qS hb,qc2 (by simp;omega)];simp [Wg]
theorem zF7 {a b:List α} {i:Nat} (hl:a.length=b.length) (ha:i<a.length) (h:eq a[i] (b[i]'oM)=false):Wg eq a b=false:=by
 have e:Wg eq a b=Wg eq (a.take (i+1)++a.drop (i+1)) (b.take (i+1)++b.drop (i+1)):=by rw[List.take_append_drop,List.take_append_drop]
 rw[e,qc2 (by simp;omega),zf9 ha oM,h];simp
theorem zy1 (h:∀ x y,eq x y=true↔x=y):∀ {a b:List α},Wg eq a b=true↔a=b
 | [],[]=>by simp [Wg]
 | [],_::_=>by simp [Wg]
 | _::_,[]=>by simp [Wg]
 | a::as,b::bs=>by simp [Wg,h,zy1 h (a:=as) (b:=bs)]
end
theorem jN6 {x:T} (h:imT0 x=true):imT x=true:=by
 cases x <;> first | exact h | (simp [imT0] at h)
theorem jn3:∀ {l:List T},zq8 l=true→imL l=true
 | [],_=>rfl
 | x::r,h=>by
   simp only[zq8,Bq] at h;simp only[imL,Bq];exact⟨jN6 h.1,jn3 h.2⟩
theorem jN7 {x:T} (h:imT x=true):imA x=true:=by
 cases x with
 | clo f cs=>exact jn3 h
 | agg cs=>simp [imT,imT0] at h
 | _=>exact h
theorem jN8 {l:List T} (h:imL l=true):imAL l=true:=by
 induction l with
 | nil=>rfl
 | cons c r ih=>
   simp only[imL,Bq] at h;simp only[imAL,Bq];refine⟨?_,ih h.2⟩;exact jN7 h.1
theorem qq8 {x:T} {f:FuncId} {caps:List T} (h0:imA x=true) (h:imL caps=true):imAL [x,.clo f caps]=true:=by
 show (imA x&&(imL caps&&true))=true;rw[h0,h];rfl
theorem Jb {x:T} {l:List T} (h0:imA x=true) (h:imL l=true):imAL (x::l)=true:=by
 simp only[imAL,h0,jN8 h,Bool.and_self]
def nx (l:List UInt8) (at_:Nat) (n:Int):Int×Nat:=
 if n<1∨l.length≤at_ then (0,at_)
 else if 256<n∧at_+1<l.length then (((l.getD at_ 0).toNat*256+(l.getD (at_+1) 0).toNat) % n,at_+2)
 else ((l.getD at_ 0).toNat % n,at_+1)
abbrev oC (l:List UInt8) (at_:Nat):Ob:=.arr 2 [.agg [vL l,vI at_]] false
theorem qF8 (l:List UInt8) (at_:Nat) (n:Int) (h:at_≤l.length):(nx l at_ n).2≤l.length:=by
 unfold nx;split
 ·exact h
 ·split
  ·simp only;omega
  ·simp only;omega
theorem QL (l:List UInt8) (at_:Nat) (n:Int) (h:1≤n):0≤(nx l at_ n).1∧(nx l at_ n).1<n:=by
 unfold nx;split
 ·simp only;omega
 ·split
  ·exact⟨Int.emod_nonneg _ oM,Int.emod_lt_of_pos _ oM⟩
  ·exact⟨Int.emod_nonneg _ oM,Int.emod_lt_of_pos _ oM⟩
section
variable {P:Program} {e:Env} {kss:List (Nat×List Nat)} {Q:Ex→St→Prop} {K:List KF} {rows:Option (List Nat)} {ks:List Nat} {nid:Nat} {ops:List ROp} {F:XF} {acc:Acc} {st:Sto} {fid:FuncId} {xs caps ts':List T} {r:T} {d:Option Nat}
theorem C1.draw (id:Nat) (l:List UInt8) (a a':Nat)
 (hs:Spc P fid (.ptr 0 1 0 0::xs) [(0,oC l a)] r [(0,oC l a')]) (hg:TL.get st id=some (oC l a)) (hx:imAL xs=true) (h2:YM r=true)
 (h:R P e kss Q rows ks K nid ops (putX F d (.p r)) (stUp st [(id,oC l a')]) (acc++[([]++[(id,oC l a')].map (·.1),[(id,oC l a')].map (·.1))])):C1 P e kss Q rows ks K (.clo fid []) (.ptr id 1 0 0::xs) d nid ops F st acc:=by
 refine C1.of [(0,some id)] [(id,some 0)] [] [(id,oC l a')] hs ?_ (by simp [yz,TL.get]) ?_ rF (by simp [TL.get]) ?_ (by simp [yz,TL.get]) rF (qj9 h2) (.inl rF) h
 ·rw[CW];exact⟨by simp [ltA,ltC,ltC0,TL.get],qz2 hx⟩
 ·refine⟨?_,trivial⟩;simp only[TL.get,if_true,ltO2,hg,ltO1];exact⟨trivial,sMp,zd ⟨rfl,rfl,rfl,rfl,trivial⟩ zk,sMp⟩
 ·refine⟨?_,trivial⟩;simp only[TL.get,if_true,wrO,ltO1];exact⟨⟨trivial,sMp,zd ⟨rfl,rfl,rfl,rfl,trivial⟩ zk,sMp⟩,.inr ⟨trivial,rfl⟩⟩
theorem C1.keep (id k:Nat) (ys:List T)
 (hs:Spc P fid ts' [(0,.arr k ys false)] r [(0,.arr k ys false)]) (hg:TL.get st id=some (.arr k ys false)) (him:ImXs k ys) (ha:ltAs st [(0,some id)] [] (xs++caps) ts') (h2:YM r=true)
 (h:R P e kss Q rows ks K nid ops (putX F d (.p r)) (stUp st [(id,.arr k ys false)]) (acc++[([]++[(id,Ob.arr k ys false)].map (·.1),[(id,Ob.arr k ys false)].map (·.1))])):C1 P e kss Q rows ks K (.clo fid caps) xs d nid ops F st acc:=by
 refine C1.of [(0,some id)] [(id,some 0)] [] [(id,.arr k ys false)] hs ha (by simp [yz,TL.get]) ?_ rF (by simp [TL.get]) ?_ (by simp [yz,TL.get]) rF (qj9 h2) (.inl rF) h
 ·refine⟨?_,trivial⟩;simp only[TL.get,if_true,ltO2,hg,ltO1];exact⟨trivial,sMp,jA him,sMp⟩
 ·refine⟨?_,trivial⟩;simp only[TL.get,if_true,wrO,ltO1];exact⟨⟨trivial,sMp,jA him,sMp⟩,.inr ⟨trivial,rfl⟩⟩
theorem C1.upd (id k:Nat) (ys zs:List T)
 (hs:Spc P fid ts' [(0,.arr k ys false)] r [(0,.arr k zs false)]) (hg:TL.get st id=some (.arr k ys false)) (him:ImXs k ys) (him2:ImXs k zs) (ha:ltAs st [(0,some id)] [] (xs++caps) ts') (h2:YM r=true)
 (h:R P e kss Q rows ks K nid ops (putX F d (.p r)) (stUp st [(id,.arr k zs false)]) (acc++[([]++[(id,Ob.arr k zs false)].map (·.1),[(id,Ob.arr k zs false)].map (·.1))])):C1 P e kss Q rows ks K (.clo fid caps) xs d nid ops F st acc:=by
 refine C1.of [(0,some id)] [(id,some 0)] [] [(id,.arr k zs false)] hs ha (by simp [yz,TL.get]) ?_ rF (by simp [TL.get]) ?_ (by simp [yz,TL.get]) rF (qj9 h2) (.inl rF) h
 ·refine⟨?_,trivial⟩;simp only[TL.get,if_true,ltO2,hg,ltO1];exact⟨trivial,sMp,jA him,sMp⟩
 ·refine⟨?_,trivial⟩;simp only[TL.get,if_true,wrO,ltO1];exact⟨⟨trivial,sMp,jA him2,sMp⟩,.inr ⟨trivial,rfl⟩⟩
theorem C1.newdraw {l:List UInt8} {a:Nat} (nid':Nat) (hs:Spc P fid (xs++caps) [] (.ptr 0 1 0 0) [(0,oC l a)]) (h1:imAL (xs++caps)=true) (hn:TL.get st nid'=none)
 (h:R P e kss Q rows ks K nid ops (putX F d (.p (.ptr nid' 1 0 0))) (stUp st [(nid',oC l a)]) (acc++[([]++[nid'],[nid'])])):C1 P e kss Q rows ks K (.clo fid caps) xs d nid ops F st acc:=by
 refine C1.of [] [(nid',some 0)] [] [(nid',oC l a)] hs (qz2 h1) rfl trivial sMp rF ?_ (by simp [yz,TL.get]) rF ?_ (.inl rF) h
 ·refine⟨?_,trivial⟩;simp only[TL.get,if_true,wrO,ltO1];exact⟨⟨trivial,sMp,zd ⟨rfl,rfl,rfl,rfl,trivial⟩ zk,sMp⟩,.inl hn⟩
 ·exact⟨by simp [TL.get],rfl,rfl,rfl⟩
theorem C2.one {L:List (Nat×Bool)} {c:Prop} {f:T} {as:List T} (hc:c) (h:C1 P e kss Q rows ks K f as d nid ops F st acc):C2 P e kss Q rows ks K L c f as d nid ops F st acc:=by
 obtain⟨val,wr,rd,h1,h2⟩:=h;exact⟨val,wr,rd,fun _=>h1,.inr (.inl ⟨hc,h2⟩)⟩
theorem C2.no {L:List (Nat×Bool)} {c:Prop} {f:T} {as:List T} (hc:¬ c) (h:R P e kss Q rows ks K nid ops (putX F d (.p (.v undef))) st (acc++[([],[])])):C2 P e kss Q rows ks K L c f as d nid ops F st acc:=
 ⟨.junk,[],[],fun h=>absurd h hc,.inr (.inr ⟨hc,h⟩)⟩
theorem C1.fresh {ys:List T} {m k:Nat} (nid':Nat) (hs:Spc P fid (xs++caps) [] (.asl 0 m) [(0,.arr k ys false)]) (h1:imAL (xs++caps)=true) (hy:ImXs k ys) (hn:TL.get st nid'=none)
 (h:R P e kss Q rows ks K nid ops (putX F d (.p (.asl nid' m))) (stUp st [(nid',.arr k ys false)]) (acc++[([]++[nid'],[nid'])])):C1 P e kss Q rows ks K (.clo fid caps) xs d nid ops F st acc:=by
 refine C1.of [] [(nid',some 0)] [] [(nid',.arr k ys false)] hs (qz2 h1) rfl trivial sMp rF ?_ (by simp [yz,TL.get]) rF ?_ (.inl rF) h
 ·refine⟨?_,trivial⟩;simp only[TL.get,if_true,wrO,ltO1];exact⟨⟨trivial,sMp,jA hy,sMp⟩,.inl hn⟩
 ·exact⟨by simp [TL.get],rfl⟩
theorem C1.cutback {ys zs:List T} {m:Nat} (id nid' k:Nat) (B:List Nat) (hs:Spc P fid ts' [(0,.arr k zs false)] (.asl 1 m) [(0,.dead),(1,.arr k ys false)]) (hg:TL.get st id=some (.arr k zs false)) (hz:ImXs k zs) (hy:ImXs k ys)
 (hA:(flat ys).all noA1=true) (hn:TL.get st nid'=none) (ha:ltAs st [(0,some id)] B (xs++caps) ts') (hB:(B.all fun i=>!([some id].contains (some i)))=true)
 (h:R P e kss Q rows ks K nid ops (putX F d (.p (.asl nid' m))) (stUp st [(id,.dead),(nid',.arr k ys false)]) (acc++[(B++[id,nid'],[id,nid'])])):C1 P e kss Q rows ks K (.clo fid caps) xs d nid ops F st acc:=by
 have hne:id≠nid':=fun e=>by subst e;rw[hg] at hn;cases hn
 refine C1.of [(0,some id)] [(nid',some 1)] B [(id,.dead),(nid',.arr k ys false)] hs ha (by simp [yz,TL.get]) ?_ hB (by simp [TL.get]) ?_ ?_ rF ?_ (.inr ⟨rfl,?_⟩) h
 ·refine⟨?_,trivial⟩;simp only[TL.get,if_true,ltO2,hg,ltO1];refine⟨trivial,sMp,jA hz,fun hb=>?_⟩;have:=Bk.1 hB id hb;simp at this
 ·refine⟨?_,trivial⟩;simp only[TL.get,if_true,wrO,ltO1,Nat.reduceEqDiff,↓reduceIte,reduceCtorEq];exact⟨⟨trivial,sMp,jA hy,sMp⟩,.inl hn⟩
 ·simp [yz,TL.get,hne]
 ·exact⟨by simp [TL.get],rfl⟩
 ·simp only[zx5,Bq,DZ];exact⟨.inr hA,trivial⟩
theorem jN9 {α:Type} {f:α→T} (h:∀ a,(f a).cells.all noA1=true) (l:List α):(flat (l.map f)).all noA1=true:=by
 rw[Bk];intro c hc;simp only[flat,Ew,Cj] at hc;obtain⟨_,⟨a,_,rfl⟩,hc⟩:=hc;exact Bk.1 (h a) c hc
end
theorem clA {p:Prop} (h:p:=by
 all_goals (try simp only[QP,ltO2,ltO1,ltAs,ltA,ltC,ltC0,qN9,ltCs,ltT,ltFr,ltS,wrOk,wrO,TL.get,zX8,↓reduceIte,Nat.reduceEqDiff,reduceCtorEq,Option.getD_some,Option.isSome_some,BY,AW,CJ,Cw,CW,EZ,Ck,List.not_mem_nil,and_true,true_and,and_self,imp_self,forall_const,false_implies,implies_true,true_implies,or_false,EX,Bool.true_eq_false,zj5,true_or,or_true,false_or,false_and,and_false,rmK,rm1,By,List.map_cons,List.map_nil,BW,Cy])
 all_goals (try (repeat' (first
  | exact zk
  | (apply zH;intro _;exact⟨rfl,rfl⟩)
  | (apply qw;intro _;exact⟨rfl,rfl⟩)
  | with_reducible apply ze
  | with_reducible refine qQ ⟨rfl,rfl⟩ ?_
  | exact qR
  | with_reducible apply qZ
  | with_reducible refine zd ⟨rfl,rfl,?_⟩ ?_
  | with_reducible apply Az
  | exact qY rfl
  | exact qY (by assumption)
  | exact jA (by assumption)
  | (refine⟨⟨?_,rfl,?_,rfl,?_⟩,trivial⟩ <;> first | (simp;done) | (apply qw;intro _;exact⟨rfl,rfl⟩))
  | trivial
  | rfl
  | (rw[qh oM])
  | omega)))):p:=h
theorem sW {p q:Prop} (h:q) (e:p=q:=by simp only[tl,tl2,tl4,↓uU,je,entX,WK,ret,retI,retB,intT,unT,endR,qq3,resR,tupT,bslR,boxR,YD,↓reduceIte,Nat.reduceEqDiff,Nat.reduceAdd,Nat.reduceMul,Nat.reduceLT,Nat.reduceLeDiff,reduceCtorEq,Int.reduceLE,Int.reduceLT,ne_eq,Int.reduceEq,not_false_eq_true,decide_true,decide_false,Int.reduceToNat,tl3,Int.reduceBNe,Int.reduceBEq,rmK,rm1,not_true_eq_false];rfl):p:=e.mpr h
theorem sD {p q:Prop} (h:q) (e:p=q:=by simp only[tl,tl2,tl4,↓uU,je,entX,WK,ret,retI,retB,intT,unT,endR,qq3,resR,tupT,bslR,boxR,YD,↓reduceIte,Nat.reduceEqDiff,Nat.reduceAdd,Nat.reduceMul,Nat.reduceLT,Nat.reduceLeDiff,reduceCtorEq,Int.reduceLE,Int.reduceLT,ne_eq,Int.reduceEq,not_false_eq_true,decide_true,decide_false,Int.reduceToNat,tl3,Int.reduceBNe,Int.reduceBEq,rmK,rm1,not_true_eq_false,AZ,Ay,DZ,FQ,Bq,FK];rfl):p:=e.mpr h
end Go.TL
