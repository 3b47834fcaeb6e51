/- A part of the proof: ZzE. -/
import Derived.Test.YthbdcffpkbmlaaaGreatDoorK11
namespace Go.TL
def XE {ρ:Type} (G:ρ→Prop) (Ev:Env→Prop) (A:ρ→Env→Prop):Prop:=∃ r,G r∧∀ e,Ev e→A r e
section
variable {P:Program} {ρ:Type} {G:ρ→Prop} {Ev:Env→Prop} {A B:ρ→Env→Prop}
theorem XE.mp (f:∀ r e,B r e→A r e) (h:XE G Ev B):XE G Ev A:=h.imp fun r h=>⟨h.1,fun e he=>f r e (h.2 e he)⟩
theorem XE.sd {p:Prop} (hp:p) (h:XE G Ev A):XE G Ev fun r e=>p∧A r e:=h.mp fun r e h=>⟨hp,h⟩
theorem XE.br {p q:Prop} (h1:p→XE G Ev A) (h2:q→XE G Ev B) (hd:p∨q) (hx:p→¬ q):XE G Ev fun r e=>(p→A r e)∧(q→B r e):=by
 rcases hd with h | h
 ·exact (h1 h).mp fun r e k=>⟨fun _=>k,fun k2=>absurd k2 (hx h)⟩
 ·exact (h2 h).mp fun r e k=>⟨fun k2=>absurd h (hx k2),fun _=>k⟩
theorem XE.brB {b:Bool} (h1:b=true→XE G Ev A) (h2:b=false→XE G Ev B):XE G Ev fun r e=>(b=true→A r e)∧(b=false→B r e):=
 XE.br h1 h2 (by cases b <;> simp) (by cases b <;> simp)
theorem XE.brN {p:Prop} (h1:p→XE G Ev A) (h2:¬ p→XE G Ev B):XE G Ev fun r e=>(p→A r e)∧(¬ p→B r e):=
 XE.br h1 h2 (Classical.em p) fun h k=>k h
theorem XE.fin (r:ρ) (hG:G r) (h:∀ e,Ev e→A r e):XE G Ev A:=⟨r,hG,h⟩
theorem XE.next {α:Type} {I:α→Prop} {T:ρ→α→Prop} {μ:α→Nat} {x:α} {L:Env→α→Prop} (ih:∀ y,I y→μ y<μ x→∃ r,G r∧T r y) (y:α) (hy:I y) (hm:μ y<μ x) (hl:∀ e,Ev e→L e y) :
 XE G Ev fun r e=>∃ y,T r y∧μ y<μ x∧L e y:=by
 obtain⟨r,h1,h2⟩:=ih y hy hm;exact⟨r,h1,fun e he=>⟨y,h2,hm,hl e he⟩⟩
theorem XE.loop {α:Type} {body:RC} {kss:List (Nat×List Nat)} {E:ρ→Env→Ex→St→Prop} {K:List KF} {fr:List (Nat×T)} {st:Sto} (hm:P.follows .mixedOrders=true) (I:α→Prop) (f:α→List (Nat×T)) (g:α→Sto) (μ:α→Nat) (x0:α) (h0:I x0)
 (hs:∀ e,Ev e→Le e ⟨fr,st⟩ ⟨f x0,g x0⟩)
 (round:∀ (T:ρ→α→Prop) x,I x→(∀ y,I y→μ y<μ x→∃ r,G r∧T r y)→XE G Ev fun r e=>W P e kss (LQ P e kss (E r e) K (T r) f g μ x) body [] (f x) (g x)) :
 XE G Ev fun r e=>W P e kss (E r e) (.loop body) K fr st:=by
 let T:ρ→α→Prop:=fun r x=>∃ S:α→Prop,S x∧∀ y,S y→∀ e,Ev e→∀ c,rsvC P e.n kss c=some (wV body)→WP P e c ⟨f y,g y⟩ (jt5 e S (fun x=>⟨f x,g x⟩) μ y (kq P e kss (E r e) K))
 have key:∀ n x,μ x=n→I x→∃ r,G r∧T r x:=by
  intro n
  induction n using Nat.strongRecOn with
  | _ n ih=>
    intro x hn hI;obtain⟨r,hG,hw⟩:=round T x hI fun y hy hlt=>ih (μ y) (hn ▸ hlt) y rfl hy;refine⟨r,hG,fun z=>z=x∨T r z,.inl rfl,fun y hy e he c hc=>?_⟩;rcases hy with rfl | ⟨S',hz,hS'⟩
    ·refine (qt1 hm body _ _ (hw e he) c hc).mono ?_;intro ex s hq;cases ex with
     | normal=>obtain⟨y,h1,h2,h3⟩:=hq;exact⟨y,.inr h1,h2,h3⟩
     | exit i=>exact hq
     | ret=>exact hq
    ·refine (hS' y hz e he c hc).mono ?_;intro ex s hq;cases ex with
     | normal=>obtain⟨y,h1,h2,h3⟩:=hq;exact⟨y,.inr ⟨S',h1,hS'⟩,h2,h3⟩
     | exit i=>exact hq
     | ret=>exact hq
 obtain⟨r,hG,S,hx,hS⟩:=key _ x0 rfl h0;refine⟨r,hG,fun e he=>?_⟩;show WPR P e kss (.loop body) ⟨fr,st⟩ (kq P e kss (E r e) K);intro c hc;simp only[wV] at hc;unfold rsvC at hc;split at hc <;> try (first | (cases hc;done) | (split at hc <;> (try split at hc) <;> cases hc;done))
 rename_i a';split at hc
 ·rename_i b hb;injection hc with hc;injection hc with hc;subst hc;exact WP.loop S (fun x=>⟨f x,g x⟩) μ x0 hx (hs e he) fun x hI=>hS x hI e he a' hb
 ·cases hc
theorem XE.loopF {α:Type} {body:RC} {kss:List (Nat×List Nat)} {E:ρ→Env→Ex→St→Prop} {K:List KF} {fr:List (Nat×T)} {st:Sto} (hm:P.follows .mixedOrders=true) (ks:List Nat) (I:α→Prop) (ch:α→List (Nat×T)) (g:α→Sto) (μ:α→Nat) (x0:α) (h0:I x0)
 (hs:∀ e,Ev e→Le e ⟨fr,st⟩ ⟨ch x0++rmK ks fr,g x0⟩)
 (round:∀ (T:ρ→α→Prop) x,I x→(∀ y,I y→μ y<μ x→∃ r,G r∧T r y)→XE G Ev fun r e=>W P e kss (LQ P e kss (E r e) K (T r) (fun x=>ch x++rmK ks fr) g μ x) body [] (ch x++rmK ks fr) (g x)) :
 XE G Ev fun r e=>W P e kss (E r e) (.loop body) K fr st:=
 XE.loop hm I (fun x=>ch x++rmK ks fr) g μ x0 h0 hs round
theorem XE.le {a:RC} {kss:List (Nat×List Nat)} {E:ρ→Env→Ex→St→Prop} {K:List KF} {fr:List (Nat×T)} {st:Sto} (fr':List (Nat×T)) (st':Sto) (hl:∀ e,Ev e→Le e ⟨fr,st⟩ ⟨fr',st'⟩) (h:XE G Ev fun r e=>W P e kss (E r e) a K fr' st') :
 XE G Ev fun r e=>W P e kss (E r e) (.cut a) K fr st:=h.imp fun r h=>⟨h.1,fun e he=>W_le fr' st' (hl e he) (h.2 e he)⟩
theorem zx1 (ids:List Nat) {f:FuncId} {n:Nat} {kss:List (Nat×List Nat)} {rc:RC} {rs:List RR} (h:FnIR P f n kss rc rs) (hm:P.follows .mixedOrders=true) {ts:List T} {st:Sto} (rT:ρ→T) (rS:ρ→Sto) (hn:ts.length≤n)
 (hw:XE G (fun e=>e.n=n∧e.st0=st) fun r e=>W P e kss (endR st rs (rT r) (rS r)) (yO ids rc) [] (ZY 0 ts) st) (hnm:noMp st=true:=by rfl):∃ r,G r∧Spc P f ts st (rT r) (rS r):=by
 obtain⟨r,hG,hw⟩:=hw;exact⟨r,hG,jl ids h hm hn (fun e h1 h2=>wW (hw e ⟨h1,h2⟩)) hnm⟩
theorem wN {f:FuncId} {n:Nat} {kss:List (Nat×List Nat)} {rc:RC} {rs:List RR} (h:FnIR P f n kss rc rs) (hm:P.follows .mixedOrders=true) {ts:List T} {st:Sto} (rT:ρ→T) (rS:ρ→Sto) (hn:ts.length≤n)
 (hw:XE G (fun e=>e.n=n∧e.st0=st) fun r e=>W P e kss (endR st rs (rT r) (rS r)) rc [] (ZY 0 ts) st) (hnm:noMp st=true:=by rfl):∃ r,G r∧Spc P f ts st (rT r) (rS r):=
 zx1 [] h hm rT rS hn (hw.mp fun r e h=>by rw[zg2];exact h) hnm
end
section
variable {P:Program} {e:Env} {kss:List (Nat×List Nat)} {Q:Ex→St→Prop} {K:List KF} {rows:Option (List Nat)} {ks:List Nat} {nid:Nat} {ops:List ROp} {F:XF} {acc:Acc} {st:Sto} {fid:FuncId} {xs caps ts':List T} {d:Option Nat}
end
end Go.TL
