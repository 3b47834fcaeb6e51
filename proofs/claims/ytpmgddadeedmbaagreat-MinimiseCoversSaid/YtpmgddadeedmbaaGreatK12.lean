/- A part of the proof: ZzE. -/
import Derived.WalkKit
import Derived.Still
import Derived.MapKept
import GoSem.Builtin.Cap
import Derived.Laws.Externs
import GoSem.Extern.SlicesOverlaps
import Derived.Carry
import Derived.ProofKit
import Derived.OpenShut
import Derived.HandedShaped
import Derived.Test.YtpmgddadeedmbaaGreatK11
namespace Go.TL
set_option linter.unusedVariables false
def XE {ρ:Type} (G:ρ→Prop) (Ev:Env→Prop) (A:ρ→Env→Prop):Prop:=∃ r,G r∧∀ e,Ev e→A r e
section
variable {P:Program} {ρ:Type} {G:ρ→Prop} {Ev:Env→Prop} {A B:ρ→Env→Prop}
theorem XE.mp (f:∀ r e,B r e→A r e) (h:XE G Ev B):XE G Ev A:=h.imp fun r h=>⟨h.1,fun e he=>f r e (h.2 e he)⟩
theorem XE.fin (r:ρ) (hG:G r) (h:∀ e,Ev e→A r e):XE G Ev A:=⟨r,hG,h⟩
theorem XE.loop {α:Type} {body:RC} {kss:List (Nat×List Nat)} {E:ρ→Env→Ex→St→Prop} {K:List KF} {fr:List (Nat×T)} {st:Sto} (hm:P.follows .mixedOrders = true) (I:α→Prop) (f:α→List (Nat×T)) (g:α→Sto) (μ:α→Nat) (x0:α) (h0:I x0)
 (hs:∀ e,Ev e→Le e ⟨fr,st⟩ ⟨f x0,g x0⟩)
 (round:∀ (T:ρ→α→Prop) x,I x→(∀ y,I y→μ y < μ x→∃ r,G r∧T r y)→XE G Ev fun r e=>W P e kss (LQ P e kss (E r e) K (T r) f g μ x) body [] (f x) (g x)) :
 XE G Ev fun r e=>W P e kss (E r e) (.loop body) K fr st:=by
 let T:ρ→α→Prop:=fun r x=>∃ S:α→Prop,S x∧∀ y,S y→∀ e,Ev e→∀ c,rsvC P e.n kss c = some (erase body)→WP P e c ⟨f y,g y⟩ (zw3 e S (fun x=>⟨f x,g x⟩) μ y (kq P e kss (E r e) K))
 have key:∀ n x,μ x = n→I x→∃ r,G r∧T r x:=by
  intro n
  induction n using Nat.strongRecOn with
  | _ n ih=>
    intro x hn hI
    obtain ⟨r,hG,hw⟩:=round T x hI fun y hy hlt=>ih (μ y) (hn ▸ hlt) y rfl hy
    refine ⟨r,hG,fun z=>z = x∨T r z,.inl rfl,fun y hy e he c hc=>?_⟩
    rcases hy with rfl | ⟨S',hz,hS'⟩
    ·refine (qi1 hm body _ _ (hw e he) c hc).mono ?_
     intro ex s hq
     cases ex with
     | normal=>obtain ⟨y,h1,h2,h3⟩:=hq;exact ⟨y,.inr h1,h2,h3⟩
     | exit i=>exact hq
     | ret=>exact hq
    ·refine (hS' y hz e he c hc).mono ?_
     intro ex s hq
     cases ex with
     | normal=>obtain ⟨y,h1,h2,h3⟩:=hq;exact ⟨y,.inr ⟨S',h1,hS'⟩,h2,h3⟩
     | exit i=>exact hq
     | ret=>exact hq
 obtain ⟨r,hG,S,hx,hS⟩:=key _ x0 rfl h0
 refine ⟨r,hG,fun e he=>?_⟩
 show WPR P e kss (.loop body) ⟨fr,st⟩ (kq P e kss (E r e) K)
 intro c hc
 simp only [erase] at hc
 unfold rsvC at hc
 split at hc <;> try (first | (cases hc;done) | (split at hc <;> (try split at hc) <;> cases hc;done))
 rename_i a'
 split at hc
 ·rename_i b hb
  injection hc with hc;injection hc with hc;subst hc
  exact WP.loop S (fun x=>⟨f x,g x⟩) μ x0 hx (hs e he) fun x hI=>hS x hI e he a' hb
 ·cases hc
theorem XE.le {a:RC} {kss:List (Nat×List Nat)} {E:ρ→Env→Ex→St→Prop} {K:List KF} {fr:List (Nat×T)} {st:Sto} (fr':List (Nat×T)) (st':Sto) (hl:∀ e,Ev e→Le e ⟨fr,st⟩ ⟨fr',st'⟩) (h:XE G Ev fun r e=>W P e kss (E r e) a K fr' st') :
 XE G Ev fun r e=>W P e kss (E r e) (.cut a) K fr st:=h.imp fun r h=>⟨h.1,fun e he=>W_le fr' st' (hl e he) (h.2 e he)⟩
end
section
variable {P:Program} {e:Env} {kss:List (Nat×List Nat)} {Q:Ex→St→Prop} {K:List KF} {rows:Option (List Nat)} {ks:List Nat} {nid:Nat} {ops:List ROp} {F:XF} {acc:Acc} {st:Sto} {fid:FuncId} {xs caps ts':List T} {d:Option Nat}
end
end Go.TL
