/- A part of the proof: trees of Go values, short forms, contracts. -/
import Derived.WalkKit
import Derived.Still
namespace Go
theorem Az:type_of% @And.intro:=@And.intro
theorem Ax:type_of% @Int.toNat_natCast:=@Int.toNat_natCast
theorem Aq:type_of% @if_neg:=@if_neg
theorem Aj:type_of% @if_pos:=@if_pos
theorem Ak:type_of% @beq_eq_false_iff_ne:=@beq_eq_false_iff_ne
theorem Aw:type_of% @bne_eq_false_iff_eq:=@bne_eq_false_iff_eq
theorem Ay:type_of% @decide_eq_false_iff_not:=@decide_eq_false_iff_not
theorem AZ:type_of% @decide_eq_true_eq:=@decide_eq_true_eq
theorem AX:type_of% @List.getElem_mem:=@List.getElem_mem
theorem AQ:type_of% @Classical.byContradiction:=@Classical.byContradiction
theorem AJ:type_of% @Int.eq_ofNat_of_zero_le:=@Int.eq_ofNat_of_zero_le
theorem AK:type_of% @IntWalk.i64_in:=@IntWalk.i64_in
theorem AW:type_of% @List.length_append:=@List.length_append
theorem AY:type_of% @beq_iff_eq:=@beq_iff_eq
theorem Bz:type_of% @Bool.not_eq_false':=@Bool.not_eq_false'
theorem Bx:type_of% @Bool.not_eq_true':=@Bool.not_eq_true'
theorem Bq:type_of% @Bool.and_eq_true:=@Bool.and_eq_true
theorem Bj:type_of% @bne_iff_ne:=@bne_iff_ne
theorem Bk:type_of% @List.all_eq_true:=@List.all_eq_true
theorem Bw:type_of% @List.take_length:=@List.take_length
theorem By:type_of% @List.map_append:=@List.map_append
theorem BZ:type_of% @Nat.le_refl:=@Nat.le_refl
theorem BX:type_of% @List.mem_of_getElem?:=@List.mem_of_getElem?
theorem BQ:type_of% @List.getElem?_take:=@List.getElem?_take
theorem BJ:type_of% @List.getElem?_append_right:=@List.getElem?_append_right
theorem BK:type_of% @List.getElem?_append_left:=@List.getElem?_append_left
theorem BW:type_of% @List.cons_append:=@List.cons_append
theorem BY:type_of% @List.length_map:=@List.length_map
theorem Cz:type_of% @List.length_take:=@List.length_take
theorem Cx:type_of% @decide_eq_true:=@decide_eq_true
theorem Cq:type_of% @decide_eq_false:=@decide_eq_false
theorem Cj:type_of% @List.mem_map:=@List.mem_map
theorem Ck:type_of% @List.mem_cons:=@List.mem_cons
theorem Cw:type_of% @List.length_nil:=@List.length_nil
theorem Cy:type_of% @List.nil_append:=@List.nil_append
theorem CZ:type_of% @Nat.mul_le_mul_right:=@Nat.mul_le_mul_right
theorem CX:type_of% @List.getElem_of_mem:=@List.getElem_of_mem
theorem CQ:type_of% @List.mem_cons_of_mem:=@List.mem_cons_of_mem
theorem CJ:type_of% @List.length_cons:=@List.length_cons
theorem CK:type_of% @List.getElem?_eq_getElem:=@List.getElem?_eq_getElem
theorem CW:type_of% @List.append_nil:=@List.append_nil
theorem CY:type_of% @List.getD_eq_getElem?_getD:=@List.getD_eq_getElem?_getD
theorem Dz:type_of% @List.mem_append:=@List.mem_append
theorem Dx:type_of% @List.getElem?_drop:=@List.getElem?_drop
theorem Dq:type_of% @Array.getD_eq_getD_getElem?:=@Array.getD_eq_getD_getElem?
theorem Dj:type_of% @List.append_assoc:=@List.append_assoc
theorem Dk:type_of% @List.mem_range:=@List.mem_range
theorem Dw:type_of% @List.foldl_cons:=@List.foldl_cons
theorem Dy:type_of% @List.length_eq_zero_iff:=@List.length_eq_zero_iff
theorem DZ:type_of% @Bool.or_eq_true:=@Bool.or_eq_true
theorem DX:type_of% @List.pairwise_iff_getElem:=@List.pairwise_iff_getElem
theorem DQ:type_of% @Nat.eq_zero_or_pos:=@Nat.eq_zero_or_pos
theorem DJ:type_of% @List.any_eq_true:=@List.any_eq_true
theorem DK:type_of% @List.eq_nil_of_length_eq_zero:=@List.eq_nil_of_length_eq_zero
theorem DW:type_of% @Int.fdiv_eq_ediv_of_nonneg:=@Int.fdiv_eq_ediv_of_nonneg
theorem DY:type_of% @List.getElem?_map:=@List.getElem?_map
theorem Ez:type_of% @Bool.not_eq_false:=@Bool.not_eq_false
theorem Eq:type_of% @Array.getElem?_eq_getElem:=@Array.getElem?_eq_getElem
theorem Ej:type_of% @Option.map_some:=@Option.map_some
theorem Ek:type_of% @List.mem_flatMap:=@List.mem_flatMap
theorem Ew:type_of% @List.map_congr_left:=@List.map_congr_left
theorem Ey:type_of% @List.mem_singleton:=@List.mem_singleton
theorem EZ:type_of% @Bool.false_eq_true:=@Bool.false_eq_true
theorem EX:type_of% @List.mem_of_mem_take:=@List.mem_of_mem_take
theorem EQ:type_of% @Nat.lt_of_lt_of_le:=@Nat.lt_of_lt_of_le
theorem EJ:type_of% @Option.map_eq_some_iff:=@Option.map_eq_some_iff
theorem EW:type_of% @List.mem_of_mem_drop:=@List.mem_of_mem_drop
theorem EY:type_of% @Nat.add_mul:=@Nat.add_mul
theorem Fz:type_of% @List.mem_filter:=@List.mem_filter
theorem Fx:type_of% @List.length_filter_le:=@List.length_filter_le
theorem Fq:type_of% @Bool.true_and:=@Bool.true_and
theorem Fj:type_of% @List.getElem_map:=@List.getElem_map
theorem Fk:type_of% @List.getElem_set:=@List.getElem_set
theorem Fw:type_of% @List.length_set:=@List.length_set
theorem Fy:type_of% @List.getElem_take:=@List.getElem_take
theorem FZ:type_of% @Nat.le_trans:=@Nat.le_trans
theorem FX:type_of% @Bool.or_eq_false_iff:=@Bool.or_eq_false_iff
theorem FQ:type_of% @List.contains_iff_mem:=@List.contains_iff_mem
theorem FJ:type_of% @Bool.and_eq_false_iff:=@Bool.and_eq_false_iff
theorem FK:type_of% @List.all_append:=@List.all_append
theorem FW:type_of% @List.any_append:=@List.any_append
theorem FY:type_of% @List.filter_append:=@List.filter_append
theorem Gz:type_of% @List.map_map:=@List.map_map
theorem Gx:type_of% @List.foldl_append:=@List.foldl_append
theorem Gq:type_of% @List.flatMap_cons:=@List.flatMap_cons
end Go
namespace Go
theorem oM {p:Prop} (h:p:=by omega):p:=h
theorem rF {p:Prop} (h:p:=by rfl):p:=h
theorem kR {p:Prop} (h:p:=by kernel_rfl):p:=h
theorem sMp {p:Prop} (h:p:=by simp):p:=h
theorem iR {α:Sort _} {a:α}:a=a:=(_root_.id rfl)
end Go
namespace Go.TL
inductive T where
 | junk
 | v (x:Value)
 | sl (k:Nat) (xs:List T)
 | agg (cs:List T)
 | tup (vs:List T)
 | clo (f:FuncId) (caps:List T)
 | ptr (id n i j:Nat)
 | ip (cs:List T)
 | asl (id n:Nat)
 | ub (p q:Bool)
 | vw (id n lo len:Nat)
 | mp (id:Nat)
 deriving Inhabited
def T.cells:T→List T
 | .agg cs=>cs
 | x=>[x]
def flat (xs:List T):List T:=xs.flatMap T.cells
inductive Es where
 | ii (l:List (Int×Int))
 | ib (l:List (Int×Bool))
 | si (l:List (ByteArray×Int))
 | sb (l:List (ByteArray×Bool))
def Es.vals:Es→List (Value×Value)
 | .ii l=>l.map fun p=>(.int .i64 p.1,.int .i64 p.2)
 | .ib l=>l.map fun p=>(.int .i64 p.1,.bool p.2)
 | .si l=>l.map fun p=>(.string p.1,.int .i64 p.2)
 | .sb l=>l.map fun p=>(.string p.1,.bool p.2)
inductive Ob where
 | dead
 | arr (k:Nat) (xs:List T) (fz:Bool)
 | mp (es:Es)
 | full (id n:Nat) (g:Bool)
 deriving Inhabited
abbrev Sto:=List (Nat×Ob)
def get {α:Type}:List (Nat×α)→Nat→Option α
 | [],_=>none
 | (j,x)::r,i=>if j=i then some x else get r i
structure St where
 fr:List (Nat×T)
 st:Sto
abbrev Iota:=Nat→Option (Nat×Nat)
def slv:Option (Nat×Nat)→Nat→Value→Prop
 | none,_,v=>∃ p,v = .slice p 0 0
 | some (b,cap),n,v=>v = .slice (some ⟨b,0,none⟩) n cap
def vwv:Option (Nat×Nat)→Nat→Nat→Nat→Value→Prop
 | none,_,_,_,v=>∃ p,v = .slice p 0 0
 | some (b,cap),k,lo,len,v=>∃ p,v = .slice p len (cap-lo)∧(lo<cap→p=some ⟨b,lo*k,none⟩)
inductive Im (w:World) (A:Addr→Prop):Value→T→Prop
 | junk (v:Value):Im w A v .junk
 | v (x:Value):Im w A x (.v x)
 | ub (b p q:Bool) (h1:b=true→p=true) (h2:b=false→q=true):Im w A (.bool b) (.ub p q)
 | sl (p:Option Addr) (len cap k:Nat) (xs:List T) (us:List Value)
    (hlen:xs.length=len) (hcap:len≤cap) (hk:∀ x∈xs,x.cells.length=k) (hus:us.length=(flat xs).length)
    (hp:0<len→p≠none)
    (hat:∀ (j:Nat) (u:Value),us[j]?=some u→∃ a,p=some a∧A (a.add j)∧w.cell? (a.add j)=some u∧u.oneCell'=true)
    (him:∀ (j:Nat) (u:Value) (c:T),us[j]?=some u→(flat xs)[j]?=some c→Im w A u c) :
    Im w A (.slice p len cap) (.sl k xs)
 | ip (a:Addr) (cs:List T) (us:List Value) (hus:us.length=cs.length)
    (hat:∀ (j:Nat) (u:Value),us[j]?=some u→A (a.add j)∧w.cell? (a.add j)=some u∧u.oneCell'=true)
    (him:∀ (j:Nat) (u:Value) (c:T),us[j]?=some u→cs[j]?=some c→Im w A u c) :
    Im w A (.pointer (some a)) (.ip cs)
 | clo (f:FuncId) (us:List Value) (cs:List T) (hl:us.length=cs.length) (h:∀ (j:Nat) (u:Value) (c:T),us[j]?=some u→cs[j]?=some c→Im w A u c):Im w A (.func (.func f) #[] us.toArray) (.clo f cs)
theorem Im.mono {w w':World} {A A':Addr→Prop} (h:∀ a,A a→A' a∧∀ u,w.cell? a=some u→w'.cell? a=some u) {v:Value} {t:T}
 (hi:Im w A v t):Im w' A' v t:=by
 induction hi with
 | junk v=>exact .junk v
 | v x=>exact .v x
 | ub b p q h1 h2=>exact .ub b p q h1 h2
 | sl p len cap k xs us hlen hcap hk hus hp hat _ ih=>
   exact .sl p len cap k xs us hlen hcap hk hus hp
    (fun j u hu=>let ⟨a,e,ha,hc,h1⟩:=hat j u hu;⟨a,e,(h _ ha).1,(h _ ha).2 _ hc,h1⟩) ih
 | ip a cs us hus hat _ ih=>
   exact .ip a cs us hus (fun j u hu=>let ⟨ha,hc,h1⟩:=hat j u hu;⟨(h _ ha).1,(h _ ha).2 _ hc,h1⟩) ih
 | clo f us cs hl _ ih=>exact .clo f us cs hl ih
inductive Rp (st:Sto) (ι:Iota) (w:World) (A:Addr→Prop):Value→T→Prop
 | im {v t} (h:Im w A v t):Rp st ι w A v t
 | agg (us:List Value) (cs:List T) (hl:us.length=cs.length)
    (h:∀ (j:Nat) (u:Value) (c:T),us[j]?=some u→cs[j]?=some c→Rp st ι w A u c):Rp st ι w A (.agg us.toArray) (.agg cs)
 | tup (us:List Value) (cs:List T) (hl:us.length=cs.length)
    (h:∀ (j:Nat) (u:Value) (c:T),us[j]?=some u→cs[j]?=some c→Rp st ι w A u c):Rp st ι w A (.tuple us.toArray) (.tup cs)
 | clo (f:FuncId) (us:List Value) (cs:List T) (hl:us.length=cs.length)
    (h:∀ (j:Nat) (u:Value) (c:T),us[j]?=some u→cs[j]?=some c→Rp st ι w A u c):Rp st ι w A (.func (.func f) #[] us.toArray) (.clo f cs)
 | asl (id n:Nat) (v:Value) (hd:get st id≠none)
    (h:∀ k xs fz,get st id=some (.arr k xs fz)→n≤xs.length∧(xs.length=n→slv (ι id) n v)):Rp st ι w A v (.asl id n)
 | ptr (id n i j:Nat) (v:Value) (hd:get st id≠none)
    (h:∀ k xs fz,get st id=some (.arr k xs fz)→n≤xs.length∧(xs.length=n→∃ b cap,ι id=some (b,cap)∧v = .pointer (some ⟨b,i*k+j,none⟩))) :
    Rp st ι w A v (.ptr id n i j)
 | vw (id n lo len:Nat) (v:Value) (hd:get st id≠none)
    (h:∀ k xs fz,get st id=some (.arr k xs fz)→n≤xs.length∧(xs.length=n→lo+len≤n∧vwv (ι id) k lo len v)) :
    Rp st ι w A v (.vw id n lo len)
 | mp (id:Nat) (v:Value) (hd:get st id≠none) (h:∀ es,get st id=some (.mp es)→∃ b,ι id=some (b,0)∧v = .map (some b)):Rp st ι w A v (.mp id)
structure Goes (st:Sto) (ι:Iota) (st':Sto) (ι':Iota):Prop where
 dom:∀ id,get st id≠none→get st' id≠none
 arr:∀ id k' xs' fz',get st' id=some (.arr k' xs' fz')→get st id≠none→
  ∃ k xs fz,get st id=some (.arr k xs fz)∧k=k'∧xs.length≤xs'.length∧(xs.length=xs'.length→ι' id=ι id)
 mp:∀ id es',get st' id=some (.mp es')→get st id≠none→(∃ es,get st id=some (.mp es))∧ι' id=ι id
theorem Goes.refl (st:Sto) (ι:Iota):Goes st ι st ι:=
 ⟨fun _ h=>h,fun _ k xs fz h _=>⟨k,xs,fz,h,rfl,BZ _,fun _=>rfl⟩,fun _ es h _=>⟨⟨es,h⟩,rfl⟩⟩
theorem Goes.trans {a b c:Sto} {i j k:Iota} (h:Goes a i b j) (h':Goes b j c k):Goes a i c k:=
 ⟨fun id hd=>h'.dom id (h.dom id hd),fun id k' xs' fz' hg hd=>by
   obtain⟨k1,x1,f1,g1,e1,l1,i1⟩:=h'.arr id k' xs' fz' hg (h.dom id hd);obtain⟨k2,x2,f2,g2,e2,l2,i2⟩:=h.arr id k1 x1 f1 g1 hd;exact⟨k2,x2,f2,g2,e2.trans e1,FZ l2 l1,fun hl=>by rw[i1 oM,i2 oM]⟩,fun id es' hg hd=>by
   obtain⟨⟨es1,g1⟩,i1⟩:=h'.mp id es' hg (h.dom id hd);obtain⟨g2,i2⟩:=h.mp id es1 g1 hd;exact⟨g2,i1.trans i2⟩⟩
theorem Rp.mono {st st':Sto} {ι ι':Iota} {w w':World} {A A':Addr→Prop} (hA:∀ a,A a→A' a∧∀ u,w.cell? a=some u→w'.cell? a=some u)
 (hg:Goes st ι st' ι') {v:Value} {t:T} (h:Rp st ι w A v t):Rp st' ι' w' A' v t:=by
 induction h with
 | im h=>exact .im (h.mono hA)
 | agg us cs hl _ ih=>exact .agg us cs hl ih
 | tup us cs hl _ ih=>exact .tup us cs hl ih
 | clo f us cs hl _ ih=>exact .clo f us cs hl ih
 | asl id n v hd h=>
   refine .asl id n v (hg.dom id hd) fun k' xs' fz' e=>?_;obtain⟨k,xs,fz,e0,_,hle,hi⟩:=hg.arr id k' xs' fz' e hd;obtain⟨h1,h2⟩:=h k xs fz e0;exact⟨FZ h1 hle,fun hn=>by rw[hi oM];exact h2 oM⟩
 | ptr id n i j v hd h=>
   refine .ptr id n i j v (hg.dom id hd) fun k' xs' fz' e=>?_;obtain⟨k,xs,fz,e0,hk,hle,hi⟩:=hg.arr id k' xs' fz' e hd;obtain⟨h1,h2⟩:=h k xs fz e0;subst hk;exact⟨FZ h1 hle,fun hn=>by rw[hi oM];exact h2 oM⟩
 | vw id n lo len v hd h=>
   refine .vw id n lo len v (hg.dom id hd) fun k' xs' fz' e=>?_;obtain⟨k,xs,fz,e0,hk,hle,hi⟩:=hg.arr id k' xs' fz' e hd;obtain⟨h1,h2⟩:=h k xs fz e0;subst hk;exact⟨FZ h1 hle,fun hn=>by rw[hi oM];exact h2 oM⟩
 | mp id v hd h=>
   refine .mp id v (hg.dom id hd) fun es' e=>?_;obtain⟨⟨es,e0⟩,hi⟩:=hg.mp id es' e hd;rw[hi];exact h es e0
structure Env where
 S:Addr→Prop
 base:Nat
 hnd:Nat→Prop
 w0:World
 n:Nat
 st0:Sto:=[]
 i0:Iota:=fun _=>none
def Av (e:Env) (st:Sto) (ι:Iota) (w:World) (a:Addr):Prop:=
 e.S a∨((e.base≤a.block∨e.hnd a.block)∧a.block<w.heap.size∧
  ∀ id k xs fz cap,get st id=some (.arr k xs fz)→ι id=some (a.block,cap)→fz=true∧a.off<(flat xs).length)
def ORep (st:Sto) (ι:Iota) (w:World) (A:Addr→Prop) (id:Nat):Ob→Prop
 | .dead=>True
 | .arr k xs _=>(∀ x∈xs,x.cells.length=k)∧
   ((ι id=none∧xs=[])∨∃ b cap cur E,ι id=some (b,cap)∧w.heap[b]?=some (.cells cur E (0,0))∧cur.size=cap*k∧xs.length≤cap∧(cap≤maxLen∧∀ (j:Nat) (u:Value),cur[j]?=some u→u.oneCell'=true)∧
     ∀ (j:Nat) (u:Value) (c:T),cur[j]?=some u→(flat xs)[j]?=some c→u.oneCell'=true∧Rp st ι w A u c)
 | .mp es=>∃ b clock ents,ι id=some (b,0)∧w.heap[b]?=some (.map ents clock)∧ents.toList.map (fun e=>(e.key,e.val))=es.vals
 | .full i n _=>get st i≠none∧∀ k xs fz,get st i=some (.arr k xs fz)→n≤xs.length∧(xs.length=n→∀ b c,ι i=some (b,c)→c=n)
structure MpOK (base:Nat) (st:Sto) (ι:Iota):Prop where
 own:∀ id es b c,get st id=some (.mp es)→ι id=some (b,c)→base≤b
 inj:∀ id id' es es' b c c',get st id=some (.mp es)→get st id'=some (.mp es')→ι id=some (b,c)→ι id'=some (b,c')→id=id'
structure Rel (e:Env) (s:St) (ι:Iota) (a:Act) (w:World):Prop where
 size:a.tmps.size=e.n
 dfr:a.defers=[]
 fr:∀ t x,get s.fr t=some x→Rp s.st ι w (Av e s.st ι w) (a.tmps.getD t undef) x
 ob:∀ id o,get s.st id=some o→ORep s.st ι w (Av e s.st ι w) id o
 inj:∀ id id' k xs fz k' xs' fz' b c c',get s.st id=some (.arr k xs fz)→get s.st id'=some (.arr k' xs' fz')→ι id=some (b,c)→ι id'=some (b,c')→id=id'
 own:∀ id k xs fz b c,get s.st id=some (.arr k xs fz)→ι id=some (b,c)→e.hnd b∨e.base≤b
 keep:∀ b,b<e.base→¬ e.hnd b→w.heap[b]?=e.w0.heap[b]?
 hs:e.base≤w.heap.size
 sS:∀ a,e.S a→a.block<e.base∧¬ e.hnd a.block
 os:w.os=e.w0.os
 tape:w.tape=e.w0.tape
 output:w.output=e.w0.output
 gs:Goes e.st0 e.i0 s.st ι
 stab:∀ x,Av e e.st0 e.i0 e.w0 x→Av e s.st ι w x∧∀ u,e.w0.cell? x=some u→w.cell? x=some u
 mp:MpOK e.base s.st ι
def Operand.t (s:St):Operand→T
 | .tmp t=>(get s.fr t).getD .junk
 | .const (.agg cs)=>.agg (cs.toList.map .v)
 | .const v=>.v v
 | .global _=>.junk
 | .func f=>.clo f []
theorem Rel.rp {e:Env} {s:St} {ι:Iota} {a:Act} {w:World} (h:Rel e s ι a w) (o:Operand) :
 Rp s.st ι w (Av e s.st ι w) (a.eval o) (Operand.t s o):=by
 cases o with
 | tmp t=>
   simp only[Act.eval,Operand.t];cases hg:get s.fr t with
   | none=>exact .im (.junk _)
   | some x=>exact h.fr t x hg
 | const v=>
   simp only[Act.eval];cases v <;> simp only[Operand.t] <;> try exact .im (.v _)
   case agg cs=>
    have:=Rp.agg (st:=s.st) (ι:=ι) (w:=w) (A:=Av e s.st ι w) cs.toList (cs.toList.map .v) sMp
     (fun j u c hu hc=>by simp only[DY,hu,Ej,Option.some.injEq] at hc;subst hc;exact .im (.v _))
    simpa using this
 | global g=>exact .im (.junk _)
 | func f=>
   exact Rp.clo f [] [] rfl (fun j u c hu=>by simp at hu)
end Go.TL
namespace Go.TL
theorem wK {w w':World} {x:Addr} (h:w'.heap[x.block]?=w.heap[x.block]?) (u:Value) (hu:w.cell? x=some u):w'.cell? x=some u:=by
 rw[World.cell?_of_block h];exact hu
theorem Rel.goG {e:Env} {s:St} {ι:Iota} {a:Act} {w:World} (h:Rel e s ι a w) {st':Sto} {ι':Iota} {w':World}
 (hg:Goes s.st ι st' ι')
 (hcell:∀ x,Av e s.st ι w x→∀ u,w.cell? x=some u→w'.cell? x=some u)
 (hAv:∀ x,Av e s.st ι w x→Av e st' ι' w' x)
 (hob:∀ id o,get st' id=some o→(get s.st id=some o∧ι' id=ι id∧∀ b c,ι id=some (b,c)→((∃ k xs fz,o = .arr k xs fz)∨∃ es,o = .mp es)→w'.heap[b]?=w.heap[b]?)∨
   ((∀ v t,Rp s.st ι w (Av e s.st ι w) v t→Rp st' ι' w' (Av e st' ι' w') v t)→ORep st' ι' w' (Av e st' ι' w') id o))
 (hinj:∀ id id' k xs fz k' xs' fz' b c c',get st' id=some (.arr k xs fz)→get st' id'=some (.arr k' xs' fz')→ι' id=some (b,c)→ι' id'=some (b,c')→id=id')
 (hown:∀ id k xs fz b c,get st' id=some (.arr k xs fz)→ι' id=some (b,c)→e.hnd b∨e.base≤b)
 (hkeep:∀ b,b<e.base→¬ e.hnd b→w'.heap[b]?=w.heap[b]?)
 (hs:w.heap.size≤w'.heap.size) (hos:w'.os=w.os) (htape:w'.tape=w.tape) (hout:w'.output=w.output) (hmp:MpOK e.base st' ι') :
 Rel e { s with st:=st' } ι' a w'∧(∀ v t,Rp s.st ι w (Av e s.st ι w) v t→Rp st' ι' w' (Av e st' ι' w') v t):=by
 have hm:∀ v t,Rp s.st ι w (Av e s.st ι w) v t→Rp st' ι' w' (Av e st' ι' w') v t:=
  fun v t hr=>hr.mono (fun x hx=>⟨hAv x hx,hcell x hx⟩) hg
 refine⟨⟨h.size,h.dfr,fun t x hx=>hm _ _ (h.fr t x hx),?_,hinj,hown,fun b hb hn=>(hkeep b hb hn).trans (h.keep b hb hn),FZ h.hs hs,h.sS,hos.trans h.os,htape.trans h.tape,hout.trans h.output,h.gs.trans hg,fun x hx=>⟨hAv x (h.stab x hx).1,fun u hu=>hcell x (h.stab x hx).1 u ((h.stab x hx).2 u hu)⟩,hmp⟩,hm⟩;intro id o ho;rcases hob id o ho with⟨h1,h2,h3⟩ | h1
 ·have h0:=h.ob id o h1;cases o with
  | dead=>trivial
  | mp es=>
    obtain⟨b,clock,ents,h4,h5,h6⟩:=h0;exact⟨b,clock,ents,h2.trans h4,(h3 b 0 h4 (.inr ⟨es,rfl⟩)).trans h5,h6⟩
  | full i n g=>
    refine⟨hg.dom i h0.1,fun k' xs' fz' e'=>?_⟩;obtain⟨k,xs,fz,e0,_,hle,hi⟩:=hg.arr i k' xs' fz' e' h0.1;obtain⟨h4,h5⟩:=h0.2 k xs fz e0;exact⟨FZ h4 hle,fun hn b c hb=>h5 oM b c (by rw[← hi oM];exact hb)⟩
  | arr k xs fz=>
    refine⟨h0.1,?_⟩;rcases h0.2 with⟨h4,h5⟩ | ⟨b,cap,cur,E,h4,h5,h6,h7,h8,h9⟩
    ·exact .inl ⟨h2.trans h4,h5⟩
    ·exact .inr ⟨b,cap,cur,E,h2.trans h4,(h3 b cap h4 (.inl ⟨k,xs,fz,rfl⟩)).trans h5,h6,h7,h8,fun j u c hu hc=>⟨(h9 j u c hu hc).1,hm _ _ (h9 j u c hu hc).2⟩⟩
 ·exact h1 hm
theorem Rel.mblk {e:Env} {s:St} {ι:Iota} {a:Act} {w:World} (h:Rel e s ι a w) {id:Nat} {es:Es} {b c:Nat} (hg:get s.st id=some (.mp es)) (hi:ι id=some (b,c)) :
 ∃ clock ents,w.heap[b]?=some (.map ents clock):=by
 obtain⟨b',clock,ents,h4,h5,_⟩:=h.ob id _ hg;rw[h4] at hi;injection hi with hi;injection hi with hb _;subst hb
 exact⟨clock,ents,h5⟩
theorem Rel.mlt {e:Env} {s:St} {ι:Iota} {a:Act} {w:World} (h:Rel e s ι a w) {id:Nat} {es:Es} {b c:Nat} (hg:get s.st id=some (.mp es)) (hi:ι id=some (b,c)):b<w.heap.size:=by
 obtain⟨_,_,h5⟩:=h.mblk hg hi;exact (Array.getElem?_eq_some_iff.1 h5).1
theorem Rel.mne {e:Env} {s:St} {ι:Iota} {a:Act} {w:World} (h:Rel e s ι a w) {id:Nat} {es:Es} {b c:Nat} (hg:get s.st id=some (.mp es)) (hi:ι id=some (b,c))
 {id' k:Nat} {xs:List T} {fz:Bool} {b' c':Nat} (hg':get s.st id'=some (.arr k xs fz)) (hi':ι id'=some (b',c')):b≠b':=by
 rintro rfl;obtain⟨clock,ents,h5⟩:=h.mblk hg hi;rcases (h.ob id' _ hg').2 with⟨h1,_⟩ | ⟨b2,cap,cur,E,h1,h2,_⟩
 ·rw[h1] at hi';cases hi'
 ·rw[h1] at hi';injection hi' with hi';injection hi' with hb _;subst hb
  rw[h5] at h2;cases h2
theorem MpOK.same {base:Nat} {st st':Sto} {ι ι':Iota} (h:MpOK base st ι) (hm:∀ id es,get st' id=some (.mp es)→get st id=some (.mp es)∧ι' id=ι id):MpOK base st' ι':=
 ⟨fun id es b c hg hi=>by obtain⟨h1,h2⟩:=hm id es hg;exact h.own id es b c h1 (h2 ▸ hi),
  fun id id' es es' b c c' hg hg' hi hi'=>by
   obtain⟨h1,h2⟩:=hm id es hg;obtain⟨h3,h4⟩:=hm id' es' hg';exact h.inj id id' es es' b c c' h1 h3 (h2 ▸ hi) (h4 ▸ hi')⟩
theorem Rel.go {e:Env} {s:St} {ι:Iota} {a:Act} {w:World} (h:Rel e s ι a w) {st':Sto} {ι':Iota} {w':World}
 (hg:Goes s.st ι st' ι')
 (hcell:∀ x,Av e s.st ι w x→∀ u,w.cell? x=some u→w'.cell? x=some u)
 (hAv:∀ x,Av e s.st ι w x→Av e st' ι' w' x)
 (hob:∀ id o,get st' id=some o→(get s.st id=some o∧ι' id=ι id∧∀ b c,ι id=some (b,c)→(∃ k xs fz,o = .arr k xs fz)→w'.heap[b]?=w.heap[b]?)∨
   ((∀ v t,Rp s.st ι w (Av e s.st ι w) v t→Rp st' ι' w' (Av e st' ι' w') v t)→ORep st' ι' w' (Av e st' ι' w') id o))
 (hinj:∀ id id' k xs fz k' xs' fz' b c c',get st' id=some (.arr k xs fz)→get st' id'=some (.arr k' xs' fz')→ι' id=some (b,c)→ι' id'=some (b,c')→id=id')
 (hown:∀ id k xs fz b c,get st' id=some (.arr k xs fz)→ι' id=some (b,c)→e.hnd b∨e.base≤b)
 (hkeep:∀ b,b<e.base→¬ e.hnd b→w'.heap[b]?=w.heap[b]?)
 (hs:w.heap.size≤w'.heap.size) (hos:w'.os=w.os) (htape:w'.tape=w.tape) (hout:w'.output=w.output)
 (hmp:∀ id es,get st' id=some (.mp es)→get s.st id=some (.mp es)∧ι' id=ι id∧∀ b c,ι id=some (b,c)→w'.heap[b]?=w.heap[b]?) :
 Rel e { s with st:=st' } ι' a w'∧(∀ v t,Rp s.st ι w (Av e s.st ι w) v t→Rp st' ι' w' (Av e st' ι' w') v t):=by
 refine h.goG hg hcell hAv (fun id o ho=>?_) hinj hown hkeep hs hos htape hout (h.mp.same fun id es hg=>⟨(hmp id es hg).1,(hmp id es hg).2.1⟩);cases o with
 | mp es=>
   obtain⟨h1,h2,h3⟩:=hmp id es ho;exact .inl ⟨h1,h2,fun b c hi _=>h3 b c hi⟩
 | _=>
   rcases hob id _ ho with⟨h1,h2,h3⟩ | h1
   ·refine .inl ⟨h1,h2,fun b c hi hx=>h3 b c hi ?_⟩;rcases hx with hx | ⟨es,hx⟩
    ·exact hx
    ·cases hx
   ·exact .inr h1
theorem qz {α:Type} (i:Nat) (x:α) (r:List (Nat×α)):get ((i,x)::r) i=some x:=by simp [get]
theorem qw {α:Type} {i j:Nat} (x:α) (r:List (Nat×α)) (h:j≠i):get ((j,x)::r) i=get r i:=by simp [get,h]
theorem Rel.put {e:Env} {s:St} {ι:Iota} {a:Act} {w:World} (h:Rel e s ι a w) {d:Nat} {v:Value} {t:T}
 (hd:d<e.n) (hv:Rp s.st ι w (Av e s.st ι w) v t):Rel e { s with fr:=(d,t)::s.fr } ι (a.put (some d) v) w:=by
 refine⟨by simpa [Act.put] using h.size,by simpa [Act.put] using h.dfr,?_,h.ob,h.inj,h.own,h.keep,h.hs,h.sS,h.os,h.tape,h.output,h.gs,h.stab,h.mp⟩;intro i x hx;by_cases hi:d=i
 ·subst hi;rw[qz] at hx;injection hx with hx;subst hx;have:(a.put (some d) v).tmps.getD d undef=v:=by
   simp only[Act.put,Dq,Array.getElem?_setIfInBounds_self_of_lt (h.size ▸ hd),Option.getD_some]
  rw[this];exact hv
 ·rw[qw _ _ hi] at hx;have:(a.put (some d) v).tmps.getD i undef=a.tmps.getD i undef:=by
   simp [Act.put,Dq,Array.getElem?_setIfInBounds_ne hi]
  rw[this];exact h.fr i x hx
theorem Rel.putO {e:Env} {s:St} {ι:Iota} {a:Act} {w:World} (h:Rel e s ι a w) {v:Value}:Rel e s ι (a.put none v) w:=h
theorem Rel.heap {e:Env} {s:St} {ι:Iota} {a:Act} {w w':World} (h:Rel e s ι a w) (hh:w'.heap=w.heap) (hos:w'.os=w.os) (ht:w'.tape=w.tape) (ho:w'.output=w.output) :
 Rel e s ι a w':=by
 have hc:∀ x,w'.cell? x=w.cell? x:=fun x=>by simp [World.cell?,hh]
 have hA:∀ x,Av e s.st ι w x→Av e s.st ι w' x:=fun x hx=>by
  unfold Av at *;rw[hh];exact hx
 exact (h.go (st':=s.st) (ι':=ι) (w':=w') (Goes.refl _ _) (fun x _ u hu=>(hc x).trans hu) hA
  (fun id o ho=>.inl ⟨ho,rfl,fun b c _ _=>by rw[hh]⟩) h.inj h.own (fun b _ _=>by rw[hh]) (by rw[hh];exact BZ _) hos ht ho (fun id es hg=>⟨hg,rfl,fun b c _=>by rw[hh]⟩)).1
theorem qg1 {w:World} {b:Nat} {o:Obj} (h:w.heap[b]?=some o):b<w.heap.size:=(Array.getElem?_eq_some_iff.1 h).1
theorem Rel.blk {e:Env} {s:St} {ι:Iota} {a:Act} {w:World} (h:Rel e s ι a w) {id k:Nat} {xs:List T} {fz:Bool} {b c:Nat}
 (hg:get s.st id=some (.arr k xs fz)) (hi:ι id=some (b,c)):b<w.heap.size:=by
 rcases (h.ob id _ hg).2 with⟨h1,_⟩ | ⟨b',cap,cur,E,h1,h2,_⟩
 ·rw[h1] at hi;cases hi
 ·rw[h1] at hi;injection hi with hi;injection hi with hb _;subst hb;exact qg1 h2
theorem Av.lt {e:Env} {s:St} {ι:Iota} {a:Act} {w:World} (h:Rel e s ι a w) {x:Addr} (hx:Av e s.st ι w x):x.block<w.heap.size:=by
 rcases hx with hx | hx
 ·exact EQ (h.sS x hx).1 h.hs
 ·exact hx.2.1
theorem Rel.alloc {e:Env} {s:St} {ι:Iota} {a:Act} {w:World} (h:Rel e s ι a w) (o:Obj) :
 Rel e s ι a (w.alloc o)∧(∀ v t,Rp s.st ι w (Av e s.st ι w) v t→Rp s.st ι (w.alloc o) (Av e s.st ι (w.alloc o)) v t):=by
 have hk:∀ b,b<w.heap.size→(w.alloc o).heap[b]?=w.heap[b]?:=fun b hb=>RowKit.Below.heap_alloc w o b hb;have hsz:w.heap.size≤(w.alloc o).heap.size:=by simp
 refine h.go (Goes.refl _ _) ?_ ?_ ?_ h.inj h.own ?_ hsz rfl rfl rfl (fun id es hg=>⟨hg,rfl,fun b c hi=>hk b (h.mlt hg hi)⟩)
 ·intro x hx u hu;exact wK (hk _ (Av.lt h hx)) u hu
 ·rintro x (hx | ⟨h1,h2,h3⟩)
  ·exact .inl hx
  ·exact .inr ⟨h1,EQ h2 hsz,h3⟩
 ·intro id o' ho;exact .inl ⟨ho,rfl,fun b c hi ⟨k,xs,fz,e⟩=>hk b (h.blk (e ▸ ho) hi)⟩
 ·intro b hb _;exact hk b (EQ hb h.hs)
theorem Rel.av_alloc {e:Env} {s:St} {ι:Iota} {a:Act} {w:World} (h:Rel e s ι a w) (o:Obj) (x:Addr) (hx:x.block=w.heap.size) :
 Av e s.st ι (w.alloc o) x:=by
 refine .inr ⟨.inl (by rw[hx];exact h.hs),by simp [hx],fun id k xs fz cap hg hi=>?_⟩;exact absurd (h.blk hg hi) oM
def upd (ι:Iota) (id:Nat) (x:Option (Nat×Nat)):Iota:=fun i=>if i=id then x else ι i
theorem qQ (ι:Iota) (id:Nat) (x:Option (Nat×Nat)):upd ι id x id=x:=by simp [upd]
theorem zc (ι:Iota) {id i:Nat} (x:Option (Nat×Nat)) (h:i≠id):upd ι id x i=ι i:=by simp [upd,h]
theorem Rel.new {e:Env} {s:St} {ι:Iota} {a:Act} {w:World} (h:Rel e s ι a w) (id:Nat) (hid:get s.st id=none)
 (k:Nat) (xs:List T) (fz:Bool) (cap:Nat) (cur:Array Value) (E:TypeId) (hk:∀ x∈xs,x.cells.length=k) (hcs:cur.size=cap*k) (hxc:xs.length≤cap) (hcm:cap≤maxLen) (hc1:∀ (j:Nat) (u:Value),cur[j]?=some u→u.oneCell'=true)
 (hc:∀ (j:Nat) (u:Value) (c:T),cur[j]?=some u→(flat xs)[j]?=some c→u.oneCell'=true∧Rp s.st ι w (Av e s.st ι w) u c) :
 Rel e { s with st:=(id,.arr k xs fz)::s.st } (upd ι id (some (w.heap.size,cap))) a (w.alloc (.cells cur E))∧
 (∀ v t,Rp s.st ι w (Av e s.st ι w) v t→Rp ((id,.arr k xs fz)::s.st) (upd ι id (some (w.heap.size,cap))) (w.alloc (.cells cur E))
   (Av e ((id,.arr k xs fz)::s.st) (upd ι id (some (w.heap.size,cap))) (w.alloc (.cells cur E))) v t):=by
 have hkk:∀ b,b<w.heap.size→(w.alloc (.cells cur E)).heap[b]?=w.heap[b]?:=fun b hb=>RowKit.Below.heap_alloc w _ b hb;have hsz:w.heap.size≤(w.alloc (.cells cur E)).heap.size:=by simp
 have hne:∀ i,get s.st i≠none→i≠id:=fun i hi e=>hi (e ▸ hid);have hmm:∀ i es,get ((id,Ob.arr k xs fz)::s.st) i=some (.mp es)→i≠id∧get s.st i=some (.mp es):=fun i es hg=>by
  by_cases hii:i=id
  ·subst hii;rw[qz] at hg;injection hg with hg;cases hg
  ·rw[qw _ _ (Ne.symm hii)] at hg;exact⟨hii,hg⟩
 refine h.go ⟨fun i hi=>?_,fun i k' xs' fz' hg hi=>?_,fun i es hg hi=>⟨⟨es,(hmm i es hg).2⟩,zc _ _ (hmm i es hg).1⟩⟩ ?_ ?_ ?_ ?_ ?_ ?_ hsz rfl rfl rfl
  (fun i es hg=>⟨(hmm i es hg).2,zc _ _ (hmm i es hg).1,fun b c hi=>hkk b (h.mlt (hmm i es hg).2 hi)⟩)
 ·rw[qw _ _ (Ne.symm (hne i hi))];exact hi
 ·rw[qw _ _ (Ne.symm (hne i hi))] at hg;exact⟨k',xs',fz',hg,rfl,BZ _,fun _=>zc _ _ (hne i hi)⟩
 ·intro x hx u hu;exact wK (hkk _ (Av.lt h hx)) u hu
 ·rintro x (hx | ⟨h1,h2,h3⟩)
  ·exact .inl hx
  ·refine .inr ⟨h1,EQ h2 hsz,fun i k' xs' fz' cap' hg hi=>?_⟩;by_cases hii:i=id
   ·subst hii;rw[qQ] at hi;injection hi with hi;injection hi with hb _;omega
   ·rw[qw _ _ (Ne.symm hii)] at hg;rw[zc _ _ hii] at hi;exact h3 i k' xs' fz' cap' hg hi
 ·intro i o ho;by_cases hii:i=id
  ·subst hii;rw[qz] at ho;injection ho with ho;subst ho;refine .inr fun hm=>⟨hk,.inr ⟨w.heap.size,cap,cur,E,qQ _ _ _,heap_alloc_new w _,hcs,hxc,⟨hcm,hc1⟩,fun j u c hu hc'=>⟨(hc j u c hu hc').1,hm _ _ (hc j u c hu hc').2⟩⟩⟩
  ·rw[qw _ _ (Ne.symm hii)] at ho;exact .inl ⟨ho,zc _ _ hii,fun b c hi ⟨k,xs,fz,e⟩=>hkk b (h.blk (e ▸ ho) hi)⟩
 ·intro i i' k1 x1 f1 k2 x2 f2 b c c' g1 g2 e1 e2;by_cases h1:i=id <;> by_cases h2:i'=id
  ·rw[h1,h2]
  ·subst h1;rw[qQ] at e1;injection e1 with e1;injection e1 with e1 _
   rw[qw _ _ (Ne.symm h2)] at g2;rw[zc _ _ h2] at e2;have:=h.blk g2 e2;omega
  ·subst h2;rw[qQ] at e2;injection e2 with e2;injection e2 with e2 _
   rw[qw _ _ (Ne.symm h1)] at g1;rw[zc _ _ h1] at e1;have:=h.blk g1 e1;omega
  ·rw[qw _ _ (Ne.symm h1)] at g1;rw[zc _ _ h1] at e1;rw[qw _ _ (Ne.symm h2)] at g2;rw[zc _ _ h2] at e2;exact h.inj i i' _ _ _ _ _ _ b c c' g1 g2 e1 e2
 ·intro i k1 x1 f1 b c g1 e1;by_cases h1:i=id
  ·subst h1;rw[qQ] at e1;injection e1 with e1;injection e1 with e1 _
   exact .inr (e1 ▸ h.hs)
  ·rw[qw _ _ (Ne.symm h1)] at g1;rw[zc _ _ h1] at e1;exact h.own i _ _ _ b c g1 e1
 ·intro b hb _;exact hkk b (EQ hb h.hs)
theorem Rel.turn {e:Env} {s:St} {ι:Iota} {a:Act} {w:World} (h:Rel e s ι a w) (id k:Nat) (xs xs':List T) (fz fz':Bool) (hid:get s.st id=some (.arr k xs fz))
 (x':Option (Nat×Nat)) (w':World) (hlen:xs.length≤xs'.length) (hsame:xs.length=xs'.length→x'=ι id) (hfz:fz=true→fz'=true∧xs <+: xs')
 (hgrow:w.grownBy w' ((ι id).map (·.1)))
 (hx':x'=ι id∨∃ b c,x'=some (b,c)∧w.heap.size≤b)
 (hcellB:fz=true→∀ b c j u,ι id=some (b,c)→j<(flat xs).length→w.cell? ⟨b,j,none⟩=some u→w'.cell? ⟨b,j,none⟩=some u)
 (hob:(∀ v t,Rp s.st ι w (Av e s.st ι w) v t→Rp ((id,.arr k xs' fz')::s.st) (upd ι id x') w' (Av e ((id,.arr k xs' fz')::s.st) (upd ι id x') w') v t)→
   ORep ((id,.arr k xs' fz')::s.st) (upd ι id x') w' (Av e ((id,.arr k xs' fz')::s.st) (upd ι id x') w') id (.arr k xs' fz')) :
 Rel e { s with st:=(id,.arr k xs' fz')::s.st } (upd ι id x') a w'∧
 (∀ v t,Rp s.st ι w (Av e s.st ι w) v t→Rp ((id,.arr k xs' fz')::s.st) (upd ι id x') w' (Av e ((id,.arr k xs' fz')::s.st) (upd ι id x') w') v t):=by
 have hkk:∀ b,b<w.heap.size→(∀ c,ι id≠some (b,c))→w'.heap[b]?=w.heap[b]?:=fun b hb hn=>
  hgrow.block b hb (fun e'=>by
   cases hi:ι id with
   | none=>simp [hi] at e'
   | some p=>simp [hi] at e';exact hn p.2 (by rw[hi,e']))
 have hmm:∀ i es,get ((id,Ob.arr k xs' fz')::s.st) i=some (.mp es)→i≠id∧get s.st i=some (.mp es):=fun i es hg=>by
  by_cases hii:i=id
  ·subst hii;rw[qz] at hg;injection hg with hg;cases hg
  ·rw[qw _ _ (Ne.symm hii)] at hg;exact⟨hii,hg⟩
 refine h.go ⟨fun i hi=>?_,fun i k1 x1 f1 hg hi=>?_,fun i es hg hi=>⟨⟨es,(hmm i es hg).2⟩,zc _ _ (hmm i es hg).1⟩⟩ ?_ ?_ ?_ ?_ ?_ ?_ hgrow.size hgrow.os hgrow.tape hgrow.output
  (fun i es hg=>⟨(hmm i es hg).2,zc _ _ (hmm i es hg).1,fun b c hi=>hkk b (h.mlt (hmm i es hg).2 hi) fun c' hc'=>h.mne (hmm i es hg).2 hi hid hc' rfl⟩)
 ·by_cases hii:i=id
  ·subst hii;rw[qz];simp
  ·rw[qw _ _ (Ne.symm hii)];exact hi
 ·by_cases hii:i=id
  ·subst hii;rw[qz] at hg;injection hg with hg;injection hg with e1 e2 e3;subst e1 e2 e3;exact⟨k,xs,fz,hid,rfl,hlen,fun e'=>by rw[qQ];exact hsame e'⟩
  ·rw[qw _ _ (Ne.symm hii)] at hg;exact⟨k1,x1,f1,hg,rfl,BZ _,fun _=>zc _ _ hii⟩
 ·intro x hx u hu;by_cases hb:∃ c,ι id=some (x.block,c)
  ·obtain⟨c,hb⟩:=hb;rcases hx with hx | ⟨h1,h2,h3⟩
   ·exfalso
    have h5:=h.sS x hx;rcases h.own id k xs fz _ _ hid hb with h6 | h6
    ·exact h5.2 h6
    ·omega
   ·obtain⟨h4,h5⟩:=h3 id k xs fz c hid hb;have hsp:x.spot=none:=by
     unfold World.cell? at hu;split at hu
     ·split at hu
      ·cases hu
      ·rename_i hs;simpa using hs
     ·cases hu
    have hxe:x=⟨x.block,x.off,none⟩:=by cases x;simp_all
    rw[hxe] at hu ⊢
    exact hcellB h4 _ _ _ _ hb h5 hu
  ·exact wK (hkk _ (Av.lt h hx) (fun c hc=>hb ⟨c,hc⟩)) u hu
 ·rintro x (hx | ⟨h1,h2,h3⟩)
  ·exact .inl hx
  ·refine .inr ⟨h1,EQ h2 hgrow.size,fun i k1 x1 f1 cap' hg hi=>?_⟩;by_cases hii:i=id
   ·subst hii;rw[qz] at hg;injection hg with hg;injection hg with e1 e2 e3;subst e1 e2 e3;rw[qQ] at hi;rcases hx' with hx' | ⟨b,c,hx',hb⟩
    ·rw[hx'] at hi;obtain⟨h4,h5⟩:=h3 i k xs fz cap' hid hi;obtain⟨h6,h7⟩:=hfz h4;refine⟨h6,EQ h5 ?_⟩;obtain⟨r,rfl⟩:=h7;simp [flat]
    ·rw[hx'] at hi;injection hi with hi;injection hi with hi _;omega
   ·rw[qw _ _ (Ne.symm hii)] at hg;rw[zc _ _ hii] at hi;exact h3 i k1 x1 f1 cap' hg hi
 ·intro i o ho;by_cases hii:i=id
  ·subst hii;rw[qz] at ho;injection ho with ho;subst ho;exact .inr hob
  ·rw[qw _ _ (Ne.symm hii)] at ho;refine .inl ⟨ho,zc _ _ hii,fun b c hi ⟨k1,x1,f1,e1⟩=>hkk b (h.blk (e1 ▸ ho) hi) (fun c' hc'=>hii ?_)⟩;subst e1;exact h.inj i id _ _ _ _ _ _ b c c' ho hid hi hc'
 ·intro i i' k1 x1 f1 k2 x2 f2 b c c' g1 g2 e1 e2;have key:∀ i' k2 x2 f2 c',i'≠id→get s.st i'=some (.arr k2 x2 f2)→ι i'=some (b,c')→x'=some (b,c)→False:=by
   intro i' k2 x2 f2 c' h2 g2 e2 e1;rcases hx' with hx' | ⟨b',c1,hx',hb⟩
   ·exact h2 (h.inj i' id _ _ _ _ _ _ b c' c g2 hid e2 (hx' ▸ e1))
   ·rw[hx'] at e1;injection e1 with e1;injection e1 with e1 _
    have:=h.blk g2 e2;omega
  have key':∀ i' k2 x2 f2 c,i'≠id→get s.st i'=some (.arr k2 x2 f2)→ι i'=some (b,c)→x'=some (b,c')→False:=by
   intro i' k2 x2 f2 c h2 g2 e2 e1;rcases hx' with hx' | ⟨b',c1,hx',hb⟩
   ·exact h2 (h.inj i' id _ _ _ _ _ _ b c c' g2 hid e2 (hx' ▸ e1))
   ·rw[hx'] at e1;injection e1 with e1;injection e1 with e1 _
    have:=h.blk g2 e2;omega
  by_cases h1:i=id <;> by_cases h2:i'=id
  ·rw[h1,h2]
  ·subst h1;rw[qQ] at e1;rw[qw _ _ (Ne.symm h2)] at g2;rw[zc _ _ h2] at e2;exact (key i' _ _ _ _ h2 g2 e2 e1).elim
  ·subst h2;rw[qQ] at e2;rw[qw _ _ (Ne.symm h1)] at g1;rw[zc _ _ h1] at e1;exact (key' i _ _ _ _ h1 g1 e1 e2).elim
  ·rw[qw _ _ (Ne.symm h1)] at g1;rw[zc _ _ h1] at e1;rw[qw _ _ (Ne.symm h2)] at g2;rw[zc _ _ h2] at e2;exact h.inj i i' _ _ _ _ _ _ b c c' g1 g2 e1 e2
 ·intro i k1 x1 f1 b c g1 e1;by_cases h1:i=id
  ·subst h1;rw[qQ] at e1;rcases hx' with hx' | ⟨b',c1,hx',hb⟩
   ·exact h.own i k xs fz b c hid (hx' ▸ e1)
   ·rw[hx'] at e1;injection e1 with e1;injection e1 with e1 _
    subst e1;exact .inr (FZ h.hs hb)
  ·rw[qw _ _ (Ne.symm h1)] at g1;rw[zc _ _ h1] at e1;exact h.own i _ _ _ b c g1 e1
 ·intro b hb hn;refine hkk b (EQ hb h.hs) fun c hc=>?_;rcases h.own id k xs fz b c hid hc with h6 | h6
  ·exact hn h6
  ·omega
theorem Rel.freeze {e:Env} {s:St} {ι:Iota} {a:Act} {w:World} (h:Rel e s ι a w) (id k:Nat) (xs:List T) (fz:Bool) (hid:get s.st id=some (.arr k xs fz)) :
 Rel e { s with st:=(id,.arr k xs true)::s.st } ι a w∧
 (∀ v t,Rp s.st ι w (Av e s.st ι w) v t→Rp ((id,.arr k xs true)::s.st) ι w (Av e ((id,.arr k xs true)::s.st) ι w) v t):=by
 have hu:upd ι id (ι id)=ι:=by funext i;unfold upd;split <;> simp_all
 have:=h.turn id k xs xs fz true hid (ι id) w (BZ _) (fun _=>rfl) (fun _=>⟨rfl,List.prefix_refl _⟩)
  ⟨rfl,rfl,rfl,BZ _,fun _ _ _=>rfl⟩ (.inl rfl) (fun _ _ _ _ _ _ _ h=>h) (fun hm=>by
    have h0:=h.ob id _ hid;refine⟨h0.1,?_⟩;rw[qQ];rcases h0.2 with h1 | ⟨b,cap,cur,E,h4,h5,h6,h7,h8,h9⟩
    ·exact .inl h1
    ·exact .inr ⟨b,cap,cur,E,h4,h5,h6,h7,h8,fun j u c hu hc=>⟨(h9 j u c hu hc).1,hm _ _ (h9 j u c hu hc).2⟩⟩)
 rw[hu] at this;exact this
end Go.TL
namespace Go.TL
def ldT (P:Program) (t:TypeId):Option (Option Nat):=
 match P.underlying t,P.info? t with
 | some d,some i=>some (match d with | .struct _ | .array _ _=>some i.size | _=>none)
 | _,_=>none
def szT (P:Program) (t:TypeId):Option Nat:=(P.info? t).map (·.size)
def ofV:Value→T
 | .agg cs=>.agg (cs.toList.map .v)
 | v=>.v v
def zrT (P:Program) (t:TypeId):Option T:=((P.info? t).bind (·.zero)).map ofV
def ixT (P:Program) (t:TypeId):Option (Option Nat×Nat):=
 match P.underlying t with
 | some (.slice e)=>(szT P e).map fun k=>(none,k)
 | some (.array n e)=>(szT P e).map fun k=>(some n,k)
 | _=>none
def fdT (P:Program) (s:TypeId) (f:Nat):Option (Nat×Nat×Option Nat):=
 match P.underlying s with
 | some (.struct fs)=>match fs[f]? with
   | some fl=>match szT P fl.type,ldT P fl.type with
     | some n,some l=>some (fl.offset,n,l)
     | _,_=>none
   | none=>none
 | _=>none
def WR (o:Option Nat) (j:Nat) (cs:List T):T:=
 match o with
 | none=>cs.getD j .junk
 | some n=>.agg ((cs.drop j).take n)
def need (o:Option Nat) (j:Nat):Nat:=match o with | none=>j+1 | some n=>j+n
def YW (o:Option Nat) (j:Nat) (us:List Value):Value:=
 match o with
 | none=>us.getD j undef
 | some n=>.agg ((us.drop j).take n).toArray
section
variable {P:Program} {st:Sto} {ι:Iota} {w:World} {A:Addr→Prop}
theorem qr3 {us:List Value} {cs:List T} (hl:us.length=cs.length) (h:∀ (j:Nat) (u:Value) (c:T),us[j]?=some u→cs[j]?=some c→Rp st ι w A u c)
 (o:Option Nat) (j:Nat) (hj:need o j≤cs.length):Rp st ι w A (YW o j us) (WR o j cs):=by
 cases o with
 | none=>
   simp only[need] at hj;simp only[YW,WR];have h1:j<us.length:=by omega
   have h2:j<cs.length:=by omega
   refine h j _ _ ?_ ?_
   ·simp [List.getD,h1]
   ·simp [List.getD,h2]
 | some n=>
   simp only[need] at hj;simp only[YW,WR];refine .agg _ _ (by simp [hl]) fun i u c hu hc=>?_;rw[BQ] at hu hc;split at hu <;> simp_all
   exact h _ _ _ hu hc
theorem qr4 (a:Addr) (m j:Nat):(a.add m).add j=a.add (m+j):=by
 unfold Addr.add;split <;> split <;> split <;> simp_all <;> omega
theorem yu {t:TypeId} {o:Option Nat} (ho:ldT P t=some o) (a:Addr) (us:List Value) (j:Nat)
 (h:∀ (j:Nat) (u:Value),us[j]?=some u→w.cell? (a.add j)=some u) (hj:need o j≤us.length) :
 (loadVar t (a.add j)).run P w = .ok (YW o j us) w:=by
 unfold ldT at ho;split at ho
 ·rename_i d i hd hi;have hcells:∀ (i:Nat) (u:Value),(us.drop j)[i]?=some u→w.cell? ((a.add j).add i)=some u:=by
   intro i u hu;rw[Dx] at hu;rw[qr4];exact h _ _ hu
  have agg:∀ n,i.size=n→need (some n) j≤us.length→(loadCells (a.add j) i.size).run P w = .ok ((us.drop j).take n).toArray w:=by
   intro n hn hl;simp only[need] at hl;have hlen:((us.drop j).take n).length=i.size:=by simp;omega
   rw[← hlen];exact run_loadCells_list w _ _ fun k u hu=>by
    rw[BQ] at hu;split at hu
    ·exact hcells k u hu
    ·cases hu
  cases d <;> simp only[Option.some.injEq] at ho <;> subst ho <;>
   first
   | (have ha:=agg i.size rfl hj
      simp [loadVar,isAgg,run_underlying hd,sizeOf,typeInfo,hi,ha,YW])
   | (simp only[need] at hj
      have h1:=h j (us.getD j undef) (by simp [List.getD,show j<us.length by omega]);simp only[CY] at h1;simp [loadVar,isAgg,run_underlying hd,load,Sem.run,h1,YW])
 ·cases ho
end
structure Res where
 side:Prop
 val:T
 wr:List (Nat×Ob)
def stw (st:Sto) (wr:List (Nat×Ob)):Sto:=wr++st
def St.step (s:St) (dst:Option Nat) (val:T) (wr:List (Nat×Ob)):St:=
 ⟨match dst with | some d=>(d,val)::s.fr | none=>s.fr,stw s.st wr⟩
def Does (P:Program) (e:Env) (o:Oper) (s:St) (val:T) (wr:List (Nat×Ob)):Prop:=
 ∀ ι a w K Q,Rel e s ι a w→(∀ v w' ι',Rel e ⟨s.fr,stw s.st wr⟩ ι' a w'→Rp (stw s.st wr) ι' w' (Av e (stw s.st wr) ι' w') v val→K (a.put o.dst v) w')→o.wp P a w K Q
section
variable {P:Program} {e:Env} {o:Oper} {s:St} {val:T}
theorem Does.of_value (h:∀ ι a w,Rel e s ι a w→∃ v,(execOp a.eval o).run P w = .ok (.value v) w∧Rp s.st ι w (Av e s.st ι w) v val):Does P e o s val []:=by
 intro ι a w K Q hR hK;obtain⟨v,h1,h2⟩:=h ι a w hR;unfold Oper.wp;rw[h1];exact hK v w ι hR h2
theorem Does.of_run {wr:List (Nat×Ob)} (h:∀ ι a w,Rel e s ι a w→∃ v w' ι',(execOp a.eval o).run P w = .ok (.value v) w'∧Rel e ⟨s.fr,stw s.st wr⟩ ι' a w'∧Rp (stw s.st wr) ι' w' (Av e (stw s.st wr) ι' w') v val):Does P e o s val wr:=by
 intro ι a w K Q hR hK;obtain⟨v,w',ι',h1,h2,h3⟩:=h ι a w hR;unfold Oper.wp;rw[h1];exact hK v w' ι' h2 h3
theorem Does.of_skip {wr:List (Nat×Ob)} (h:∀ ι a w,Rel e s ι a w→∃ w' ι',(execOp a.eval o).run P w = .ok .skip w'∧Rel e ⟨s.fr,stw s.st wr⟩ ι' a w'):Does P e o s (.v undef) wr:=by
 intro ι a w K Q hR hK;obtain⟨w',ι',h1,h2⟩:=h ι a w hR;unfold Oper.wp;rw[h1];exact hK undef w' ι' h2 (.im (.v _))
end
section
variable {st:Sto} {ι:Iota} {w:World} {A:Addr→Prop} {v:Value}
theorem Rp.v_inv {x:Value} (h:Rp st ι w A v (.v x)):v=x:=by
 cases h with | im h=>cases h;rfl
theorem Rp.im_sl {k:Nat} {xs:List T} (h:Rp st ι w A v (.sl k xs)):Im w A v (.sl k xs):=by
 cases h with | im h=>exact h
theorem Rp.agg_inv {cs:List T} (h:Rp st ι w A v (.agg cs)):∃ us:List Value,v = .agg us.toArray∧us.length=cs.length∧∀ (j:Nat) (u:Value) (c:T),us[j]?=some u→cs[j]?=some c→Rp st ι w A u c:=by
 cases h with
 | im h=>cases h
 | agg us cs hl h=>exact⟨us,rfl,hl,h⟩
theorem Rp.tup_inv {cs:List T} (h:Rp st ι w A v (.tup cs)):∃ us:List Value,v = .tuple us.toArray∧us.length=cs.length∧∀ (j:Nat) (u:Value) (c:T),us[j]?=some u→cs[j]?=some c→Rp st ι w A u c:=by
 cases h with
 | im h=>cases h
 | tup us cs hl h=>exact⟨us,rfl,hl,h⟩
theorem Rp.clo_inv {f:FuncId} {cs:List T} (h:Rp st ι w A v (.clo f cs)):∃ us:List Value,v = .func (.func f) #[] us.toArray∧us.length=cs.length∧∀ (j:Nat) (u:Value) (c:T),us[j]?=some u→cs[j]?=some c→Rp st ι w A u c:=by
 cases h with
 | im h=>cases h with
   | clo f us cs hl h=>exact⟨us,rfl,hl,fun j u c hu hc=>.im (h j u c hu hc)⟩
 | clo f us cs hl h=>exact⟨us,rfl,hl,h⟩
theorem Rp.asl_inv {id n:Nat} (h:Rp st ι w A v (.asl id n)) {k:Nat} {xs:List T} {fz:Bool} (hg:get st id=some (.arr k xs fz)) (hn:xs.length=n):slv (ι id) n v:=by
 cases h with
 | im h=>cases h
 | asl _ _ _ hd h=>exact (h k xs fz hg).2 hn
theorem Rp.vw_inv {id n lo len:Nat} (h:Rp st ι w A v (.vw id n lo len)) {k:Nat} {xs:List T} {fz:Bool} (hg:get st id=some (.arr k xs fz)) (hn:xs.length=n):lo+len≤n∧vwv (ι id) k lo len v:=by
 cases h with
 | im h=>cases h
 | vw _ _ _ _ _ hd h=>exact (h k xs fz hg).2 hn
theorem Rp.ptr_inv {id n i j:Nat} (h:Rp st ι w A v (.ptr id n i j)) {k:Nat} {xs:List T} {fz:Bool} (hg:get st id=some (.arr k xs fz)) (hn:xs.length=n) :
 ∃ b cap,ι id=some (b,cap)∧v = .pointer (some ⟨b,i*k+j,none⟩):=by
 cases h with
 | im h=>cases h
 | ptr _ _ _ _ _ hd h=>exact (h k xs fz hg).2 hn
theorem Rp.ip_inv {cs:List T} (h:Rp st ι w A v (.ip cs)):∃ (a:Addr) (us:List Value),v = .pointer (some a)∧us.length=cs.length∧
 (∀ (j:Nat) (u:Value),us[j]?=some u→A (a.add j)∧w.cell? (a.add j)=some u∧u.oneCell'=true)∧∀ (j:Nat) (u:Value) (c:T),us[j]?=some u→cs[j]?=some c→Im w A u c:=by
 cases h with
 | im h=>cases h with | ip a cs us h1 h2 h3=>exact⟨a,us,rfl,h1,h2,h3⟩
end
theorem qH {k:Nat} {xs:List T} (hk:∀ x∈xs,x.cells.length=k):(flat xs).length=xs.length*k:=by
 induction xs with
 | nil=>simp [flat]
 | cons x xs ih=>
   have h1:=hk x sMp;have h2:=ih (fun y hy=>hk y (by simp [hy]));simp only[flat,Gq,AW,CJ] at *
   rw[h1,h2,EY];omega
theorem Wb {k:Nat} {xs:List T} (hk:∀ x∈xs,x.cells.length=k) {i j:Nat} (hi:i<xs.length) (hj:j<k) :
 (flat xs)[i*k+j]?=(xs.getD i .junk).cells[j]?:=by
 induction xs generalizing i with
 | nil=>simp at hi
 | cons x xs ih=>
   have h1:=hk x sMp;simp only[flat,Gq];cases i with
   | zero=>
     simp only[Nat.zero_mul,Nat.zero_add];rw[BK oM];simp
   | succ i=>
     have h2:=ih (fun y hy=>hk y (by simp [hy])) (i:=i) (by simpa using hi);rw[BJ (by rw[h1,EY];omega)];rw[h1,show (i+1)*k+j-k=i*k+j by rw[EY];omega];simpa [flat] using h2
theorem wD {w:World} {b:Nat} {cur:Array Value} {E:TypeId} {fr:Nat×Nat} (h:w.heap[b]?=some (.cells cur E fr)) (o:Nat):w.cell? ⟨b,o,none⟩=cur[o]?:=by
 simp [World.cell?,h]
theorem zt (b o j:Nat):(⟨b,o,none⟩:Addr).add j=⟨b,o+j,none⟩:=by
 unfold Addr.add;split <;> simp_all
theorem Rel.elem {e:Env} {s:St} {ι:Iota} {a:Act} {w:World} (h:Rel e s ι a w) {id k:Nat} {xs:List T} {fz:Bool} (hg:get s.st id=some (.arr k xs fz))
 {b cap:Nat} (hi:ι id=some (b,cap)) {i:Nat} (hix:i<xs.length) :
 ∃ us:List Value,us.length=(xs.getD i .junk).cells.length∧us.length=k∧(∀ (j:Nat) (u:Value),us[j]?=some u→w.cell? ((⟨b,i*k,none⟩:Addr).add j)=some u)∧
  ∀ (j:Nat) (u:Value) (c:T),us[j]?=some u→(xs.getD i .junk).cells[j]?=some c→Rp s.st ι w (Av e s.st ι w) u c:=by
 obtain⟨hk,h0⟩:=h.ob id _ hg;rcases h0 with⟨h1,_⟩ | ⟨b',cap',cur,E,h4,h5,h6,h7,h8,h9⟩
 ·rw[h1] at hi;cases hi
 ·rw[h4] at hi;injection hi with hi;injection hi with e1 e2;subst e1 e2
  have hkk:(xs.getD i .junk).cells.length=k:=hk _ (by simp [List.getD,hix]);have hle:i*k+k≤cap'*k:=by rw[← Nat.succ_mul];exact CZ k oM
  have hl:((cur.toList.drop (i*k)).take k).length=k:=by simp;omega
  refine⟨(cur.toList.drop (i*k)).take k,by rw[hkk,hl],hl,fun j u hu=>?_,fun j u c hu hc=>?_⟩
  ·rw[zt,wD h5];rw[BQ] at hu;split at hu
   ·rw[Dx] at hu;simpa using hu
   ·cases hu
  ·rw[BQ] at hu;split at hu
   ·rename_i hjk;rw[Dx] at hu;exact (h9 (i*k+j) u c (by simpa using hu) (by rw[Wb hk hix hjk];exact hc)).2
   ·cases hu
end Go.TL
namespace Go.TL
section
variable {P:Program} {e:Env} {o:Oper} {s:St}
def qr5 (P:Program) (s:St) (t:TypeId) (x:T):Option Res:=
 match ldT P t,x with
 | some l,.ptr id m i j=>match get s.st id with
   | some (.arr k xs _)=>some ⟨xs.length=m∧i<xs.length∧need l j≤k,WR l j (xs.getD i .junk).cells,[]⟩
   | _=>none
 | some l,.ip cs=>some ⟨need l 0≤cs.length,WR l 0 cs,[]⟩
 | _,_=>none
theorem zT9 {t:TypeId} {x:Operand} (ho:o.op = .load t x) {r:Res} (h:qr5 P s t (Operand.t s x)=some r) (hs:r.side):Does P e o s r.val r.wr:=by
 have key:r.wr=[]:=by
  unfold qr5 at h;split at h
  ·split at h
   ·injection h with h;subst h;rfl
   ·cases h
  ·injection h with h;subst h;rfl
  ·cases h
 rw[key];refine Does.of_value fun ι a w hR=>?_;have hx:=hR.rp x;unfold qr5 at h;split at h
 ·rename_i l id m i j hl hxt;rw[hxt] at hx;split at h
  ·rename_i k xs fz hg;injection h with h;subst h;obtain⟨h1,h2,h3⟩:=hs;obtain⟨b,cap,hi,hv⟩:=hx.ptr_inv hg h1;obtain⟨us,hu1,hu2,hu3,hu4⟩:=hR.elem hg hi h2;refine⟨YW l j us,?_,qr3 hu1 hu4 l j (by rw[← hu1,hu2];exact h3)⟩;have:=yu (P:=P) (w:=w) hl ⟨b,i*k,none⟩ us j hu3 (by rw[hu2];exact h3);rw[zt] at this;simp [execOp,ho,hv,Instr.loadAt,Instr.sureAddr,this]
  ·cases h
 ·rename_i l cs hl hxt;rw[hxt] at hx;injection h with h;subst h;obtain⟨ad,us,hv,hu1,hu2,hu3⟩:=hx.ip_inv;refine⟨YW l 0 us,?_,qr3 hu1 (fun j u c hu hc=>.im (hu3 j u c hu hc)) l 0 hs⟩;have:=yu (P:=P) (w:=w) hl ad us 0 (fun j u hu=>(hu2 j u hu).2.1) (by rw[hu1];exact hs);have h0:ad.add 0=ad:=rfl;rw[h0] at this;simp [execOp,ho,hv,Instr.loadAt,Instr.sureAddr,this]
 ·cases h
def T.one:T→Bool
 | .v x=>x.oneCell'
 | .sl .. | .asl .. | .ptr .. | .ip .. | .clo .. | .vw ..=>true
 | _=>false
theorem zU0 {st:Sto} {ι:Iota} {w:World} {A:Addr→Prop} {u:Value} {c:T} (h:Rp st ι w A u c) (h1:c.one=true) (hd:∀ id n,c = .asl id n→∃ k xs fz,get st id=some (.arr k xs fz)∧xs.length=n)
 (hd':∀ id n i j,c = .ptr id n i j→∃ k xs fz,get st id=some (.arr k xs fz)∧xs.length=n)
 (hd2:∀ id n i j,c = .vw id n i j→∃ k xs fz,get st id=some (.arr k xs fz)∧xs.length=n):u.oneCell'=true:=by
 cases h with
 | im h=>cases h <;> first | rfl | (simp [T.one] at h1;done) | exact h1
 | agg=>simp [T.one] at h1
 | tup=>simp [T.one] at h1
 | clo=>rfl
 | mp=>simp [T.one] at h1
 | asl id n v _ h=>
   obtain⟨k,xs,fz,hg,hn⟩:=hd id n rfl;have h2:=(h k xs fz hg).2 hn;unfold slv at h2;split at h2
   ·obtain⟨p,rfl⟩:=h2;rfl
   ·subst h2;rfl
 | ptr id n i j v _ h=>
   obtain⟨k,xs,fz,hg,hn⟩:=hd' id n i j rfl;obtain⟨b,cap,_,rfl⟩:=(h k xs fz hg).2 hn
   rfl
 | vw id n lo len v _ h=>
   obtain⟨k,xs,fz,hg,hn⟩:=hd2 id n lo len rfl;have h2:=((h k xs fz hg).2 hn).2;unfold vwv at h2;split at h2
   ·obtain⟨p,rfl⟩:=h2;rfl
   ·obtain⟨p,rfl,_⟩:=h2;rfl
def live (st:Sto):T→Prop
 | .v x=>x.oneCell'=true
 | .sl .. | .ip .. | .clo ..=>True
 | .asl id n=>match get st id with | some (.arr _ xs _)=>xs.length=n | _=>False
 | .ptr id n _ _=>match get st id with | some (.arr _ xs _)=>xs.length=n | _=>False
 | .vw id n _ _=>match get st id with | some (.arr _ xs _)=>xs.length=n | _=>False
 | _=>False
theorem qg2 {st:Sto} {ι:Iota} {w:World} {A:Addr→Prop} {u:Value} {c:T} (h:Rp st ι w A u c) (h1:live st c):u.oneCell'=true:=by
 refine zU0 h ?_ ?_ ?_ ?_
 ·cases c <;> simp_all [live,T.one]
 ·rintro id n rfl;simp only[live] at h1;split at h1
  ·rename_i k xs fz hg;exact⟨k,xs,fz,hg,h1⟩
  ·exact h1.elim
 ·rintro id n i j rfl;simp only[live] at h1;split at h1
  ·rename_i k xs fz hg;exact⟨k,xs,fz,hg,h1⟩
  ·exact h1.elim
 ·rintro id n i j rfl;simp only[live] at h1;split at h1
  ·rename_i k xs fz hg;exact⟨k,xs,fz,hg,h1⟩
  ·exact h1.elim
def jA (st:Sto):List T→Prop
 | []=>True
 | c::r=>live st c∧jA st r
theorem Kh {st:Sto} {cs:List T} (h:jA st cs):∀ c∈cs,live st c:=by
 induction cs with
 | nil=>simp
 | cons c r ih=>
   intro d hd;rcases Ck.1 hd with rfl | hd
   ·exact h.1
   ·exact ih h.2 d hd
theorem qS0 {st:Sto} {ι:Iota} {w:World} {A:Addr→Prop} {v:Value} {x:T} (h:Rp st ι w A v x) (hl:jA st x.cells) :
 v.cells.size=x.cells.length∧(∀ u∈v.cells.toList,u.oneCell'=true)∧∀ (j:Nat) (u:Value) (c:T),v.cells.toList[j]?=some u→x.cells[j]?=some c→Rp st ι w A u c:=by
 have single:∀ y,x=y→(∀ cs,y≠.agg cs)→v.cells.size=x.cells.length∧(∀ u∈v.cells.toList,u.oneCell'=true)∧∀ (j:Nat) (u:Value) (c:T),v.cells.toList[j]?=some u→x.cells[j]?=some c→Rp st ι w A u c:=by
  rintro y rfl hy;have hc:x.cells=[x]:=by cases x <;> first | rfl | exact absurd rfl (hy _)
  rw[hc] at hl;have h1:=qg2 h hl.1;have hv:v.cells=#[v]:=by cases v <;> first | rfl | (simp [Value.oneCell'] at h1;done)
  rw[hc,hv];refine⟨rfl,by simpa using h1,fun j u c hu hc'=>?_⟩;cases j with
  | zero=>simp at hu hc';subst hu hc';exact h
  | succ j=>simp at hu
 cases x with
 | agg cs=>
   obtain⟨us,rfl,h1,h2⟩:=h.agg_inv;refine⟨by simpa [Value.cells,T.cells] using h1,fun u hu=>?_,fun j u c hu hc=>h2 j u c (by simpa [Value.cells] using hu) hc⟩;simp only[Value.cells] at hu;obtain⟨j,hj,rfl⟩:=List.mem_iff_getElem.1 (by simpa using hu);have hj':j<cs.length:=by omega
   exact qg2 (h2 j us[j] cs[j] (by simp [hj]) (by simp [hj'])) (Kh hl _ (by simp [T.cells]))
 | _=>exact single _ rfl sMp
theorem qM2 {P:Program} {w:World} (t:TypeId) (v:Value):(newVar t v).run P w = .ok ⟨w.heap.size,0,none⟩ (w.alloc (.cells v.cells t)):=rfl
theorem qg3 {cur:Array Value} {us:List Value} {p q:Nat} (h1:∀ (j:Nat) (u:Value),cur[j]?=some u→u.oneCell'=true) (h2:∀ u∈us,u.oneCell'=true) :
 ∀ (j:Nat) (u:Value),(cur.toList.take p++us++cur.toList.drop q).toArray[j]?=some u→u.oneCell'=true:=by
 intro j u hu;have hc:∀ u∈cur.toList,u.oneCell'=true:=fun u hu=>by
  obtain⟨i,hi,rfl⟩:=CX hu;exact h1 i _ (by simp at hi;simp [hi])
 have hm:=BX (show (cur.toList.take p++us++cur.toList.drop q)[j]?=some u by simpa using hu);simp only[Dz] at hm;rcases hm with (hm | hm) | hm
 ·exact hc u (EX hm)
 ·exact h2 u hm
 ·exact hc u (EW hm)
theorem Rel.newBox {ι:Iota} {a:Act} {w:World} (hR:Rel e s ι a w) {v:Value} {x:T} (hx:Rp s.st ι w (Av e s.st ι w) v x) (hl:jA s.st x.cells) (id:Nat) (hid:get s.st id=none) (t:TypeId) :
 ∃ ι',Rel e ⟨s.fr,(id,.arr x.cells.length [x] false)::s.st⟩ ι' a (w.alloc (.cells v.cells t))∧
  Rp ((id,.arr x.cells.length [x] false)::s.st) ι' (w.alloc (.cells v.cells t)) (Av e ((id,.arr x.cells.length [x] false)::s.st) ι' (w.alloc (.cells v.cells t))) (.pointer (some ⟨w.heap.size,0,none⟩)) (.ptr id 1 0 0):=by
 obtain⟨h1,h2,h3⟩:=qS0 hx hl;have:=hR.new id hid x.cells.length [x] false 1 v.cells t sMp (by rw[h1];simp) sMp (by simp [maxLen]) (fun j u hu=>h2 u (BX (by simpa using hu))) (fun j u c hu hc=>⟨h2 u (BX (by simpa using hu)),h3 j u c (by simpa using hu) (by simpa [flat] using hc)⟩);refine⟨_,this.1,?_⟩;refine .ptr id 1 0 0 _ (by rw[qz];simp) fun k xs fz hg=>?_;rw[qz] at hg;injection hg with hg;injection hg with e1 e2 e3;subst e1 e2 e3;exact⟨sMp,fun _=>⟨_,_,qQ _ _ _,sMp⟩⟩
def boxT (s:St) (id:Nat) (x:T):Res:=⟨get s.st id=none∧jA s.st x.cells,.ptr id 1 0 0,[(id,.arr x.cells.length [x] false)]⟩
theorem jr1 {t:TypeId} {x:Operand} (ho:o.op = .box t x) (id:Nat) (hs:(boxT s id (Operand.t s x)).side) :
 Does P e o s (boxT s id (Operand.t s x)).val (boxT s id (Operand.t s x)).wr:=by
 refine Does.of_run fun ι a w hR=>?_;obtain⟨ι',h1,h2⟩:=hR.newBox (hR.rp x) hs.2 id hs.1 t;refine⟨_,_,ι',?_,h1,h2⟩;simp [execOp,ho,Instr.box,qM2]
theorem jQ0 {st:Sto} {ι:Iota} {w:World} {A:Addr→Prop} (v:Value):Rp st ι w A v (ofV v):=by
 cases v <;> simp only[ofV] <;> try exact .im (.v _)
 case agg cs=>
  have:=Rp.agg (st:=st) (ι:=ι) (w:=w) (A:=A) cs.toList (cs.toList.map .v) sMp
   (fun j u c hu hc=>by simp only[DY,hu,Ej,Option.some.injEq] at hc;subst hc;exact .im (.v _))
  simpa using this
theorem Ki {P:Program} {t:TypeId} {z:T} (h:zrT P t=some z) (w:World):∃ v,(zeroValue t).run P w = .ok v w∧z=ofV v:=by
 unfold zrT at h;cases hi:P.info? t with
 | none=>simp [hi] at h
 | some i=>
   cases hz:i.zero with
   | none=>simp [hi,hz] at h
   | some v=>simp [hi,hz] at h;exact⟨v,by simp [zeroValue,typeInfo,hi,hz],h.symm⟩
def zd7 (P:Program) (s:St) (id:Nat) (t:TypeId):Option Res:=(zrT P t).map (boxT s id)
theorem zO4 {t:TypeId} (ho:o.op = .alloc t) (id:Nat) {r:Res} (h:zd7 P s id t=some r) (hs:r.side):Does P e o s r.val r.wr:=by
 unfold zd7 at h;cases hz:zrT P t with
 | none=>simp [hz] at h
 | some z=>
   simp [hz] at h;subst h;refine Does.of_run fun ι a w hR=>?_;obtain⟨v,h1,h2⟩:=Ki hz w;obtain⟨ι',h3,h4⟩:=hR.newBox (h2 ▸ jQ0 v) hs.2 id hs.1 t;refine⟨_,_,ι',?_,h3,h4⟩;simp [execOp,ho,Instr.alloc,h1,qM2]
def repl (x:T) (j:Nat) (v:T):T:=
 match x with
 | .agg cs=>.agg (cs.take j++v.cells++cs.drop (j+v.cells.length))
 | _=>v
def WG (x v:T):Prop:=match x with | .agg _=>True | _=>v.cells.length=1
def zd8 (P:Program) (s:St) (t:TypeId) (x v:T):Option Res:=
 match x,szT P t with
 | .ptr id m i j,some n=>match get s.st id with
   | some (.arr k xs false)=>some ⟨xs.length=m∧i<xs.length∧v.cells.length=n∧j+n≤k∧WG (xs.getD i .junk) v∧jA s.st v.cells,.v undef,[(id,.arr k (xs.set i (repl (xs.getD i .junk) j v)) false)]⟩
   | _=>none
 | _,_=>none
theorem zO5 {x v:T} {j k:Nat} (hk:x.cells.length=k) (hj:j+v.cells.length≤k) (hr:WG x v) :
 (repl x j v).cells=x.cells.take j++v.cells++x.cells.drop (j+v.cells.length):=by
 have single:∀ y,x=y→(∀ cs,y≠.agg cs)→(repl x j v).cells=x.cells.take j++v.cells++x.cells.drop (j+v.cells.length):=by
  rintro y rfl hy;have hc:x.cells=[x]:=by cases x <;> first | rfl | exact absurd rfl (hy _)
  have hr':v.cells.length=1:=by cases x <;> first | exact hr | exact absurd rfl (hy _)
  have h2:repl x j v=v:=by cases x <;> first | rfl | exact absurd rfl (hy _)
  rw[hc] at hk;simp only[CJ,Cw] at hk;have:j=0:=by omega
  subst this;rw[h2,hc,hr'];simp
 cases x with
 | agg cs=>rfl
 | _=>exact single _ rfl sMp
theorem jr2 {k:Nat} {xs:List T} (hk:∀ x∈xs,x.cells.length=k) {i:Nat} (hi:i<xs.length) (y:T) :
 flat (xs.set i y)=(flat xs).take (i*k)++y.cells++(flat xs).drop (i*k+k):=by
 induction xs generalizing i with
 | nil=>simp at hi
 | cons x xs ih=>
   have h1:=hk x sMp;cases i with
   | zero=>
     simp only[flat,List.set_cons_zero,Gq,Nat.zero_mul,List.take_zero,Cy,Nat.zero_add];rw[List.drop_append_of_le_length oM,List.drop_of_length_le oM];simp
   | succ i=>
     have h2:=ih (fun y hy=>hk y (by simp [hy])) (i:=i) (by simpa using hi);simp only[flat,List.set_cons_succ,Gq] at h2 ⊢
     rw[h2];have e1:(i+1)*k=x.cells.length+i*k:=by rw[EY,h1];omega
     rw[e1,List.take_length_add_append,Nat.add_assoc,List.drop_length_add_append];simp
theorem zO6 {t:TypeId} {x y:Operand} (ho:o.op = .store t x y) {r:Res} (h:zd8 P s t (Operand.t s x) (Operand.t s y)=some r) (hs:r.side):Does P e o s r.val r.wr:=by
 unfold zd8 at h;split at h
 ·rename_i id m i j n hxt hsz;split at h
  ·rename_i k xs hg;injection h with h;subst h;obtain⟨h1,h2,h3,h4,h5,h6⟩:=hs;refine Does.of_skip fun ι a w hR=>?_;have hx:=hR.rp x;have hy:=hR.rp y;rw[hxt] at hx;obtain⟨b,cap,hi,hv⟩:=hx.ptr_inv hg h1;obtain⟨c1,c2,c3⟩:=qS0 hy h6;have hob:=hR.ob id _ hg;obtain⟨hk,h0⟩:=hob;rcases h0 with⟨h0,_⟩ | ⟨b',cap',cur,E,g4,g5,g6,g7,g8,g9⟩
   ·rw[h0] at hi;cases hi
   rw[g4] at hi;injection hi with hi;injection hi with e1 e2;subst e1 e2
   have hkk:(xs.getD i .junk).cells.length=k:=hk _ (by simp [List.getD,h2]);have hle:i*k+k≤cap'*k:=by rw[← Nat.succ_mul];exact CZ k oM
   have hcl:(a.eval y).cells.toList.length=n:=by rw[← h3,← c1];simp
   have hfit:i*k+j+(a.eval y).cells.toList.length≤cur.size:=by rw[hcl,g6];omega
   have hrun:=run_storeCells_at P b' (i*k+j) E (a.eval y).cells.toList 0 cur w g5 (by simpa using hfit) c2;simp only[Nat.add_zero] at hrun;have hsz':(a.eval y).cells.size=n:=by simpa using hcl
   have hrepl:=zO5 (j:=j) hkk (by rw[h3];exact h4) h5;have hrl:(repl (xs.getD i .junk) j (Operand.t s y)).cells.length=k:=by
    rw[hrepl];simp only[AW,Cz,List.length_drop,hkk,h3];omega
   let new:Array Value:=(cur.toList.take (i*k+j)++(a.eval y).cells.toList++cur.toList.drop (i*k+j+(a.eval y).cells.toList.length)).toArray
   have hnew:new.size=cur.size:=by
    simp only[new,List.size_toArray,AW,Cz,List.length_drop,Array.length_toList];omega
   have hheap:(w.setRow b' new).heap[b']?=some (.cells new E (0,0)):=setRow_heap w b' cur new E _ g5;have ht:=hR.turn id k xs (xs.set i (repl (xs.getD i .junk) j (Operand.t s y))) false false hg (ι id) (w.setRow b' new) sMp (fun _=>rfl) sMp
    ⟨rfl,rfl,rfl,by simp [World.setRow],fun c _ hc=>setRow_other w b' c new (fun e=>hc (by simp [g4,e]))⟩ (.inl rfl) sMp
    (fun hm=>by
      refine⟨fun x hx=>?_,.inr ⟨b',cap',new,E,by rw[qQ];exact g4,hheap,by rw[hnew];exact g6,by simpa using g7,⟨g8.1,qg3 g8.2 c2⟩,fun q u c hu hc=>?_⟩⟩
      ·rcases List.mem_or_eq_of_mem_set hx with hx | hx
       ·exact hk x hx
       ·rw[hx];exact hrl
      ·rw[jr2 hk h2,hrepl] at hc;have hfl:=qH hk;have hlex:i*k+k≤(flat xs).length:=by rw[hfl,← Nat.succ_mul];exact CZ k oM
       have hu':(cur.toList.take (i*k+j)++(a.eval y).cells.toList++cur.toList.drop (i*k+j+(a.eval y).cells.toList.length))[q]?=some u:=by simpa [new] using hu
       clear hu
       suffices u.oneCell'=true∧Rp s.st ι w (Av e s.st ι w) u c from ⟨this.1,hm _ _ this.2⟩
       by_cases q1:q<i*k
       ·rw[Dj,BK (by simp;omega)] at hu';rw[Dj,BK (by simp;omega)] at hc;rw[BQ,Aj oM] at hu' hc;exact g9 q u c (by simpa using hu') hc
       ·obtain⟨q',rfl⟩:∃ q',q=i*k+q':=⟨q-i*k,oM⟩;have ht1:((flat xs).take (i*k)).length=i*k:=by simp;omega
        rw[Dj,BJ oM,ht1,Nat.add_sub_cancel_left] at hc;by_cases q2:q'<k
        ·rw[BK (by rw[← hrepl,hrl];exact q2)] at hc;by_cases q3:q'<j
         ·rw[Dj,BK (by simp;omega)] at hu';rw[Dj,BK (by rw[Cz,hkk];omega)] at hc;rw[BQ,Aj oM] at hu' hc;refine g9 (i*k+q') u c (by simpa using hu') ?_;rw[Wb hk h2 q2];exact hc
         ·have ht2:((xs.getD i .junk).cells.take j).length=j:=by rw[Cz,hkk];omega
          have ht3:(cur.toList.take (i*k+j)).length=i*k+j:=by simp;omega
          rw[Dj,BJ oM,ht3] at hu';rw[Dj,BJ oM,ht2] at hc;rw[show i*k+q'-(i*k+j)=q'-j by omega] at hu';by_cases q4:q'-j<n
          ·rw[BK oM] at hu' hc;exact⟨c2 u (BX hu'),c3 _ u c hu' hc⟩
          ·rw[BJ oM,Dx,hcl] at hu';rw[BJ oM,Dx,h3] at hc;refine g9 (i*k+q') u c ?_ ?_
           ·rw[show i*k+j+n+(q'-j-n)=i*k+q' by omega] at hu';simpa using hu'
           ·rw[Wb hk h2 q2];rw[show j+n+(q'-j-n)=q' by omega] at hc;exact hc
        ·rw[BJ (by rw[← hrepl,hrl];omega),← hrepl,hrl,Dx,show i*k+k+(q'-k)=i*k+q' by omega] at hc;have ht3:(cur.toList.take (i*k+j)).length=i*k+j:=by simp;omega
         rw[Dj,BJ oM,ht3,BJ oM,Dx,hcl,
          show i*k+j+n+(i*k+q'-(i*k+j)-n)=i*k+q' by omega] at hu'
         exact g9 _ u c (by simpa using hu') hc)
   refine⟨w.setRow b' new,upd ι id (ι id),?_,ht.1⟩;unfold szT at hsz;cases hinf:P.info? t with
   | none=>simp [hinf] at hsz
   | some inf=>
     simp [hinf] at hsz;simp [execOp,ho,hv,Instr.storeAt,Instr.sureAddr,storeVar,sizeOf,typeInfo,hinf,hsz,hsz',hrun,new]
  ·cases h
 ·cases h
end
end Go.TL
namespace Go.TL
def zr (st:Sto) (id n:Nat):Prop:=match get st id with | some (.arr _ xs _)=>xs.length=n | _=>False
theorem zp {st:Sto} {id n:Nat}:zr st id n↔∃ k xs fz,get st id=some (.arr k xs fz)∧xs.length=n:=by
 unfold zr;constructor
 ·intro h;split at h
  ·rename_i k xs fz hg;exact⟨k,xs,fz,hg,h⟩
  ·exact h.elim
 ·rintro ⟨k,xs,fz,hg,hn⟩;rw[hg];exact hn
def andI (k:IntKind) (a b:Int):Int:=k.wrap (BitVec.ofInt k.bits a &&& BitVec.ofInt k.bits b).toNat
def orI (k:IntKind) (a b:Int):Int:=k.wrap (BitVec.ofInt k.bits a ||| BitVec.ofInt k.bits b).toNat
def xorI (k:IntKind) (a b:Int):Int:=k.wrap (BitVec.ofInt k.bits a ^^^ BitVec.ofInt k.bits b).toNat
def zU1 (k:IntKind) (a b:Int):Int:=k.wrap (BitVec.ofInt k.bits a &&& ~~~ BitVec.ofInt k.bits b).toNat
def shlI (k:IntKind) (a b:Int):Int:=k.wrap (a*2 ^ (min b.toNat k.bits))
def shrI (k:IntKind) (a b:Int):Int:=a.fdiv (2 ^ (min b.toNat k.bits))
def ret (x:T):Option Res:=some ⟨True,x,[]⟩
def retI (k:IntKind) (n:Int):Option Res:=ret (.v (.int k n))
def retB (b:Bool):Option Res:=ret (.v (.bool b))
def intT (op:BinOp) (k:IntKind) (a b:Int):Option Res:=
 match op with
 | .add=>retI k (k.wrap (a+b))
 | .sub=>retI k (k.wrap (a-b))
 | .mul=>retI k (k.wrap (a*b))
 | .quo=>some ⟨b≠0,.v (.int k (k.wrap (a.tdiv b))),[]⟩
 | .rem=>some ⟨b≠0,.v (.int k (a.tmod b)),[]⟩
 | .and=>retI k (andI k a b)
 | .or=>retI k (orI k a b)
 | .xor=>retI k (xorI k a b)
 | .andNot=>retI k (zU1 k a b)
 | .shl=>some ⟨0≤b,.v (.int k (shlI k a b)),[]⟩
 | .shr=>some ⟨0≤b,.v (.int k (shrI k a b)),[]⟩
 | .eql=>retB (a==b)
 | .neq=>retB (a != b)
 | .lss=>retB (a<b)
 | .leq=>retB (a≤b)
 | .gtr=>retB (a>b)
 | .geq=>retB (a≥b)
def strT (op:BinOp) (a b:ByteArray):Option Res:=
 match op with
 | .add=>some ⟨a.size+b.size≤9223372036854775807,.v (.string (a++b)),[]⟩
 | .eql=>retB (a.toList==b.toList)
 | .neq=>retB (!(a.toList==b.toList))
 | .lss=>retB (Op.bytesLess a.toList b.toList)
 | .leq=>retB (Op.bytesLess a.toList b.toList||a.toList==b.toList)
 | .gtr=>retB (!(Op.bytesLess a.toList b.toList||a.toList==b.toList))
 | .geq=>retB (!Op.bytesLess a.toList b.toList)
 | _=>none
def qr6:BinOp→Bool
 | .shl | .shr=>true
 | _=>false
def qS1 (P:Program) (t:TypeId):Bool:=match P.underlying t with | some .bool=>true | _=>false
def binT (P:Program) (op:BinOp) (ty:TypeId) (x y:T):Option Res:=
 match x,y with
 | .v (.int k a),.v (.int k' b)=>if qr6 op||k==k' then intT op k a b else none
 | .v (.string a),.v (.string b)=>strT op a b
 | .v (.bool a),.v (.bool b)=>if qS1 P ty then (match op with | .eql=>retB (a==b) | .neq=>retB (a != b) | _=>none) else none
 | _,_=>none
theorem qn1 {P:Program} {t:TypeId} (h:P.underlying t=some .bool) (d:Nat) (a b:Bool) (w:World) :
 (Op.equalIn (d+1) t (.bool a) (.bool b)).run P w = .ok (a==b) w:=by
 unfold Op.equalIn;simp [run_underlying h]
theorem qC5 {P:Program} {t:TypeId} (h:P.underlying t=some .bool) (a b:Bool) (w:World) :
 (Op.equal t (.bool a) (.bool b)).run P w = .ok (a==b) w:=qn1 h 9999 a b w
section
variable {P:Program} {e:Env} {o:Oper} {s:St}
theorem jr3 {op:BinOp} {ty ty2:TypeId} {x y:Operand} (ho:o.op = .binOp op ty x y ty2) {r:Res} (h:binT P op ty (Operand.t s x) (Operand.t s y)=some r) (hs:r.side):Does P e o s r.val r.wr:=by
 unfold binT at h;split at h
 ·rename_i k a k' b hx hy;split at h
  ·rename_i hk;have key:r.wr=[]:=by
    unfold intT at h;cases op <;> simp [retI,retB,ret] at h <;> subst h <;> rfl
   rw[key];refine Does.of_value fun ι act w hR=>?_;have h1:=(hx ▸ hR.rp x).v_inv;have h2:=(hy ▸ hR.rp y).v_inv;by_cases hkk:k=k'
   ·subst hkk;unfold intT at h;cases op <;> simp [retI,retB,ret] at h <;> subst h <;>
     refine⟨_,?_,.im (.v _)⟩ <;>
     simp only[execOp,ho,h1,h2,eqGuard,binOp,Op.intArith,Op.intBits,Op.intDiv,Op.intCmp,Op.shift] <;> simp_all [andI,orI,xorI,zU1,shlI,shrI]
    all_goals (intro hneg;omega)
   ·unfold intT at h;cases op <;> simp [qr6,hkk] at hk <;> simp [retI,retB,ret] at h <;> subst h <;>
     refine⟨_,?_,.im (.v _)⟩ <;>
     simp only[execOp,ho,h1,h2,eqGuard,binOp,Op.shift] <;> simp_all [shlI,shrI]
    all_goals (intro hneg;omega)
  ·cases h
 ·rename_i a b hx hy;have key:r.wr=[]:=by
   unfold strT at h;cases op <;> simp [retB,ret] at h <;> subst h <;> rfl
  rw[key];refine Does.of_value fun ι act w hR=>?_;have h1:=(hx ▸ hR.rp x).v_inv;have h2:=(hy ▸ hR.rp y).v_inv;unfold strT at h;cases op <;> simp [retB,ret] at h <;> subst h <;>
   refine⟨_,?_,.im (.v _)⟩ <;>
   simp only[execOp,ho,h1,h2,eqGuard,binOp,Op.stringOp] <;> simp_all [IntKind.max,IntKind.bits,IntKind.signed]
  all_goals omega
 ·rename_i a b hx hy;split at h
  ·rename_i hb;have hbt:P.underlying ty=some .bool:=by
    unfold qS1 at hb;split at hb
    ·rename_i hu;exact hu
    ·cases hb
   have key:r.wr=[]:=by
    cases op <;> simp [retB,ret] at h <;> subst h <;> rfl
   rw[key];refine Does.of_value fun ι act w hR=>?_;have h1:=(hx ▸ hR.rp x).v_inv;have h2:=(hy ▸ hR.rp y).v_inv;cases op <;> simp [retB,ret] at h <;> subst h <;>
    refine⟨_,?_,.im (.v _)⟩ <;>
    simp [execOp,ho,h1,h2,eqGuard,binOp,qC5 hbt]
   all_goals (cases a <;> cases b <;> rfl)
  ·cases h
 ·cases h
def unT (op:UnOp) (x:T):Option Res:=
 match op,x with
 | .not,.v (.bool b)=>retB (!b)
 | .neg,.v (.int k n)=>retI k (k.wrap (0-n))
 | .xor,.v (.int k n)=>retI k (xorI k (if k.signed then -1 else k.max) n)
 | _,_=>none
theorem jI9 {op:UnOp} {ty:TypeId} {x:Operand} (ho:o.op = .unOp op ty x) {r:Res} (h:unT op (Operand.t s x)=some r) (hs:r.side):Does P e o s r.val r.wr:=by
 unfold unT at h;split at h
 all_goals first | (cases h;done) | skip
 all_goals
  rename_i hx
  first | (simp only[retB,ret,Option.some.injEq] at h;subst h) | (simp only[retI,ret,Option.some.injEq] at h;subst h)
  refine Does.of_value fun ι act w hR=>?_;have h1:=(hx ▸ hR.rp x).v_inv;refine⟨_,?_,.im (.v _)⟩;simp [execOp,ho,h1,Op.unary,Op.intArith,Op.intBits,xorI]
theorem zd9 {x:Operand} (ho:o.op = .move x∨o.op = .assign x):Does P e o s (Operand.t s x) []:=by
 refine Does.of_value fun ι act w hR=>⟨_,?_,hR.rp x⟩;rcases ho with ho | ho <;> simp [execOp,ho]
def zU2 (c a b:T):Option Res:=
 match c with
 | .v (.bool c)=>ret (bif c then a else b)
 | _=>none
theorem zU3 {c x y:Operand} (ho:o.op = .pick c x y) {r:Res} (h:zU2 (Operand.t s c) (Operand.t s x) (Operand.t s y)=some r) (hs:r.side):Does P e o s r.val r.wr:=by
 unfold zU2 at h;split at h
 ·rename_i b hc;simp [ret] at h;subst h;refine Does.of_value fun ι act w hR=>?_;have h1:=(hc ▸ hR.rp c).v_inv;have h2:=hR.rp x;have h3:=hR.rp y;refine⟨if b then act.eval x else act.eval y,?_,?_⟩
  ·simp [execOp,ho,h1,asBool]
  ·cases b
   ·exact h3
   ·exact h2
 ·cases h
def yv (x:T) (i:Nat):Option Res:=
 match x with
 | .tup vs=>match vs[i]? with | some v=>ret v | none=>none
 | _=>none
theorem ze0 {x:Operand} {i:Nat} (ho:o.op = .extract x i) {r:Res} (h:yv (Operand.t s x) i=some r) (hs:r.side):Does P e o s r.val r.wr:=by
 unfold yv at h;split at h
 ·rename_i vs hx;split at h
  ·rename_i v hv;simp [ret] at h;subst h;refine Does.of_value fun ι act w hR=>?_;obtain⟨us,hu,hl,hc⟩:=(hx ▸ hR.rp x).tup_inv;have hi:i<us.length:=by rw[hl];exact (List.getElem?_eq_some_iff.1 hv).1
   refine⟨us[i],?_,hc i _ _ (by simp [hi]) hv⟩;simp [execOp,ho,hu,Instr.extract,hi]
  ·cases h
 ·cases h
def YX (fn:Fn) (first:Array Operand) (caps:List T):Option Res:=
 match fn with
 | .func f=>if first.size=0 then ret (.clo f caps) else none
 | _=>none
theorem qS2 {fn:Fn} {first caps:Array Operand} (ho:o.op = .makeFunc fn first caps) {r:Res} (h:YX fn first (caps.toList.map (Operand.t s))=some r) (hs:r.side):Does P e o s r.val r.wr:=by
 unfold YX at h;split at h
 ·split at h
  ·rename_i f hf;simp [ret] at h;subst h;refine Does.of_value fun ι act w hR=>?_;refine⟨.func (.func f) #[] (caps.map act.eval),?_,?_⟩
   ·have:first=#[]:=Array.eq_empty_of_size_eq_zero hf
    simp [execOp,ho,Instr.makeFunc,this]
   ·have:=Rp.clo (st:=s.st) (ι:=ι) (w:=w) (A:=Av e s.st ι w) f (caps.toList.map act.eval) (caps.toList.map (Operand.t s)) sMp (fun j u c hu hc=>by
     simp only[DY] at hu hc;cases hj:caps.toList[j]? with
     | none=>simp [hj] at hu
     | some q=>simp [hj] at hu hc;subst hu hc;exact hR.rp q)
    have he:caps.map act.eval=(caps.toList.map act.eval).toArray:=by rw[← Array.toList_map]
    rw[he];exact this
  ·cases h
 ·cases h
def kG (st:Sto) (x:T):Option Res:=
 match x with
 | .ptr id n i j=>some ⟨zr st id n,.ptr id n i j,[]⟩
 | .ip cs=>ret (.ip cs)
 | .clo f cs=>ret (.clo f cs)
 | _=>none
theorem qS3 {x:Operand} (ho:o.op = .nilCheck x) {r:Res} (h:kG s.st (Operand.t s x)=some r) (hs:r.side):Does P e o s r.val r.wr:=by
 unfold kG at h;split at h
 ·rename_i id n i j hx;injection h with h;subst h;obtain⟨k,xs,fz,hg,hn⟩:=zp.1 hs;refine Does.of_value fun ι act w hR=>?_;have h0:=hx ▸ hR.rp x;obtain⟨b,cap,hi,hv⟩:=h0.ptr_inv hg hn;refine⟨_,?_,h0⟩;simp [execOp,ho,hv]
 ·rename_i cs hx;simp [ret] at h;subst h;refine Does.of_value fun ι act w hR=>?_;have h0:=hx ▸ hR.rp x;obtain⟨ad,us,hv,_⟩:=h0.ip_inv;refine⟨_,?_,h0⟩;simp [execOp,ho,hv]
 ·rename_i f cs hx;simp [ret] at h;subst h;refine Does.of_value fun ι act w hR=>?_;have h0:=hx ▸ hR.rp x;obtain⟨us,hv,_⟩:=h0.clo_inv;refine⟨_,?_,h0⟩;simp [execOp,ho,hv]
 ·cases h
def yG (P:Program) (st:Sto) (ty:TypeId) (x:T) (f:Nat):Option Res:=
 match fdT P ty f,x with
 | some (off,n,_),.ptr id m i j=>some ⟨n≠0∧zr st id m,.ptr id m i (j+off),[]⟩
 | some (off,n,_),.ip cs=>some ⟨n≠0∧off≤cs.length,.ip (cs.drop off),[]⟩
 | _,_=>none
theorem qS4 {ty:TypeId} {f off n:Nat} {l:Option Nat} (h:fdT P ty f=some (off,n,l)) :
 ∃ fs fl i,P.underlying ty=some (.struct fs)∧fs[f]?=some fl∧fl.offset=off∧P.info? fl.type=some i∧i.size=n∧ldT P fl.type=some l:=by
 unfold fdT at h;split at h
 ·rename_i fs hu;split at h
  ·rename_i fl hf;split at h
   ·rename_i n' l' hn hl;simp at h;obtain⟨rfl,rfl,rfl⟩:=h;unfold szT at hn;cases hi:P.info? fl.type with
    | none=>simp [hi] at hn
    | some i=>simp [hi] at hn;exact⟨fs,fl,i,hu,hf,rfl,hi,hn,hl⟩
   ·cases h
  ·cases h
 ·cases h
theorem Im.ip_drop {w:World} {A:Addr→Prop} {a:Addr} {cs:List T} {us:List Value} (hl:us.length=cs.length)
 (h1:∀ (j:Nat) (u:Value),us[j]?=some u→A (a.add j)∧w.cell? (a.add j)=some u∧u.oneCell'=true) (h2:∀ (j:Nat) (u:Value) (c:T),us[j]?=some u→cs[j]?=some c→Im w A u c) (off:Nat) :
 Im w A (.pointer (some (a.add off))) (.ip (cs.drop off)):=by
 refine .ip _ _ (us.drop off) (by simp [hl]) (fun j u hu=>?_) (fun j u c hu hc=>?_)
 ·rw[Dx] at hu;rw[qr4];exact h1 _ u hu
 ·rw[Dx] at hu hc;exact h2 _ u c hu hc
theorem qC6 {ty:TypeId} {x:Operand} {f:Nat} (ho:o.op = .fieldAddr ty x f) {r:Res} (h:yG P s.st ty (Operand.t s x) f=some r) (hs:r.side):Does P e o s r.val r.wr:=by
 unfold yG at h;split at h
 ·rename_i off n l id m i j hf hx;injection h with h;subst h;obtain⟨hn,hv⟩:=hs;obtain⟨fs,fl,inf,h1,h2,h3,h4,h5,_⟩:=qS4 hf;obtain⟨k,xs,fz,hg,hm⟩:=zp.1 hv;refine Does.of_value fun ι act w hR=>?_;have h0:=hx ▸ hR.rp x;obtain⟨b,cap,hi,hv⟩:=h0.ptr_inv hg hm;refine⟨.pointer (some ⟨b,i*k+(j+off),none⟩),?_,?_⟩
  ·simp [execOp,ho,hv,Instr.fieldAt,run_underlying h1,h2,Instr.sureAddr,fieldPlace,sizeOf,typeInfo,h4,h5,hn,h3,zt,Nat.add_assoc]
  ·refine .ptr _ _ _ _ _ (by rw[hg];simp) fun k' xs' fz' hg'=>?_;rw[hg] at hg';injection hg' with hg';injection hg' with e1 e2 e3
   subst e1 e2 e3;exact⟨oM,fun _=>⟨b,cap,hi,rfl⟩⟩
 ·rename_i off n l cs hf hx;injection h with h;subst h;obtain⟨hn,hv⟩:=hs;obtain⟨fs,fl,inf,h1,h2,h3,h4,h5,_⟩:=qS4 hf;refine Does.of_value fun ι act w hR=>?_;obtain⟨ad,us,hv,hl,g1,g2⟩:=(hx ▸ hR.rp x).ip_inv;refine⟨_,?_,.im (Im.ip_drop hl g1 g2 off)⟩;simp [execOp,ho,hv,Instr.fieldAt,run_underlying h1,h2,Instr.sureAddr,fieldPlace,sizeOf,typeInfo,h4,h5,hn,h3]
 ·cases h
def ze1 (P:Program) (ty:TypeId) (x:T) (f:Nat):Option Res:=
 match fdT P ty f,x with
 | some (off,_,l),.agg cs=>some ⟨need l off≤cs.length,WR l off cs,[]⟩
 | _,_=>none
theorem zO7 {t:TypeId} {l:Option Nat} (hl:ldT P t=some l) (us:List Value) (j:Nat) (hj:need l j≤us.length) (w:World) :
 (part t us.toArray j).run P w = .ok (YW l j us) w:=by
 unfold ldT at hl;split at hl
 ·rename_i d i hd hi;have agg:YW (some i.size) j us = .agg (us.toArray.extract j (j+i.size)):=by
   simp only[YW]
   congr 1
   apply Array.toList_inj.1
   rw[Array.toList_extract];simp [List.extract]
  cases d <;> simp only[Option.some.injEq] at hl <;> subst hl <;>
   first
   | (rw[agg];simp [part,isAgg,run_underlying hd,sizeOf,typeInfo,hi];done)
   | (simp only[need] at hj
      obtain⟨u,hu⟩:∃ u,us[j]?=some u:=⟨us[j],sMp⟩;have hp:YW none j us=u:=by simp [YW,List.getD,hu]
      rw[hp];simp [part,isAgg,run_underlying hd,hu])
 ·cases hl
theorem zO8 {ty:TypeId} {x:Operand} {f:Nat} (ho:o.op = .field ty x f) {r:Res} (h:ze1 P ty (Operand.t s x) f=some r) (hs:r.side):Does P e o s r.val r.wr:=by
 unfold ze1 at h;split at h
 ·rename_i off n l cs hf hx;injection h with h;subst h;obtain⟨fs,fl,inf,h1,h2,h3,h4,h5,h6⟩:=qS4 hf;refine Does.of_value fun ι act w hR=>?_;obtain⟨us,hv,hl,hc⟩:=(hx ▸ hR.rp x).agg_inv;refine⟨YW l off us,?_,qr3 hl hc l off hs⟩;have:=zO7 (P:=P) h6 us off (by rw[hl];exact hs) w;simp [execOp,ho,hv,Instr.field,run_underlying h1,h2,asAgg,h3,this]
 ·cases h
end
end Go.TL
