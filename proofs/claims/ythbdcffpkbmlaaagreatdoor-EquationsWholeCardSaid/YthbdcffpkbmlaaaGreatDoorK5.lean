/- A part of the proof: ZzCode ZzIR. -/
import Derived.Test.YthbdcffpkbmlaaaGreatDoorK4
namespace Go.TL
section
variable {P:Program} {e:Env}
theorem jt2 {f:FuncId} (h:goFn P f=true) (args:Array Value) (w:World):(callFunc f args).run P w = .ok (.enter f args) w:=by
 unfold goFn at h;split at h
 ·rename_i fn hf;simp only[Bq,Bx,Ak,ne_eq] at h;obtain⟨h1,h2⟩:=h;obtain⟨b,hb⟩:=Option.isSome_iff_exists.1 h1;simp [callFunc,program,Sem.run,hf,h2,hb]
 ·cases h
theorem jt3 {o:Oper} {s:St} {c:Call} {fo:Operand} {f:FuncId} {caps ts':List T} {st1 st1':Sto} {r val:T} {wr:List (Nat×Ob)} {ρ ρ2:Nat→Option Nat} {B rd:List Nat} (ho:o.op = .call c) (hcv:c.callee = .value fo)
 (hf:Operand.t s fo = .clo f caps) (hsp:Spc P f ts' st1 r st1') (hc:CallOK s.st (c.args.toList.map (Operand.t s)++caps) ts' st1 st1' r val wr ρ ρ2 B rd):Evs P e o s rd ⟨val,wr⟩:=by
 intro s' hT hI ι a w K Q hR hK;have hops:o.op.operands.toList=fo::c.args.toList:=by
  rw[ho];simp [Op.operands,Call.operands,hcv]
 rw[hops] at hT;have hT':=kC hT;have hfo:Operand.t s' fo = .clo f caps:=by rw[← hT' fo sMp];exact hf
 have hargs:c.args.toList.map (Operand.t s)=c.args.toList.map (Operand.t s'):=Ew fun x hx=>hT' x (by simp [hx]);rw[hargs] at hc;have hc':=hc.alike hI;obtain⟨us,hu1,hu2,hu3⟩:=(hfo ▸ hR.rp fo).clo_inv;have hrun:(execOp a.eval o).run P w = .ok (.enter f ((c.args.map a.eval)++us.toArray)) w:=by
  have hg:=jt2 hsp.1 ((c.args.map a.eval)++us.toArray) w;simp [execOp,ho,resolve,hcv,hu1,Deferred.ofValue,invoke];simpa using hg
 have hcall:=hc'.does hsp hR ((c.args.map a.eval)++us.toArray) (by simp [hu2]) (fun i v t hv ht=>by
  have hv':((c.args.toList.map a.eval)++us)[i]?=some v:=by
   rw[← hv];simp [← Array.getElem?_toList]
  by_cases hi:i<c.args.size
  ·rw[BK (by simpa using hi)] at hv' ht;simp only[DY] at hv' ht;cases hq:c.args.toList[i]? with
   | none=>simp [hq] at hv'
   | some x=>simp [hq] at hv' ht;subst hv' ht;exact hR.rp x
  ·rw[BJ (by simpa using hi)] at hv' ht;simp only[BY,Array.length_toList] at hv' ht;exact hu3 _ v t hv' ht)
 unfold Oper.wp;rw[hrun,Oper.upon_enter];refine hcall.mono ?_;rintro en w' ⟨v,ι',rfl,h1,h2⟩;exact hK v w' ι' h1 h2
def zC2:Op→Bool
 | .call c=>match c.callee with
   | .builtin _=>false
   | _=>true
 | _=>false
def zQ2 (s:St) (o:Oper) (val:T) (wr:List (Nat×Ob)):St:=⟨match o.dst with | some d=>(d,val)::s.fr | none=>s.fr,wr++s.st⟩
def qa3 (ops:List Oper) (o:Oper):List Tmp:=match o.guard with | some (j,_)=>(gdst ops j).toList | none=>[]
def kJ (ops:List Oper) (o:Oper) (rdI:List Nat) (wr:List (Nat×Ob)):Foot:=⟨qa3 ops o++JR o.op.operands.toList,rdI,o.dst,wr.map (·.1)⟩
def wp1 (P:Program) (e:Env) (nid:Nat) (o:Oper) (s:St) (K:T→List (Nat×Ob)→List Nat→Prop):Prop:=
 if zC2 o.op then ∃ val wr rd,Evs P e o s rd ⟨val,wr⟩∧K val wr rd
 else match opT P s nid o with
  | some r=>r.side∧K r.val r.wr (nid::zP9 s o.op.operands.toList)
  | none=>False
def wpO (P:Program) (e:Env) (ops:List Oper):Nat→List Oper→St→List Foot→(St→List Foot→Prop)→Prop
 | _,[],s,acc,Q=>Q s acc
 | nid,o::rest,s,acc,Q=>
   match o.guard with
   | none=>wp1 P e nid o s fun val wr rd=>wpO P e ops (nid+4) rest (zQ2 s o val wr) (acc++[kJ ops o rd wr]) Q
   | some (j,want)=>
     match gdst ops j with
     | none=>∃ rd,wpO P e ops (nid+4) rest (zQ2 s o (.v undef) []) (acc++[kJ ops o rd []]) Q
     | some d=>
       match get s.fr d with
       | some (.v (.bool b))=>
         (b=want→wp1 P e nid o s fun val wr rd=>wpO P e ops (nid+4) rest (zQ2 s o val wr) (acc++[kJ ops o rd wr]) Q)∧
         (b=!want→∃ rd,wpO P e ops (nid+4) rest (zQ2 s o (.v undef) []) (acc++[kJ ops o rd []]) Q)
       | some (.v _)=>∃ rd,wpO P e ops (nid+4) rest (zQ2 s o (.v undef) []) (acc++[kJ ops o rd []]) Q
       | _=>False
theorem zW9 {nid:Nat} {o:Oper} {s:St} {K:T→List (Nat×Ob)→List Nat→Prop} (h:wp1 P e nid o s K):∃ val wr rd,Evs P e o s rd ⟨val,wr⟩∧K val wr rd:=by
 unfold wp1 at h;split at h
 ·exact h
 ·split at h
  ·rename_i r hr;exact⟨_,_,_,zW3 hr h.1,h.2⟩
  ·exact h.elim
theorem qM7 {ops:List Oper} {o:Oper} {rd:List Nat} {wr:List (Nat×Ob)}:∀ j want d,o.guard=some (j,want)→gdst ops j=some d→d∈(kJ ops o rd wr).rdT:=by
 intro j want d hg hd;simp only[kJ,Dz];left
 simp [qa3,hg,hd]
theorem Wf {ops:List Oper} {o:Oper} {s:St} {rd:List Nat} {val:T} {wr:List (Nat×Ob)} (hl:Lets ops o s) (he:Evs P e o s rd ⟨val,wr⟩):RecOK P e ops s ⟨o,true,⟨val,wr⟩,kJ ops o rd wr⟩ where
 rdT:=fun t ht=>by simp [kJ];right;simpa using ht
 rdG:=qM7
 dst:=rfl
 wrI:=fun p hp=>by simp only[kJ,Cj];exact⟨p,hp,rfl⟩
 go:=fun _=>⟨hl,he⟩
 bar:=fun h=>by cases h
theorem Km {ops:List Oper} {o:Oper} {s:St} (rd:List Nat) (hl:Bars ops o s):RecOK P e ops s ⟨o,false,⟨.v undef,[]⟩,kJ ops o rd []⟩ where
 rdT:=fun t ht=>by simp [kJ];right;simpa using ht
 rdG:=qM7
 dst:=rfl
 wrI:=fun p hp=>by simp at hp
 go:=fun h=>by cases h
 bar:=fun _=>⟨hl,rfl⟩
theorem zX0 {ops:List Oper}:∀ (l:List Oper) (nid:Nat) (s:St) (acc:List Foot) (Q:St→List Foot→Prop),wpO P e ops nid l s acc Q→
 ∃ rs s',Tr P e ops s rs s'∧rs.map (·.o)=l∧Q s' (acc++rs.map (·.foot))
 | [],nid,s,acc,Q,h=>⟨[],s,.nil (St.eqv_refl s),rfl,by simpa [wpO] using h⟩
 | o::rest,nid,s,acc,Q,h=>by
   have fin:∀ (s0:St),s.eqv s0→∀ go val wr rd,RecOK P e ops s0 ⟨o,go,⟨val,wr⟩,kJ ops o rd wr⟩→wpO P e ops (nid+4) rest (zQ2 s0 o val wr) (acc++[kJ ops o rd wr]) Q→
    ∃ rs s',Tr P e ops s rs s'∧rs.map (·.o)=o::rest∧Q s' (acc++rs.map (·.foot)):=by
    intro s0 h0 go val wr rd hok hw;obtain⟨rs,s',h1,h2,h3⟩:=zX0 rest _ _ _ _ hw;exact⟨⟨o,go,⟨val,wr⟩,kJ ops o rd wr⟩::rs,s',Tr.eqv h0 (.cons hok h1),by simp [h2],by simpa using h3⟩
   unfold wpO at h;split at h
   ·rename_i hg;obtain⟨val,wr,rd,h1,h2⟩:=zW9 h;exact fin s (St.eqv_refl s) true val wr rd (Wf (by unfold Lets;rw[hg];trivial) h1) h2
   ·rename_i j want hg;split at h
    ·rename_i hd;obtain⟨rd,h⟩:=h;exact fin s (St.eqv_refl s) false _ _ rd (Km rd ⟨j,want,hg,.inl hd⟩) h
    ·rename_i d hd;split at h
     ·rename_i b hb;by_cases hbw:b=want
      ·subst hbw;obtain⟨val,wr,rd,h1,h2⟩:=zW9 (h.1 rfl);exact fin s (St.eqv_refl s) true val wr rd (Wf (by unfold Lets;rw[hg];exact⟨d,hd,hb⟩) h1) h2
      ·have hb':b=!want:=by cases b <;> cases want <;> simp_all
       subst hb';obtain⟨rd,h⟩:=h.2 rfl;refine fin s (St.eqv_refl s) false _ _ rd (Km rd ⟨j,want,hg,.inr ⟨d,_,hd,hb,?_⟩⟩) h;cases want <;> simp
     ·rename_i x hne hx;obtain⟨rd,h⟩:=h;refine fin s (St.eqv_refl s) false _ _ rd (Km rd ⟨j,want,hg,.inr ⟨d,x,hd,hx,?_⟩⟩) h;exact fun hq=>hne _ hq
     ·exact h.elim
def jt4 (ops:List Oper) (n:Nat):Bool:=ops.all fun o=>match o.dst with | some d=>decide (d<n) | none=>true
theorem Wg {ops:List Oper} {n:Nat} (h:jt4 ops n=true):∀ o∈ops,∀ d,o.dst=some d→d<n:=by
 intro o ho d hd;have:=Bk.1 h o ho;rw[hd] at this;simpa using this
inductive Ex where
 | normal
 | exit (id:Nat)
 | ret
def lift (e:Env) (Q:Ex→St→Prop):Exit→Act→World→Prop:=fun x a w=>∃ ι s,Rel e s ι a w∧
 match x with
 | .normal=>Q .normal s
 | .exit id=>Q (.exit id) s
 | .ret=>Q .ret s
 | _=>False
def WP (P:Program) (e:Env) (c:Code) (s:St) (Q:Ex→St→Prop):Prop:=∀ ι a w,Rel e s ι a w→c.wp P (lift e Q) a w
theorem WP.mono {c:Code} {s:St} {Q Q':Ex→St→Prop} (h:WP P e c s Q) (hq:∀ x s,Q x s→Q' x s):WP P e c s Q':=by
 intro ι a w hR;refine Code.wp_mono ?_ (h ι a w hR);rintro x a w ⟨ι,s,h1,h2⟩;refine⟨ι,s,h1,?_⟩;cases x <;> first | exact hq _ _ h2 | exact h2
theorem WP.skip {s:St} {Q:Ex→St→Prop} (h:Q .normal s):WP P e .skip s Q:=fun ι a w hR=>wp_skip ⟨ι,s,hR,h⟩
theorem WP.label {l:Nat} {s:St} {Q:Ex→St→Prop} (h:Q .normal s):WP P e (.label l) s Q:=fun ι a w hR=>wp_label ⟨ι,s,hR,h⟩
theorem WP.exit {id:Nat} {s:St} {Q:Ex→St→Prop} (h:Q (.exit id) s):WP P e (.exit id) s Q:=fun ι a w hR=>wp_exit ⟨ι,s,hR,h⟩
theorem WP.ret {s:St} {Q:Ex→St→Prop} (h:Q .ret s):WP P e .ret s Q:=fun ι a w hR=>wp_ret ⟨ι,s,hR,h⟩
def jY1 (K:St→Prop) (Q:Ex→St→Prop):Ex→St→Prop
 | .normal,s=>K s
 | x,s=>Q x s
theorem WP.seq {a b:Code} {s:St} {Q:Ex→St→Prop} (h:∀ K:St→Prop,(∀ s,WP P e b s Q→K s)→WP P e a s (jY1 K Q)):WP P e (.seq a b) s Q:=by
 intro ι ac w hR;refine wp_seq ?_;refine Code.wp_mono ?_ (h (fun s=>WP P e b s Q) (fun s h=>h) ι ac w hR);rintro x a w ⟨ι,s,h1,h2⟩;cases x with
 | normal=>exact h2 ι a w h1
 | exit id=>exact⟨ι,s,h1,h2⟩
 | ret=>exact⟨ι,s,h1,h2⟩
 | _=>exact h2.elim
theorem WP.cond {c:Operand} {a b:Code} {s:St} {Q:Ex→St→Prop} {t:Bool} (hc:Operand.t s c = .v (.bool t)) (h1:t=true→WP P e a s Q) (h2:t=false→WP P e b s Q):WP P e (.cond c a b) s Q:=by
 intro ι ac w hR;have:=(hc ▸ hR.rp c).v_inv;exact wp_cond_split this (fun ht=>h1 ht ι ac w hR) (fun ht=>h2 ht ι ac w hR)
theorem WP.condU {c:Operand} {a b:Code} {s:St} {Q:Ex→St→Prop} {p q:Bool} (hc:Operand.t s c = .ub p q) (h1:p=true→WP P e a s Q) (h2:q=true→WP P e b s Q):WP P e (.cond c a b) s Q:=by
 intro ι ac w hR;obtain⟨t,ht,h3,h4⟩:∃ t,ac.eval c = .bool t∧(t=true→p=true)∧(t=false→q=true):=by
  have h0:=hc ▸ hR.rp c;generalize ac.eval c=v at h0 ⊢
  cases h0 with
  | im h=>cases h with
    | ub b _ _ h1 h2=>exact⟨b,rfl,h1,h2⟩
 exact wp_cond_split ht (fun ht=>h1 (h3 ht) ι ac w hR) (fun ht=>h2 (h4 ht) ι ac w hR)
theorem WP.scope {c:Code} {s:St} {Q:Ex→St→Prop} (h:WP P e c s Q):WP P e (.scope c) s Q:=by
 intro ι ac w hR;refine wp_scope_straight (Code.wp_mono ?_ (h ι ac w hR));rintro x a w ⟨ι,s,h1,h2⟩;cases x with
 | goto l=>exact h2.elim
 | _=>exact⟨ι,s,h1,h2⟩
def zC3 (id:Nat) (Q:Ex→St→Prop):Ex→St→Prop
 | .exit i,s=>if i=id then Q .normal s else Q (.exit i) s
 | x,s=>Q x s
theorem WP.block {id:Nat} {c:Code} {s:St} {Q:Ex→St→Prop} (h:WP P e c s (zC3 id Q)):WP P e (.block id c) s Q:=by
 intro ι a w hR;refine wp_block ?_;refine Code.wp_mono ?_ (h ι a w hR);rintro x a w ⟨ι,s,h1,h2⟩;cases x with
 | exit i=>
   simp only[Exit.inBlock];simp only[zC3] at h2;split
   ·rename_i hi;rw[Aj hi] at h2;exact⟨ι,s,h1,h2⟩
   ·rename_i hi;rw[Aq hi] at h2;exact⟨ι,s,h1,h2⟩
 | normal=>exact⟨ι,s,h1,h2⟩
 | ret=>exact⟨ι,s,h1,h2⟩
 | _=>exact h2.elim
theorem WP.less {c:Code} {s s':St} {Q:Ex→St→Prop} {ρ:Nat→Option Nat} {B:List Nat} (hl:LeS e s s' ρ B) (h:WP P e c s' Q):WP P e c s Q:=fun ι a w hR=>h _ a w (hR.less hl)
def Le (e:Env) (s s':St):Prop:=∀ ι a w,Rel e s ι a w→∃ ι',Rel e s' ι' a w
theorem LeS.le {s s':St} {ρ:Nat→Option Nat} {B:List Nat} (hl:LeS e s s' ρ B):Le e s s':=fun ι a w h=>⟨_,h.less hl⟩
theorem Le.refl (s:St):Le e s s:=fun ι a w h=>⟨ι,h⟩
theorem Le.trans {s s' s'':St} (h:Le e s s') (h':Le e s' s''):Le e s s'':=fun ι a w hR=>let ⟨ι',h1⟩:=h ι a w hR;h' ι' a w h1
theorem WP.le {c:Code} {s s':St} {Q:Ex→St→Prop} (hl:Le e s s') (h:WP P e c s' Q):WP P e c s Q:=fun ι a w hR=>let ⟨ι',h1⟩:=hl ι a w hR;h ι' a w h1
def cut0 (id nid n m:Nat):T→T
 | .vw i n' lo len=>if i=id∧n'=n∧lo=0∧len=m then .asl nid m else .vw i n' lo len
 | x=>x
def cut1 (id nid n m:Nat):T→T
 | .agg cs=>.agg (cs.map (cut0 id nid n m))
 | x=>cut0 id nid n m x
def cut2 (id nid n m:Nat):T→T
 | .tup ts=>.tup (ts.map (cut1 id nid n m))
 | x=>cut1 id nid n m x
def jJ7 (id nid n m:Nat) (fr:List (Nat×T)):List (Nat×T):=fr.map fun p=>(p.1,cut2 id nid n m p.2)
def Wr (id nid m k:Nat) (xs:List T) (st:Sto):Sto:=(id,.dead)::(nid,.arr k (xs.take m) false)::st
theorem zf1 (id nid n m:Nat):∀ (fr:List (Nat×T)) (t:Nat),get (jJ7 id nid n m fr) t=(get fr t).map (cut2 id nid n m)
 | [],t=>rfl
 | (j,x)::r,t=>by
   simp only[jJ7,List.map_cons,get];split
   ·rfl
   ·exact zf1 id nid n m r t
def z0 (o:Option (Nat×Nat)):Option (Nat×Nat):=match o with | some (b,c)=>if 0<c then some (b,c) else none | none=>none
theorem Le.cut {fr:List (Nat×T)} {st:Sto} (id nid m:Nat) {k:Nat} {xs:List T} (hg:get st id=some (.arr k xs false)) (hn:get st nid=none) (hm:m≤xs.length) :
 Le e ⟨fr,st⟩ ⟨jJ7 id nid xs.length m fr,Wr id nid m k xs st⟩:=by
 intro ι a w hR;have hne:id≠nid:=fun e=>by subst e;rw[hn] at hg;cases hg
 have hgn:get (Wr id nid m k xs st) nid=some (.arr k (xs.take m) false):=by
  unfold Wr;rw[qw _ _ hne,qz]
 have hgd:get (Wr id nid m k xs st) id=some .dead:=by unfold Wr;rw[qz]
 have hgo:∀ i,i≠id→i≠nid→get (Wr id nid m k xs st) i=get st i:=fun i h1 h2=>by
  unfold Wr;rw[qw _ _ (Ne.symm h1),qw _ _ (Ne.symm h2)]
 have hcase:∀ i k' xs' fz',get (Wr id nid m k xs st) i=some (.arr k' xs' fz')→(i=nid∧k'=k∧xs'=xs.take m∧fz'=false)∨(i≠id∧i≠nid∧get st i=some (.arr k' xs' fz')):=by
  intro i k' xs' fz' h;by_cases h1:i=id
  ·subst h1;rw[hgd] at h;injection h with h;cases h
  ·by_cases h2:i=nid
   ·subst h2;rw[hgn] at h;injection h with h;injection h with e1 e2 e3
    exact .inl ⟨rfl,e1.symm,e2.symm,e3.symm⟩
   ·exact .inr ⟨h1,h2,by rw[← hgo i h1 h2];exact h⟩
 have hcaseM:∀ i es,get (Wr id nid m k xs st) i=some (.mp es)→i≠id∧i≠nid∧get st i=some (.mp es):=by
  intro i es h;by_cases h1:i=id
  ·subst h1;rw[hgd] at h;injection h with h;cases h
  ·by_cases h2:i=nid
   ·subst h2;rw[hgn] at h;injection h with h;cases h
   ·exact⟨h1,h2,by rw[← hgo i h1 h2];exact h⟩
 have hnn:∀ i,get st i≠none→i≠nid:=fun i hi e'=>hi (e' ▸ hn);have hob0:=hR.ob id _ hg;have hz:∀ b c,z0 (ι id)=some (b,c)→ι id=some (b,c):=by
  intro b c h;unfold z0 at h;split at h
  ·split at h
   ·rename_i hi _;rw[hi];exact h
   ·cases h
  ·cases h
 have hgoes:Goes st ι (Wr id nid m k xs st) (upd ι nid (z0 (ι id))):=by
  refine⟨fun i hi=>?_,fun i k' xs' fz' h hi=>?_,fun i es h _=>⟨⟨es,(hcaseM i es h).2.2⟩,zc _ _ (hcaseM i es h).2.1⟩⟩
  ·by_cases h1:i=id
   ·subst h1;rw[hgd];simp
   ·rw[hgo i h1 (hnn i hi)];exact hi
  ·rcases hcase i k' xs' fz' h with⟨h1,_⟩ | ⟨h1,h2,h3⟩
   ·exact absurd h1 (hnn i hi)
   ·exact⟨k',xs',fz',h3,rfl,BZ _,fun _=>zc _ _ h2⟩
 have hgo2:=hR.go (st':=Wr id nid m k xs st) (ι':=upd ι nid (z0 (ι id))) (w':=w) hgoes (fun _ _ _ h=>h) ?_ ?_ ?_ ?_ (fun _ _ _=>rfl) (BZ _) rfl rfl rfl
  (fun i es h=>⟨(hcaseM i es h).2.2,zc _ _ (hcaseM i es h).2.1,fun _ _ _=>rfl⟩)
 ·obtain⟨hR',hrp⟩:=hgo2;refine⟨upd ι nid (z0 (ι id)),hR'.size,hR'.dfr,fun t x hx=>?_,hR'.ob,hR'.inj,hR'.own,hR'.keep,hR'.hs,hR'.sS,hR'.os,hR'.tape,hR'.output,hR'.gs,hR'.stab,hR'.mp⟩;rw[zf1] at hx;cases hf:get fr t with
  | none=>rw[hf] at hx;cases hx
  | some x0=>
    rw[hf] at hx;simp only[Ej,Option.some.injEq] at hx;subst hx;have h0:=hR.fr t x0 hf;have h0':∀ {v:Value} {c:T},Rp st ι w (Av e st ι w) v c→Rp (Wr id nid m k xs st) (upd ι nid (z0 (ι id))) w (Av e (Wr id nid m k xs st) (upd ι nid (z0 (ι id))) w) v (cut0 id nid xs.length m c):=by
     intro v c hv;unfold cut0;split
     ·rename_i i n' lo len;split
      ·rename_i hc;obtain⟨rfl,rfl,rfl,rfl⟩:=hc;obtain⟨hle,hvw⟩:=hv.vw_inv hg rfl;refine .asl nid len v (by rw[hgn];simp) fun k2 xs2 fz2 hg2=>?_;rw[hgn] at hg2;injection hg2 with hg2;injection hg2 with e1 e2 e3
       subst e1 e2 e3;refine⟨by simp;omega,fun _=>?_⟩;rw[qQ];rcases hob0.2 with⟨q1,q2⟩ | ⟨b,cap,cur,E,q4,q5,q6,q7,_⟩
       ·subst q2;simp only[Cw] at hle;have:len=0:=by omega
        subst this;rw[q1] at hvw ⊢
        exact hvw
       ·rw[q4] at hvw ⊢
        obtain⟨p,rfl,hp⟩:=hvw;by_cases hc:0<cap
        ·have:=hp hc;subst this;rw[show z0 (some (b,cap))=some (b,cap) by simp [z0,hc]];show Value.slice (some ⟨b,0*k,none⟩) len (cap-0)=Value.slice (some ⟨b,0,none⟩) len cap;simp
        ·rw[show z0 (some (b,cap))=none by simp [z0,hc]];have h1:len=0:=by omega
         have h2:cap=0:=by omega
         subst h1 h2;exact⟨p,rfl⟩
      ·exact hrp _ _ hv
     ·exact hrp _ _ hv
    have h1':∀ {v:Value} {c:T},Rp st ι w (Av e st ι w) v c→Rp (Wr id nid m k xs st) (upd ι nid (z0 (ι id))) w (Av e (Wr id nid m k xs st) (upd ι nid (z0 (ι id))) w) v (cut1 id nid xs.length m c):=by
     intro v c hv;unfold cut1;split
     ·rename_i cs;obtain⟨us,rfl,g1,g2⟩:=hv.agg_inv;refine .agg us _ (by simpa using g1) fun j u c hu hc=>?_;rw[DY] at hc;cases hcj:cs[j]? with
      | none=>rw[hcj] at hc;cases hc
      | some c0=>rw[hcj] at hc;simp only[Ej,Option.some.injEq] at hc;subst hc;exact h0' (g2 j u c0 hu hcj)
     ·exact h0' hv
    unfold cut2;split
    ·rename_i ts;obtain⟨us,hus,g1,g2⟩:=h0.tup_inv;rw[hus];refine .tup us _ (by simpa using g1) fun j u c hu hc=>?_;rw[DY] at hc;cases hcj:ts[j]? with
     | none=>rw[hcj] at hc;cases hc
     | some c0=>rw[hcj] at hc;simp only[Ej,Option.some.injEq] at hc;subst hc;exact h1' (g2 j u c0 hu hcj)
    ·exact h1' h0
 ·rintro x (hx | ⟨h1,h2,h3⟩)
  ·exact .inl hx
  ·refine .inr ⟨h1,h2,fun i k1 x1 f1 cap' hg1 hi=>?_⟩;rcases hcase i k1 x1 f1 hg1 with⟨q1,q2,q3,q4⟩ | ⟨q1,q2,q3⟩
   ·subst q1;rw[qQ] at hi;have:=(h3 id k xs false cap' hg (hz _ _ hi)).1;cases this
   ·rw[zc _ _ q2] at hi;exact h3 i k1 x1 f1 cap' q3 hi
 ·intro i o' ho';by_cases h1:i=id
  ·subst h1;rw[hgd] at ho';injection ho' with ho';subst ho'
   exact .inr fun _=>trivial
  ·by_cases h2:i=nid
   ·subst h2;rw[hgn] at ho';injection ho' with ho';subst ho'
    refine .inr fun hm'=>⟨fun x hx=>hob0.1 x (EX hx),?_⟩;rcases hob0.2 with⟨q1,q2⟩ | ⟨b,cap,cur,E,q4,q5,q6,q7,q8,q9⟩
    ·subst q2;exact .inl ⟨by rw[qQ,q1];rfl,sMp⟩
    ·by_cases hc:0<cap
     case neg=>
       have hx0:xs=[]:=DK oM;subst hx0;exact .inl ⟨by rw[qQ,q4];simp [z0,hc],sMp⟩
     refine .inr ⟨b,cap,cur,E,by rw[qQ,q4];simp [z0,hc],q5,q6,by simp;omega,q8,fun j u c hu hc=>?_⟩;rw[ZE hob0.1,BQ] at hc;split at hc
     ·obtain⟨r1,r2⟩:=q9 j u c hu hc;exact⟨r1,hm' _ _ r2⟩
     ·cases hc
   ·rw[hgo i h1 h2] at ho';exact .inl ⟨ho',zc _ _ h2,fun _ _ _ _=>rfl⟩
 ·intro i i' k1 x1 f1 k2 x2 f2 b c c' g1 g2 e1 e2;rcases hcase i k1 x1 f1 g1 with⟨q1,_⟩ | ⟨q1,q2,q3⟩ <;> rcases hcase i' k2 x2 f2 g2 with⟨p1,_⟩ | ⟨p1,p2,p3⟩
  ·rw[q1,p1]
  ·subst q1;rw[qQ] at e1;rw[zc _ _ p2] at e2;exact absurd (hR.inj i' id _ _ _ _ _ _ b c' c p3 hg e2 (hz _ _ e1)) p1
  ·subst p1;rw[qQ] at e2;rw[zc _ _ q2] at e1;exact absurd (hR.inj i id _ _ _ _ _ _ b c c' q3 hg e1 (hz _ _ e2)) q1
  ·rw[zc _ _ q2] at e1;rw[zc _ _ p2] at e2;exact hR.inj i i' _ _ _ _ _ _ b c c' q3 p3 e1 e2
 ·intro i k1 x1 f1 b c g1 e1;rcases hcase i k1 x1 f1 g1 with⟨q1,_⟩ | ⟨q1,q2,q3⟩
  ·subst q1;rw[qQ] at e1;exact hR.own id _ _ _ b c hg (hz _ _ e1)
  ·rw[zc _ _ q2] at e1;exact hR.own i _ _ _ b c q3 e1
def jt5 {α:Type} (e:Env) (I:α→Prop) (f:α→St) (μ:α→Nat) (x:α) (Q:Ex→St→Prop):Ex→St→Prop
 | .normal,s=>∃ y,I y∧μ y<μ x∧Le e s (f y)
 | x,s=>Q x s
theorem WP.loop {α:Type} {c:Code} {s:St} {Q:Ex→St→Prop} (I:α→Prop) (f:α→St) (μ:α→Nat) (x0:α) (h0:I x0) (hs:Le e s (f x0))
 (round:∀ x,I x→WP P e c (f x) (jt5 e I f μ x Q)):WP P e (.loop c) s Q:=by
 intro ι a w hR b k cs;have key:∀ n x ι a w,μ x=n→I x→Rel e (f x) ι a w→
  ∃ ex a' w',lift e Q ex a' w'∧Arrives P (lone (b.at a (.code c :: .inLoop c::k)) cs w) b k cs ex a' w':=by
  intro n
  induction n using Nat.strongRecOn with
  | _ n ih=>
    intro x ι a w hn hI hR;obtain⟨ex,a₁,w₁,⟨ι1,s1,hq1,hq⟩,harr⟩:=round x hI ι a w hR b (.inLoop c::k) cs;cases ex with
    | normal=>
      obtain⟨y,hy,hlt,hle⟩:=hq;obtain⟨ι2,hR2⟩:=hle ι1 a₁ w₁ hq1;obtain⟨e₂,a₂,w₂,hq₂,harr₂⟩:=ih (μ y) (hn ▸ hlt) y ι2 a₁ w₁ rfl hy hR2;exact⟨e₂,a₂,w₂,hq₂,.of_steps (Steps.trans harr (.one step_inLoop)) harr₂⟩
    | exit id=>exact⟨_,a₁,w₁,⟨ι1,s1,hq1,hq⟩,.pass (x:=.inLoop c) rfl (fun _ _=>.inl sMp) harr⟩
    | ret=>exact⟨_,a₁,w₁,⟨ι1,s1,hq1,hq⟩,.pass (x:=.inLoop c) rfl (fun _ _=>.inl sMp) harr⟩
    | _=>exact hq.elim
 obtain⟨ι1,hR1⟩:=hs ι a w hR;obtain⟨ex,a',w',hq,harr⟩:=key _ x0 ι1 a w rfl h0 hR1;exact⟨ex,a',w',hq,.of_steps (.one step_loop) harr⟩
theorem WP.region {id:Nat} {ops:List Oper} {s:St} {Q:Ex→St→Prop} (hd:jt4 ops e.n=true) (h:wpO P e ops ((id+1)*4096) ops s [] fun s' _=>Q .normal s'):WP P e (.region id ops.toArray false) s Q:=by
 intro ι a w hR;obtain⟨rs,s',h1,h2,h3⟩:=zX0 _ _ _ _ _ h;refine wp_region_lit ?_;rw[show wpList P ops.toArray (lift e Q) ops a w=wpList P ops.toArray (lift e Q) (rs.map (·.o)) a w by rw[h2]];exact h1.list (Wg hd) (fun r hr=>by rw[← h2];exact Cj.2 ⟨r,hr,rfl⟩) hR fun ι a w hR'=>⟨ι,s',hR',h3⟩
theorem WP.draw {id:Nat} {ops:List Oper} {s:St} {Q:Ex→St→Prop} (hm:P.follows .mixedOrders=true) (hd:jt4 ops e.n=true) (h:wpO P e ops ((id+1)*4096) ops s [] fun s' acc=>qk9 ops acc=true∧Q .normal s'):WP P e (.region id ops.toArray true) s Q:=by
 intro ι a w hR;obtain⟨rs,s',h1,h2,h3,h4⟩:=zX0 _ _ _ _ _ h;have hLf:∀ k,Lf (Array.replicate ops.toArray.size false) k=false:=by
  intro k;unfold Lf;simp only[Dq];rw[Array.getElem?_replicate];split <;> simp
 refine wp_region_any hm ?_;have hR':Rel e s ι a { w with drawn:=w.drawn+1 }:=hR.heap rfl rfl rfl rfl;refine Tr.any h1 h2 (by simpa using h3) (Wg hd) (fun ι a w hR'=>⟨ι,s',hR',h4⟩) _ _ s ι a _ sMp ?_ hR' (fun t=>?_) (fun j=>?_) ?_
 ·intro j hj o ho ed he hb;simp only[Dq,List.size_toArray] at hj;rw[Array.getElem?_replicate] at hj;split at hj <;> simp at hj
 ·unfold frAt;rw[wl (i:=0) (Nat.zero_le _) (fun k _ hk=>by rw[hLf k];rfl)]
  rfl
 ·unfold stAt;rw[wl (i:=0) (Nat.zero_le _) (fun k _ hk=>by rw[hLf k];rfl)]
  rfl
 ·unfold unl;simp only[hLf];simp
def resT (P:Program) (s:St):ResultVar→Option (Prop×T)
 | .tmp t=>some (True,(get s.fr t).getD .junk)
 | .cell a ty=>match qr5 P s ty ((get s.fr a).getD .junk) with
   | some r=>some (r.side,r.val)
   | none=>none
def Ko (P:Program) (s:St):List ResultVar→Option (Prop×List T)
 | []=>some (True,[])
 | x::r=>match resT P s x,Ko P s r with
   | some (p,t),some (q,l)=>some (p∧q,t::l)
   | _,_=>none
def tupT:List T→T
 | [t]=>t
 | l=>.tup l
def endQ (P:Program) (e:Env) (rs:List ResultVar) (r:T) (st':Sto):Ex→St→Prop
 | .exit _,_=>False
 | _,s=>match Ko P s rs with
   | some (p,l)=>p∧Le { e with n:=1 } ⟨[(0,tupT l)],s.st⟩ ⟨[(0,r)],st'⟩
   | none=>False
theorem zX1 {s:St} {ι:Iota} {a:Act} {w:World} (hR:Rel e s ι a w) {t:TypeId} {x:T} {v:Value} (hx:Rp s.st ι w (Av e s.st ι w) v x) {r:Res} (h:qr5 P s t x=some r) (hs:r.side) :
 ∃ ad u,v = .pointer (some ad)∧(loadVar t ad).run P w = .ok u w∧Rp s.st ι w (Av e s.st ι w) u r.val:=by
 unfold qr5 at h;split at h
 ·rename_i l id m i j hl;split at h
  ·rename_i k xs fz hg;injection h with h;subst h;obtain⟨h1,h2,h3⟩:=hs;obtain⟨b,cap,hi,hv⟩:=hx.ptr_inv hg h1;obtain⟨us,hu1,hu2,hu3,hu4⟩:=hR.elem hg hi h2;have:=yu (P:=P) (w:=w) hl ⟨b,i*k,none⟩ us j hu3 (by rw[hu2];exact h3);rw[zt] at this;exact⟨_,_,hv,this,qr3 hu1 hu4 l j (by rw[← hu1,hu2];exact h3)⟩
  ·cases h
 ·rename_i l cs hl;injection h with h;subst h;obtain⟨ad,us,hv,hu1,hu2,hu3⟩:=hx.ip_inv;have:=yu (P:=P) (w:=w) hl ad us 0 (fun j u hu=>(hu2 j u hu).2.1) (by rw[hu1];exact hs);exact⟨_,_,hv,this,qr3 hu1 (fun j u c hu hc=>.im (hu3 j u c hu hc)) l 0 hs⟩
 ·cases h
def resV (tmps:Array Value):ResultVar→Sem Value
 | .tmp t=>pure (tmps.getD t undef)
 | .cell a t=>do loadVar t (← asAddr (tmps.getD a undef))
theorem jt6 {s:St} {ι:Iota} {a:Act} {w:World} (hR:Rel e s ι a w) {x:ResultVar} {p:Prop} {t:T} (h:resT P s x=some (p,t)) (hp:p) :
 ∃ v,(resV a.tmps x).run P w = .ok v w∧Rp s.st ι w (Av e s.st ι w) v t:=by
 have hrd:∀ d,Rp s.st ι w (Av e s.st ι w) (a.tmps.getD d undef) ((get s.fr d).getD .junk):=by
  intro d;cases hg:get s.fr d with
  | none=>exact .im (.junk _)
  | some x=>exact hR.fr d x hg
 cases x with
 | tmp d=>
   simp only[resT,Option.some.injEq,Prod.mk.injEq] at h;obtain⟨rfl,rfl⟩:=h;exact⟨_,rfl,hrd d⟩
 | cell d ty=>
   simp only[resT] at h;split at h
   ·rename_i r hr;simp only[Option.some.injEq,Prod.mk.injEq] at h;obtain⟨rfl,rfl⟩:=h;obtain⟨ad,u,hv,h1,h2⟩:=zX1 hR (hrd d) hr hp;refine⟨u,?_,h2⟩;simp only[resV,hv];simpa [asAddr] using h1
   ·cases h
theorem qM8 {s:St} {ι:Iota} {a:Act} {w:World} (hR:Rel e s ι a w):∀ (l:List ResultVar) (p:Prop) (ts:List T),Ko P s l=some (p,ts)→p→
 ∃ vs:List Value,(l.mapM (resV a.tmps)).run P w = .ok vs w∧vs.length=ts.length∧∀ (j:Nat) (u:Value) (c:T),vs[j]?=some u→ts[j]?=some c→Rp s.st ι w (Av e s.st ι w) u c
 | [],p,ts,h,hp=>by
   simp only[Ko,Option.some.injEq,Prod.mk.injEq] at h;obtain⟨rfl,rfl⟩:=h;exact⟨[],sMp,rfl,sMp⟩
 | x::l,p,ts,h,hp=>by
   simp only[Ko] at h;split at h
   ·rename_i p1 t1 q l1 h1 h2;simp only[Option.some.injEq,Prod.mk.injEq] at h;obtain⟨rfl,rfl⟩:=h;obtain⟨v,g1,g2⟩:=jt6 hR h1 hp.1;obtain⟨vs,g3,g4,g5⟩:=qM8 hR l q l1 h2 hp.2;refine⟨v::vs,by simp [List.mapM_cons,g1,g3],by simp [g4],fun j u c hu hc=>?_⟩;cases j with
    | zero=>simp at hu hc;subst hu hc;exact g2
    | succ j=>exact g5 j u c (by simpa using hu) (by simpa using hc)
   ·cases h
theorem zv5 {fn:Func} {s:St} {ι:Iota} {a:Act} {w:World} (hR:Rel e s ι a w) {p:Prop} {ts:List T} (h:Ko P s fn.results.toList=some (p,ts)) (hp:p) :
 ∃ v,(results fn a.tmps).run P w = .ok v w∧Rp s.st ι w (Av e s.st ι w) v (tupT ts):=by
 obtain⟨vs,g1,g2,g3⟩:=qM8 hR _ p ts h hp;have hm:(fn.results.mapM (resV a.tmps)).run P w = .ok vs.toArray w:=by
  rw[Array.mapM_eq_mapM_toList,← bind_pure_comp];simp only[Sem.run_bind,g1,Result.andThen_ok,Sem.run_pure]
 have hrun:(results fn a.tmps).run P w = .ok (if h:vs.toArray.size=1 then vs.toArray[0] else .tuple vs.toArray) w:=by
  have:results fn a.tmps=(fn.results.mapM (resV a.tmps) >>= fun vs=>pure (if h:vs.size=1 then vs[0] else .tuple vs)):=by
   unfold results
   congr 1
  rw[this];simp only[Sem.run_bind,hm,Result.andThen_ok,Sem.run_pure]
 refine⟨_,hrun,?_⟩;clear hrun hm g1;cases vs with
 | nil=>
   cases ts with
   | nil=>exact .tup [] [] rfl sMp
   | cons t ts=>simp at g2
 | cons v vs=>
   cases ts with
   | nil=>simp at g2
   | cons t ts=>
     cases vs with
     | nil=>
       cases ts with
       | nil=>exact g3 0 v t rfl rfl
       | cons t' ts=>simp at g2
     | cons v' vs=>
       cases ts with
       | nil=>simp at g2
       | cons t' ts=>
         have hne:¬ (v::v'::vs).toArray.size=1:=by simp
         rw[dif_neg hne];exact .tup _ _ g2 g3
theorem zf2 {f:FuncId} {fn:Func} {c:Code} {ts:List T} {st st':Sto} {r:T} (hf:P.funcs[f]?=some fn) (hb:fn.body=some c) (hg:goFn P f=true) (hn:ts.length≤fn.ntmps)
 (h:∀ e:Env,e.n=fn.ntmps→e.st0=st→WP P e c ⟨ZY 0 ts,st⟩ (endQ P e fn.results.toList r st')) (hnm:noMp st=true:=by rfl):Spc P f ts st r st':=by
 refine⟨hg,hnm,fun S ι w vals hR=>?_⟩;have hvs:vals.size=ts.length:=hR.size;have hR1:Rel { ZZ S w ts.length st ι with n:=fn.ntmps } ⟨ZY 0 ts,st⟩ ι { tmps:=vals++Array.replicate (fn.ntmps-vals.size) undef,defers:=[] } w:=by
  refine⟨by simp;omega,rfl,fun t x hx=>?_,hR.ob,hR.inj,hR.own,hR.keep,hR.hs,hR.sS,hR.os,hR.tape,hR.output,hR.gs,hR.stab,hR.mp⟩;have h1:=hR.fr t x hx;have ht:t<vals.size:=by
   simp only[qa2,Nat.zero_le,if_true,Nat.sub_zero] at hx;have:=(List.getElem?_eq_some_iff.1 hx).1;omega
  have:(vals++Array.replicate (fn.ntmps-vals.size) undef).getD t undef=vals.getD t undef:=by
   simp [Dq,Array.getElem?_append,ht]
  rw[this];exact h1
 refine calls_of_wp hf hb ?_;refine Code.wp_mono ?_ (h _ rfl rfl ι _ w hR1);rintro x a w' ⟨ι',s,hR',hq⟩;have fin:∀ s,Rel { ZZ S w ts.length st ι with n:=fn.ntmps } s ι' a w'→(match Ko P s fn.results.toList with
  | some (p,l)=>p∧Le { { ZZ S w ts.length st ι with n:=fn.ntmps } with n:=1 } ⟨[(0,tupT l)],s.st⟩ ⟨[(0,r)],st'⟩
  | none=>False)→a.defers=[]∧∃ v,(results fn a.tmps).run P w' = .ok v w'∧∃ v' ι'',Ending.returned v = .returned v'∧Rel (ZZ S w 1 st ι) ⟨[(0,r)],st'⟩ ι'' ⟨#[v'],[]⟩ w':=by
  intro s hR' hq;refine⟨hR'.dfr,?_⟩;split at hq
  ·rename_i p l hres;obtain⟨hp,hl⟩:=hq;obtain⟨v,g1,g2⟩:=zv5 hR' hres hp;have hR2:Rel { { ZZ S w ts.length st ι with n:=fn.ntmps } with n:=1 } ⟨[(0,tupT l)],s.st⟩ ι' ⟨#[v],[]⟩ w':=by
    refine⟨rfl,rfl,fun t x hx=>?_,hR'.ob,hR'.inj,hR'.own,hR'.keep,hR'.hs,hR'.sS,hR'.os,hR'.tape,hR'.output,hR'.gs,hR'.stab,hR'.mp⟩;simp only[get] at hx;split at hx
    ·rename_i ht;subst ht;injection hx with hx;subst hx;exact g2
    ·cases hx
   obtain⟨ι'',hR3⟩:=hl _ _ _ hR2;exact⟨v,g1,v,ι'',rfl,hR3⟩
  ·exact hq.elim
 cases x with
 | normal=>exact fin s hR' hq
 | ret=>exact fin s hR' hq
 | exit id=>exact hq.elim
 | _=>exact hq.elim
end
end Go.TL
namespace Go.TL
inductive RV where
 | t (n:Nat)
 | k (x:T)
def rv (fr:List (Nat×T)):RV→T
 | .t n=>(get fr n).getD .junk
 | .k x=>x
def cT:Value→T
 | .agg cs=>.agg (cs.toList.map .v)
 | v=>.v v
def toRV:Operand→RV
 | .tmp t=>.t t
 | .const v=>.k (cT v)
 | .global _=>.k .junk
 | .func f=>.k (.clo f [])
theorem qY (s:St) (x:Operand):rv s.fr (toRV x)=Operand.t s x:=by
 cases x with
 | const v=>cases v <;> rfl
 | _=>rfl
inductive RO where
 | mv (x:RV)
 | pick (c a b:RV)
 | new (z:T)
 | box (x:RV)
 | build (z:List T) (pl:List ((Nat×Nat)×RV))
 | bsl (k len:Nat) (xs:List RV)
 | ld (l:Option Nat) (x:RV)
 | st (n:Nat) (x y:RV)
 | nc (x:RV)
 | bin (op:BinOp) (ib:Bool) (x y:RV)
 | un (op:UnOp) (x:RV)
 | cvI (k:IntKind) (x:RV)
 | cvSS (x:RV)
 | cvSB (x:RV)
 | cvBS (x:RV)
 | mf (f:FuncId) (caps:List RV)
 | mk (k b:Nat) (z:T) (l c:RV)
 | slS (x:RV) (lo hi:Option RV)
 | slL (k:Nat) (x:RV) (lo hi:Option RV)
 | fa (off:Nat) (x:RV)
 | fld (off:Nat) (l:Option Nat) (x:RV)
 | ixL (k:Nat) (x i:RV)
 | ixA (n k:Nat) (x i:RV)
 | sx (x i:RV)
 | ex (x:RV) (i:Nat)
 | lenS (x:RV)
 | lenL (x:RV)
 | lenA (n:Nat) (x:RV)
 | app (k b:Nat) (str:Bool) (x y:RV)
 | mn (xs:List RV)
 | mx (xs:List RV)
 | call (f:RV) (xs:List RV)
 | ext (x:XO) (xs:List RV)
def RO.rvs:RO→List RV
 | .mv x | .box x | .ld _ x | .nc x | .un _ x | .cvI _ x | .cvSS x | .cvSB x | .cvBS x | .fa _ x | .fld _ _ x | .ex x _ | .lenS x | .lenL x | .lenA _ x=>[x]
 | .pick c a b=>[c,a,b]
 | .new _=>[]
 | .build _ pl=>pl.map (·.2)
 | .bsl _ _ xs=>xs
 | .st _ x y | .bin _ _ x y | .ixL _ x y | .ixA _ _ x y | .sx x y | .app _ _ _ x y | .mk _ _ _ x y=>[x,y]
 | .mf _ caps=>caps
 | .slS x lo hi | .slL _ x lo hi=>x::(lo.toList++hi.toList)
 | .mn xs | .mx xs | .ext _ xs=>xs
 | .call f xs=>f::xs
def ldR (l:Option Nat) (st:Sto) (x:T):Option Res:=
 match x with
 | .ptr id m i j=>match get st id with
   | some (.arr k xs _)=>some ⟨xs.length=m∧i<xs.length∧need l j≤k,WR l j (xs.getD i .junk).cells,[]⟩
   | _=>none
 | .ip cs=>some ⟨need l 0≤cs.length,WR l 0 cs,[]⟩
 | _=>none
def stR (n:Nat) (st:Sto) (x v:T):Option Res:=
 match x with
 | .ptr id m i j=>match get st id with
   | some (.arr k xs false)=>some ⟨xs.length=m∧i<xs.length∧v.cells.length=n∧j+n≤k∧WG (xs.getD i .junk) v∧jA st v.cells,.v undef,[(id,.arr k (xs.set i (repl (xs.getD i .junk) j v)) false)]⟩
   | _=>none
 | _=>none
def qT2 (cells:List T):List ((Nat×Nat)×T)→Option (List T)
 | []=>some cells
 | ((off,n),x)::r=>if x.cells.length=n∧off+n≤cells.length then qT2 (cells.take off++x.cells++cells.drop (off+n)) r else none
def qs4 (st:Sto):List T→Prop
 | []=>True
 | x::r=>jA st x.cells∧qs4 st r
def binR (op:BinOp) (ib:Bool) (x y:T):Option Res:=
 match x,y with
 | .v (.int k a),.v (.int k' b)=>if qr6 op||k==k' then intT op k a b else none
 | .v (.string a),.v (.string b)=>strT op a b
 | .v (.bool a),.v (.bool b)=>if ib then (match op with | .eql=>retB (a==b) | .neq=>retB (a != b) | _=>none) else none
 | _,_=>none
def cvIR (k:IntKind) (x:T):Option Res:=match x with | .v (.int _ n)=>retI k (k.wrap n) | _=>none
def jt7 (x:T):Option Res:=match x with | .v (.string s)=>ret (.v (.string s)) | _=>none
def zX2 (x:T):Option Res:=match x with | .v (.string s)=>ret (.sl 1 (s.data.toList.map wi)) | _=>none
def zQ3 (st:Sto) (x:T):Option Res:=
 match conT st x with
 | some (_,xs)=>some ⟨conS st x∧∀ y∈xs,yp y=true,.v (.string ⟨(xs.map WH).toArray⟩),[]⟩
 | none=>none
def mkR (k b:Nat) (z:T) (st:Sto) (nid:Nat) (l c:T):Option Res:=
 match l,c with
 | .v (.int _ n),.v (.int _ m)=>
    some ⟨get st nid=none∧0≤n∧n≤m∧b*m.toNat≤140737488355328∧m≤9223372036854775807∧z.cells.length=k∧jA [] z.cells,.asl nid n.toNat,[(nid,.arr k (List.replicate n.toNat z) false)]⟩
 | _,_=>none
def slSR (x:T) (lo hi:Option T):Option Res:=
 match bndT lo,bndT hi,x with
 | some l,some h,.v (.string s)=>some ⟨0≤lowT l∧lowT l≤zi s.size h∧zi s.size h≤s.size,.v (.string (s.extract (lowT l).toNat (zi s.size h).toNat)),[]⟩
 | _,_,_=>none
def slLR (k':Nat) (st:Sto) (x:T) (lo hi:Option T):Option Res:=
 match bndT lo,bndT hi,x with
 | some l,some h,.sl k xs=>if k=k' then some ⟨0≤lowT l∧lowT l≤zi xs.length h∧zi xs.length h≤xs.length,.sl k (cutT (lowT l) (zi xs.length h) xs),[]⟩ else none
 | some l,some h,.asl id m=>match get st id with
   | some (.arr k xs fz)=>if k=k' then some ⟨xs.length=m∧qS5 xs∧0≤lowT l∧lowT l≤zi xs.length h∧zi xs.length h≤xs.length,.sl k (cutT (lowT l) (zi xs.length h) xs),[(id,.arr k xs true)]⟩ else none
   | _=>none
 | some l,some h,.v (.slice none 0 0)=>some ⟨lowT l=0∧zi 0 h=0,.v (.slice none 0 0),[]⟩
 | some l,some h,.vw id m lo len=>match get st id with
   | some (.arr k xs _)=>if k=k' then some ⟨xs.length=m∧0≤lowT l∧lowT l≤zi len h∧lo+zi len h≤m,.vw id m (lo+(lowT l).toNat) ((zi len h).toNat-(lowT l).toNat),[]⟩ else none
   | _=>none
 | _,_,_=>none
def faR (off:Nat) (st:Sto) (x:T):Option Res:=
 match x with
 | .ptr id m i j=>some ⟨zr st id m,.ptr id m i (j+off),[]⟩
 | .ip cs=>some ⟨off≤cs.length,.ip (cs.drop off),[]⟩
 | _=>none
def fldR (off:Nat) (l:Option Nat) (x:T):Option Res:=
 match x with
 | .agg cs=>some ⟨need l off≤cs.length,WR l off cs,[]⟩
 | _=>none
def ixLR (k:Nat) (st:Sto) (x i:T):Option Res:=
 match i,x with
 | .v (.int _ n),.sl k' xs=>if k'=k then some ⟨0≤n∧n<xs.length,.ip (xs.getD n.toNat .junk).cells,[]⟩ else none
 | .v (.int _ n),.asl id m=>match get st id with
   | some (.arr k' xs _)=>if k'=k then some ⟨xs.length=m∧0≤n∧n<m,.ptr id m n.toNat 0,[]⟩ else none
   | _=>none
 | .v (.int _ n),.vw id m lo len=>match get st id with
   | some (.arr k' xs _)=>if k'=k then some ⟨xs.length=m∧0≤n∧n<len,.ptr id m (lo+n.toNat) 0,[]⟩ else none
   | _=>none
 | _,_=>none
def ixAR (len k:Nat) (st:Sto) (x i:T):Option Res:=
 match i,x with
 | .v (.int _ n),.ptr id m i j=>some ⟨0≤n∧n<len∧zr st id m,.ptr id m i (j+n.toNat*k),[]⟩
 | .v (.int _ n),.ip cs=>some ⟨0≤n∧n<len,.ip (cs.drop (n.toNat*k)),[]⟩
 | _,_=>none
def sxR (x i:T):Option Res:=
 match x,i with
 | .v (.string s),.v (.int _ n)=>some ⟨0≤n∧n<s.size,.v (.int .u8 (s.data.toList.getD n.toNat 0).toNat),[]⟩
 | _,_=>none
def zX3 (x:T):Option Res:=match x with | .v (.string s)=>retI .i64 s.size | _=>none
def zf3 (st:Sto) (x:T):Option Res:=
 match x with
 | .asl id m=>some ⟨zr st id m,.v (.int .i64 m),[]⟩
 | .sl _ xs=>retI .i64 xs.length
 | .v (.slice none 0 0)=>retI .i64 0
 | .vw id m lo len=>some ⟨zr st id m,.v (.int .i64 len),[]⟩
 | _=>none
def qT3 (str:Bool) (st:Sto) (y:T):Option (Option Nat×List T):=
 if str then (match y with | .v (.string s)=>some (some 1,s.data.toList.map wi) | _=>none) else conT st y
def appR (k by_:Nat) (str:Bool) (st:Sto) (nid:Nat) (x y:T):Option Res:=
 match qT3 str st y with
 | some (k',ys)=>
   if (k'=none∨k'=some k) then
    match x with
    | .asl id m=>match get st id with
      | some (.arr k0 xs fz)=>if k0=k then
         some ⟨xs.length=m∧conS st y∧0<by_∧(m+ys.length)*by_≤140737488355328,.asl id (m+ys.length),[(id,.arr k (xs++ys) fz)]⟩ else none
      | _=>none
    | .v (.slice none 0 0)=>some ⟨get st nid=none∧conS st y∧0<by_∧ys.length*by_≤140737488355328,.asl nid ys.length,[(nid,.arr k ys false)]⟩
    | .vw id m lo len=>zu4 st nid k by_ id m lo len ys (conS st y)
    | _=>none
   else none
 | none=>none
def rT (ro:RO) (ρ:RV→T) (st:Sto) (nid:Nat):Option Res:=
 match ro with
 | .mv x=>ret (ρ x)
 | .pick c a b=>zU2 (ρ c) (ρ a) (ρ b)
 | .new z=>some ⟨get st nid=none∧jA st z.cells,.ptr nid 1 0 0,[(nid,.arr z.cells.length [z] false)]⟩
 | .box x=>some ⟨get st nid=none∧jA st (ρ x).cells,.ptr nid 1 0 0,[(nid,.arr (ρ x).cells.length [ρ x] false)]⟩
 | .build z pl=>match qT2 z (pl.map fun p=>(p.1,ρ p.2)) with
   | some cs=>some ⟨qs4 st (pl.map fun p=>ρ p.2),.agg cs,[]⟩
   | none=>none
 | .bsl k len xs=>some ⟨get st nid=none∧qs4 st (xs.map ρ)∧JQ k (xs.map ρ),.asl nid len,[(nid,.arr k (xs.map ρ) false)]⟩
 | .ld l x=>ldR l st (ρ x)
 | .st n x y=>stR n st (ρ x) (ρ y)
 | .nc x=>kG st (ρ x)
 | .bin op ib x y=>binR op ib (ρ x) (ρ y)
 | .un op x=>unT op (ρ x)
 | .cvI k x=>cvIR k (ρ x)
 | .cvSS x=>jt7 (ρ x)
 | .cvSB x=>zX2 (ρ x)
 | .cvBS x=>zQ3 st (ρ x)
 | .mf f caps=>ret (.clo f (caps.map ρ))
 | .mk k b z l c=>mkR k b z st nid (ρ l) (ρ c)
 | .slS x lo hi=>slSR (ρ x) (lo.map ρ) (hi.map ρ)
 | .slL k x lo hi=>slLR k st (ρ x) (lo.map ρ) (hi.map ρ)
 | .fa off x=>faR off st (ρ x)
 | .fld off l x=>fldR off l (ρ x)
 | .ixL k x i=>ixLR k st (ρ x) (ρ i)
 | .ixA n k x i=>ixAR n k st (ρ x) (ρ i)
 | .sx x i=>sxR (ρ x) (ρ i)
 | .ex x i=>yv (ρ x) i
 | .lenS x=>zX3 (ρ x)
 | .lenL x=>zf3 st (ρ x)
 | .lenA n x=>retI .i64 n
 | .app k b str x y=>appR k b str st nid (ρ x) (ρ y)
 | .mn xs=>qn2 minI (xs.map ρ)
 | .mx xs=>qn2 maxI (xs.map ρ)
 | .call _ _=>none
 | .ext x xs=>extR x st nid (xs.map ρ)
def qs5 (P:Program) (t:TypeId):List (Nat×Operand)→Option (List ((Nat×Nat)×RV))
 | []=>some []
 | (i,x)::r=>match plT P t i,qs5 P t r with
   | some p,some l=>some ((p,toRV x)::l)
   | _,_=>none
def rsvB (P:Program) (b:Builtin) (args:List Operand) (tys:List TypeId):Option RO:=
 match b,args,tys with
 | .len,[x],[ty]=>match P.underlying ty with
   | some .string=>some (.lenS (toRV x))
   | some (.slice _)=>some (.lenL (toRV x))
   | some (.array n _)=>some (.lenA n (toRV x))
   | _=>none
 | .append,[x,y],[t0,t1]=>match ixT P t0,byT P t0,zrOk P t0,P.underlying t1 with
   | some (none,k),some b,true,some .string=>some (.app k b true (toRV x) (toRV y))
   | some (none,k),some b,true,some (.slice _)=>some (.app k b false (toRV x) (toRV y))
   | _,_,_,_=>none
 | .min,args,_=>some (.mn (args.map toRV))
 | .max,args,_=>some (.mx (args.map toRV))
 | _,_,_=>none
def qn4 (P:Program) (o:Op):Option RO:=
 match o with
 | .move x=>some (.mv (toRV x))
 | .assign x=>some (.mv (toRV x))
 | .pick c a b=>some (.pick (toRV c) (toRV a) (toRV b))
 | .alloc t=>(zrT P t).map fun z=>.new z
 | .box _ x=>some (.box (toRV x))
 | .build t parts=>match zrT P t,fsOk P t,qs5 P t parts.toList with
   | some z,true,some pl=>some (.build z.cells pl)
   | _,_,_=>none
 | .buildSlice t len parts=>match ixT P t,zrOk P t,qr9 0 parts.toList with
   | some (none,k),true,true=>if parts.size=len∧len*k≤16777216∧len≤16777216 then some (.bsl k len (parts.toList.map fun p=>toRV p.2)) else none
   | _,_,_=>none
 | .load t x=>(ldT P t).map fun l=>.ld l (toRV x)
 | .store t x y=>(szT P t).map fun n=>.st n (toRV x) (toRV y)
 | .nilCheck x=>some (.nc (toRV x))
 | .binOp op ty x y _=>some (.bin op (qS1 P ty) (toRV x) (toRV y))
 | .unOp op _ x=>some (.un op (toRV x))
 | .convert src dst x=>match P.underlying src,P.underlying dst with
   | some _,some (.int k)=>some (.cvI k (toRV x))
   | some (.slice el),some .string=>if isU8 P el then some (.cvBS (toRV x)) else none
   | some _,some .string=>some (.cvSS (toRV x))
   | some _,some (.slice el)=>if isU8 P el then some (.cvSB (toRV x)) else none
   | _,_=>none
 | .makeFunc (.func f) first caps=>if first.size=0 then some (.mf f (caps.toList.map toRV)) else none
 | .makeSlice ty x y=>match P.underlying ty with
   | some (.slice el)=>match zrT P el,szT P el,byT P ty with
     | some z,some k,some b=>some (.mk k b z (toRV x) (toRV y))
     | _,_,_=>none
   | _=>none
 | .slice ty x lo hi none=>match P.underlying ty,ixT P ty with
   | some .string,_=>some (.slS (toRV x) (lo.map toRV) (hi.map toRV))
   | _,some (none,k)=>some (.slL k (toRV x) (lo.map toRV) (hi.map toRV))
   | _,_=>none
 | .fieldAddr ty x f=>match fdT P ty f with
   | some (off,n,_)=>if n=0 then none else some (.fa off (toRV x))
   | none=>none
 | .field ty x f=>match fdT P ty f with
   | some (off,_,l)=>some (.fld off l (toRV x))
   | none=>none
 | .indexAddr ty x i=>match ixT P ty with
   | some (none,k)=>some (.ixL k (toRV x) (toRV i))
   | some (some n,k)=>some (.ixA n k (toRV x) (toRV i))
   | none=>none
 | .index ty x i=>match P.underlying ty with
   | some .string=>some (.sx (toRV x) (toRV i))
   | _=>none
 | .extract x i=>some (.ex (toRV x) i)
 | .call { callee:=.builtin b,args,argTypes }=>rsvB P b args.toList argTypes.toList
 | .call { callee:=.value f,args,argTypes }=>some (.call (toRV f) (args.toList.map toRV))
 | _=>none
def rsvO (P:Program) (o:Op):Option RO:=
 match rsvX P o with
 | some x=>some (.ext x (o.operands.toList.map toRV))
 | none=>qn4 P o
def zK:RO→Bool
 | .call ..=>true
 | _=>false
section
variable {P:Program}
theorem zf4 (s:St) (l:List Operand):(l.map toRV).map (rv s.fr)=l.map (Operand.t s):=by
 rw[Gz];exact Ew fun x _=>qY s x
theorem Kp {t:TypeId}:∀ {parts:List (Nat×Operand)} {pl:List ((Nat×Nat)×RV)},qs5 P t parts=some pl→pl.map (·.2)=parts.map (fun p=>toRV p.2)∧
 ∀ (s:St) (cells:List T),qC8 (plT P t) cells (parts.map fun p=>(p.1,Operand.t s p.2))=qT2 cells (pl.map fun p=>(p.1,rv s.fr p.2))
 | [],pl,h=>by
   simp only[qs5,Option.some.injEq] at h;subst h;exact⟨rfl,fun s cells=>rfl⟩
 | (i,x)::r,pl,h=>by
   simp only[qs5] at h;split at h
   ·rename_i p l h1 h2;injection h with h;subst h;obtain⟨g1,g2⟩:=Kp h2;refine⟨by simp [g1],fun s cells=>?_⟩;obtain⟨off,n⟩:=p;simp only[List.map_cons,qC8,h1,qT2,qY];split
    ·exact g2 s _
    ·rfl
   ·cases h
theorem zC4 (st:Sto) (l:List (Nat×T)):kI st l=qs4 st (l.map (·.2)):=by
 induction l with
 | nil=>rfl
 | cons p r ih=>simp only[kI,List.map_cons,qs4,ih]
theorem jJ8 (op:BinOp) (ty:TypeId) (x y:T):binT P op ty x y=binR op (qS1 P ty) x y:=rfl
theorem jJ9 {st:Sto} {src dst:TypeId} {x:T} {d:TypeDesc} {k:IntKind} (h1:P.underlying src=some d) (h2:P.underlying dst=some (.int k)):qn3 P st src dst x=cvIR k x:=by
 unfold qn3;rw[h1,h2];rfl
theorem jt8 {st:Sto} {src dst:TypeId} {x:T} {el:TypeId} (h1:P.underlying src=some (.slice el)) (h2:P.underlying dst=some .string) (hu:isU8 P el=true):qn3 P st src dst x=zQ3 st x:=by
 unfold qn3 zQ3;rw[h1,h2];cases conT st x with
 | none=>rfl
 | some p=>simp only[hu,if_true]
theorem jt9 {st:Sto} {src dst:TypeId} {x:T} {d:TypeDesc} (h1:P.underlying src=some d) (hd:∀ el,d≠.slice el) (h2:P.underlying dst=some .string):qn3 P st src dst x=jt7 x:=by
 unfold qn3;rw[h1,h2];cases d <;> first | rfl | exact absurd rfl (hd _)
theorem ju0 {st:Sto} {src dst:TypeId} {x:T} {d:TypeDesc} {el:TypeId} (h1:P.underlying src=some d) (h2:P.underlying dst=some (.slice el)) (hu:isU8 P el=true):qn3 P st src dst x=zX2 x:=by
 unfold qn3 zX2;rw[h1,h2];cases x <;> first | rfl | (rename_i v;cases v <;> first | rfl | simp only[hu,if_true])
theorem ju1 {st:Sto} {ty:TypeId} {x:T} {lo hi:Option T} (hu:P.underlying ty=some .string) {r:Res} (h:slSR x lo hi=some r):Kj P st ty x lo hi=some r:=by
 unfold slSR at h;split at h
 ·rename_i l hh str h1 h2;unfold Kj;rw[h1,h2];simp only[hu];exact h
 ·cases h
theorem ju2 {st:Sto} {ty:TypeId} {k:Nat} {x:T} {lo hi:Option T} (hix:ixT P ty=some (none,k)) {r:Res} (h:slLR k st x lo hi=some r):Kj P st ty x lo hi=some r:=by
 unfold slLR at h;split at h
 ·rename_i l hh k' xs h1 h2;unfold Kj;rw[h1,h2];simp only[hix];exact h
 ·rename_i l hh id m h1 h2;unfold Kj;rw[h1,h2];simp only[hix];split at h
  ·rename_i hg;simp only[hg];exact h
  ·cases h
 ·rename_i l hh h1 h2;unfold Kj;rw[h1,h2];simp only[hix];exact h
 ·rename_i l hh id m lo len h1 h2;unfold Kj;rw[h1,h2];simp only[hix];split at h
  ·rename_i hg;simp only[hg];exact h
  ·cases h
 ·cases h
theorem zf5 {st:Sto} {ty:TypeId} {x:T} {f off n:Nat} {l:Option Nat} (hf:fdT P ty f=some (off,n,l)) (hn:n≠0) {r:Res} (h:faR off st x=some r):∃ r',yG P st ty x f=some r'∧r'.val=r.val∧r'.wr=r.wr∧(r.side→r'.side):=by
 unfold faR at h;unfold yG;rw[hf];split at h
 ·injection h with h;subst h;exact⟨_,rfl,rfl,rfl,fun h=>⟨hn,h⟩⟩
 ·injection h with h;subst h;exact⟨_,rfl,rfl,rfl,fun h=>⟨hn,h⟩⟩
 ·cases h
theorem ju3 {ty:TypeId} {x:T} {f off n:Nat} {l:Option Nat} (hf:fdT P ty f=some (off,n,l)) {r:Res} (h:fldR off l x=some r):ze1 P ty x f=some r:=by
 unfold fldR at h;unfold ze1;rw[hf];split at h
 ·exact h
 ·cases h
theorem jY2 {st:Sto} {ty:TypeId} {k:Nat} {x i:T} (hix:ixT P ty=some (none,k)) {r:Res} (h:ixLR k st x i=some r):kB P st ty x i=some r:=by
 unfold ixLR at h;unfold kB;rw[hix];split at h
 ·exact h
 ·exact h
 ·exact h
 ·cases h
theorem jY3 {st:Sto} {ty:TypeId} {n k:Nat} {x i:T} (hix:ixT P ty=some (some n,k)) {r:Res} (h:ixAR n k st x i=some r):kB P st ty x i=some r:=by
 unfold ixAR at h;unfold kB;rw[hix];split at h
 ·exact h
 ·exact h
 ·cases h
theorem ju4 {ty:TypeId} {x i:T} (hu:P.underlying ty=some .string) {r:Res} (h:sxR x i=some r):ze3 P ty x i=some r:=by
 unfold sxR at h;unfold ze3;rw[hu];split at h
 ·exact h
 ·cases h
theorem jQ2 {st:Sto} {ty:TypeId} {x:T} (hu:P.underlying ty=some .string) {r:Res} (h:zX3 x=some r):lenT P st ty x=some r:=by
 unfold zX3 at h;unfold lenT;rw[hu];split at h
 ·exact h
 ·cases h
theorem jQ3 {st:Sto} {ty el:TypeId} {x:T} (hu:P.underlying ty=some (.slice el)) {r:Res} (h:zf3 st x=some r):lenT P st ty x=some r:=by
 unfold zf3 at h;unfold lenT;rw[hu];split at h
 ·exact h
 ·exact h
 ·exact h
 ·exact h
 ·cases h
theorem jQ4 {st:Sto} {ty el:TypeId} {n:Nat} {x:T} (hu:P.underlying ty=some (.array n el)):lenT P st ty x=retI .i64 n:=by
 unfold lenT;rw[hu]
theorem zf6 {s:St} {nid:Nat} {t0 t1:TypeId} {k b:Nat} {str:Bool} {x y:T} (h0:ixT P t0=some (none,k)) (h1:byT P t0=some b) (h2:zrOk P t0=true)
 (h3:appY P s.st t1 y=qT3 str s.st y) {r:Res} (h:appR k b str s.st nid x y=some r):qg6 P s nid t0 t1 x y=some r:=by
 unfold appR at h;unfold qg6;rw[h0,h1,h2,h3];split at h
 ·rename_i k' ys hy;rw[hy];exact h
 ·cases h
theorem jK0 {s:St} {nid:Nat} {ty el:TypeId} {k b:Nat} {z l c:T} (hu:P.underlying ty=some (.slice el)) (h1:zrT P el=some z) (h2:szT P el=some k) (h3:byT P ty=some b) {r:Res} (h:mkR k b z s.st nid l c=some r):zP3 P s nid ty l c=some r:=by
 unfold mkR at h;unfold zP3;rw[hu];simp only[h1,h2,h3];split at h
 ·exact h
 ·cases h
theorem ju5 {o:Oper} {ro:RO} {s:St} {nid:Nat} (h:qn4 P o.op=some ro) (hc:zK ro=false) {r:Res} (hr:rT ro (rv s.fr) s.st nid=some r):∃ r',opT0 P s nid o=some r'∧r'.val=r.val∧r'.wr=r.wr∧(r.side→r'.side):=by
 have same:∀ {x:Option Res},x=some r→(∃ r',x=some r'∧r'.val=r.val∧r'.wr=r.wr∧(r.side→r'.side)):=fun hx=>⟨r,hx,rfl,rfl,fun h=>h⟩;unfold qn4 at h;split at h <;> rename_i ho
 ·injection h with h;subst h;simp only[opT0,ho];exact same (by simpa [rT,qY] using hr)
 ·injection h with h;subst h;simp only[opT0,ho];exact same (by simpa [rT,qY] using hr)
 ·injection h with h;subst h;simp only[opT0,ho];exact same (by simpa [rT,qY] using hr)
 ·simp only[opT0,ho,zd7];rename_i t;cases hz:zrT P t with
  | none=>simp [hz] at h
  | some z=>simp [hz] at h;subst h;exact same (by simpa [rT,boxT] using hr)
 ·injection h with h;subst h;simp only[opT0,ho,boxT];exact same (by simpa [rT,qY] using hr)
 ·split at h
  ·rename_i z pl h1 h2 h3;injection h with h;subst h;obtain⟨g1,g2⟩:=Kp h3;simp only[opT0,ho,ze6,h1,h2,zB];rw[g2];simp only[rT] at hr;split at hr
   ·rename_i cs hcs;rw[hcs];refine same ?_;rw[← hr,zC4]
    congr 3
    simp only[Gz,Function.comp_def];have:List.map (fun x:(Nat×Nat)×RV=>rv s.fr x.2) pl=(pl.map (fun x:(Nat×Nat)×RV=>x.2)).map (rv s.fr):=by simp
    rw[this,g1,Gz];have e2:List.map (rv s.fr ∘ fun p:Nat×Operand=>toRV p.2)=List.map (fun p:Nat×Operand=>Operand.t s p.2):=by
     funext l;exact Ew fun (p:Nat×Operand) _=>qY s p.2
    rw[e2]
   ·cases hr
  ·cases h
 ·rename_i t len parts;split at h
  ·rename_i k h1 h2 h3;split at h
   ·rename_i hl;injection h with h;subst h;simp only[opT0,ho,yM,h1,h2,h3,Aj hl];simp only[rT] at hr;refine same ?_;rw[← hr];have e1:(zB s parts).map (fun p:Nat×T=>p.2)=(List.map (fun p:Nat×Operand=>toRV p.2) parts.toList).map (rv s.fr):=by
     simp only[zB,Gz,Function.comp_def];exact Ew fun p _=>(qY s p.2).symm
    rw[zC4,e1]
   ·cases h
  ·cases h
 ·simp only[opT0,ho,qr5];rename_i t x;cases hz:ldT P t with
  | none=>simp [hz] at h
  | some l=>
    simp [hz] at h;subst h;refine same ?_;simp only[rT,qY] at hr;rw[← hr];unfold ldR;cases Operand.t s x <;> rfl
 ·simp only[opT0,ho,zd8];rename_i t x y;cases hz:szT P t with
  | none=>simp [hz] at h
  | some l=>
    simp [hz] at h;subst h;refine same ?_;simp only[rT,qY] at hr;rw[← hr];unfold stR;cases Operand.t s x <;> rfl
 ·injection h with h;subst h;simp only[opT0,ho];exact same (by simpa [rT,qY] using hr)
 ·injection h with h;subst h;simp only[opT0,ho,jJ8];simp only[rT,qY] at hr;exact same hr
 ·injection h with h;subst h;simp only[opT0,ho];exact same (by simpa [rT,qY] using hr)
 ·rename_i src dst x;simp only[opT0,ho];split at h
  ·rename_i d k h1 h2;injection h with h;subst h;simp only[rT,qY] at hr;exact same (by rw[jJ9 h1 h2];exact hr)
  ·rename_i el h1 h2;split at h
   ·rename_i hu;injection h with h;subst h;simp only[rT,qY] at hr;exact same (by rw[jt8 h1 h2 hu];exact hr)
   ·cases h
  ·rename_i d hne h1 h2;injection h with h;subst h;simp only[rT,qY] at hr;exact same (by rw[jt9 h1 (fun el he=>hne el (by rw[he])) h2];exact hr)
  ·rename_i d el h1 h2;split at h
   ·rename_i hu;injection h with h;subst h;simp only[rT,qY] at hr;exact same (by rw[ju0 h1 h2 hu];exact hr)
   ·cases h
  ·cases h
 ·split at h
  ·rename_i f first caps hf
   injection h with h;subst h;simp only[opT0,ho,YX,hf,if_true];simp only[rT,zf4] at hr;exact same hr
  ·cases h
 ·rename_i ty x y;split at h
  ·rename_i el hu;split at h
   ·rename_i z k b h1 h2 h3;injection h with h;subst h;simp only[opT0,ho];simp only[rT,qY] at hr;exact same (jK0 hu h1 h2 h3 hr)
   ·cases h
  ·cases h
 ·rename_i ty x lo hi;have hlo:lo.map (Operand.t s)=(lo.map toRV).map (rv s.fr):=by cases lo <;> simp [qY]
  have hhi:hi.map (Operand.t s)=(hi.map toRV).map (rv s.fr):=by cases hi <;> simp [qY]
  simp only[opT0,ho];rw[hlo,hhi];split at h
  ·rename_i hu;injection h with h;subst h;simp only[rT,qY] at hr;exact same (ju1 hu hr)
  ·rename_i k hix hne;injection h with h;subst h;simp only[rT,qY] at hr;exact same (ju2 hix hr)
  ·cases h
 ·rename_i ty x f;simp only[opT0,ho];split at h
  ·rename_i off n l hf;split at h
   ·cases h
   ·rename_i hn;injection h with h;subst h;simp only[rT,qY] at hr;exact zf5 hf hn hr
  ·cases h
 ·rename_i ty x f;simp only[opT0,ho];split at h
  ·rename_i off n l hf;injection h with h;subst h;simp only[rT,qY] at hr;exact same (ju3 hf hr)
  ·cases h
 ·rename_i ty x i;simp only[opT0,ho];split at h
  ·rename_i k hix;injection h with h;subst h;simp only[rT,qY] at hr;exact same (jY2 hix hr)
  ·rename_i n k hix;injection h with h;subst h;simp only[rT,qY] at hr;exact same (jY3 hix hr)
  ·cases h
 ·rename_i ty x i;simp only[opT0,ho];split at h
  ·rename_i hu;injection h with h;subst h;simp only[rT,qY] at hr;exact same (ju4 hu hr)
  ·cases h
 ·injection h with h;subst h;simp only[opT0,ho];exact same (by simpa [rT,qY] using hr)
 ·rename_i b args tys;simp only[opT0,ho];unfold rsvB at h;unfold qq2;split at h
  ·rename_i x ty h1 h2;rw[h1,h2];simp only[List.map_cons,List.map_nil];split at h
   ·rename_i hu;injection h with h;subst h;simp only[rT,qY] at hr;exact same (jQ2 hu hr)
   ·rename_i el hu;injection h with h;subst h;simp only[rT,qY] at hr;exact same (jQ3 hu hr)
   ·rename_i n el hu;injection h with h;subst h;simp only[rT] at hr;exact same (by rw[jQ4 hu];exact hr)
   ·cases h
  ·rename_i x y t0 t1 h1 h2;rw[h1,h2];simp only[List.map_cons,List.map_nil];split at h
   ·rename_i k b q1 q2 q3 q4;injection h with h;subst h;simp only[rT,qY] at hr;exact same (zf6 (str:=true) q1 q2 q3 (by unfold appY qT3;rw[q4];rfl) hr)
   ·rename_i k b el q1 q2 q3 q4;injection h with h;subst h;simp only[rT,qY] at hr;exact same (zf6 (str:=false) q1 q2 q3 (by unfold appY qT3;rw[q4];rfl) hr)
   ·cases h
  ·injection h with h;subst h;simp only[rT,zf4] at hr;exact same hr
  ·injection h with h;subst h;simp only[rT,zf4] at hr;exact same hr
  ·cases h
 ·injection h with h;subst h;simp [zK] at hc
 ·cases h
theorem ju6 {o:Op} {ro:RO} (h:qn4 P o=some ro):ro.rvs=o.operands.toList.map toRV:=by
 unfold qn4 at h;split at h
 ·injection h with h;subst h;rfl
 ·injection h with h;subst h;rfl
 ·injection h with h;subst h;rfl
 ·rename_i t;cases hz:zrT P t with
  | none=>simp [hz] at h
  | some z=>simp [hz] at h;subst h;rfl
 ·injection h with h;subst h;rfl
 ·split at h
  ·rename_i h3;injection h with h;subst h;simp [RO.rvs,(Kp h3).1,Op.operands,Gz,Function.comp_def]
  ·cases h
 ·split at h
  ·split at h
   ·injection h with h;subst h;simp [RO.rvs,Op.operands,Gz,Function.comp_def]
   ·cases h
  ·cases h
 ·rename_i t x;cases hz:ldT P t with
  | none=>simp [hz] at h
  | some z=>simp [hz] at h;subst h;rfl
 ·rename_i t x y;cases hz:szT P t with
  | none=>simp [hz] at h
  | some z=>simp [hz] at h;subst h;rfl
 ·injection h with h;subst h;rfl
 ·injection h with h;subst h;rfl
 ·injection h with h;subst h;rfl
 ·split at h
  ·injection h with h;subst h;rfl
  ·split at h
   ·injection h with h;subst h;rfl
   ·cases h
  ·injection h with h;subst h;rfl
  ·split at h
   ·injection h with h;subst h;rfl
   ·cases h
  ·cases h
 ·split at h
  ·rename_i f first caps hf
   injection h with h;subst h;have:first=#[]:=Array.eq_empty_of_size_eq_zero hf
   simp [RO.rvs,Op.operands,this]
  ·cases h
 ·split at h
  ·split at h
   ·injection h with h;subst h;rfl
   ·cases h
  ·cases h
 ·rename_i ty x lo hi;split at h
  ·injection h with h;subst h;cases lo <;> cases hi <;> simp [RO.rvs,Op.operands]
  ·injection h with h;subst h;cases lo <;> cases hi <;> simp [RO.rvs,Op.operands]
  ·cases h
 ·split at h
  ·split at h
   ·cases h
   ·injection h with h;subst h;rfl
  ·cases h
 ·split at h
  ·injection h with h;subst h;rfl
  ·cases h
 ·split at h
  ·injection h with h;subst h;rfl
  ·injection h with h;subst h;rfl
  ·cases h
 ·split at h
  ·injection h with h;subst h;rfl
  ·cases h
 ·injection h with h;subst h;rfl
 ·rename_i b args tys;unfold rsvB at h;split at h
  ·rename_i x ty h1 h2;split at h
   ·injection h with h;subst h;simp [RO.rvs,Op.operands,Call.operands,h1]
   ·injection h with h;subst h;simp [RO.rvs,Op.operands,Call.operands,h1]
   ·injection h with h;subst h;simp [RO.rvs,Op.operands,Call.operands,h1]
   ·cases h
  ·rename_i x y t0 t1 h1 h2;split at h
   ·injection h with h;subst h;simp [RO.rvs,Op.operands,Call.operands,h1]
   ·injection h with h;subst h;simp [RO.rvs,Op.operands,Call.operands,h1]
   ·cases h
  ·injection h with h;subst h;simp [RO.rvs,Op.operands,Call.operands]
  ·injection h with h;subst h;simp [RO.rvs,Op.operands,Call.operands]
  ·cases h
 ·injection h with h;subst h;simp [RO.rvs,Op.operands,Call.operands]
 ·cases h
theorem jK1 {o:Oper} {ro:RO} {s:St} {nid:Nat} (h:rsvO P o.op=some ro) (hc:zK ro=false) {r:Res} (hr:rT ro (rv s.fr) s.st nid=some r):∃ r',opT P s nid o=some r'∧r'.val=r.val∧r'.wr=r.wr∧(r.side→r'.side):=by
 unfold rsvO at h;unfold opT;split at h
 ·rename_i x hx;injection h with h;subst h;rw[hx];refine⟨r,?_,rfl,rfl,fun h=>h⟩;simp only[rT,Gz] at hr;rw[← hr];show extR x s.st nid _=_
  congr 1
  exact Ew fun y _=>(qY s y).symm
 ·rename_i hx;rw[hx];exact ju5 h hc hr
theorem jK2 {o:Op} {ro:RO} (h:rsvO P o=some ro):ro.rvs=o.operands.toList.map toRV:=by
 unfold rsvO at h;split at h
 ·injection h with h;subst h;rfl
 ·exact ju6 h
end
end Go.TL
