/- A part of the proof: ZzReg ZzDraw ZzCall. -/
import Derived.Test.YthbdcffpkbmlaaaGreatDoorK3
namespace Go.TL
structure Ev where
 val:T
 wr:List (Nat×Ob)
structure Foot where
 rdT:List Tmp
 rdI:List Nat
 dst:Option Tmp
 wrI:List Nat
def St.eqv (s s':St):Prop:=(∀ t,get s.fr t=get s'.fr t)∧(∀ i,get s.st i=get s'.st i)
theorem St.eqv_refl (s:St):s.eqv s:=⟨fun _=>rfl,fun _=>rfl⟩
theorem St.eqv_symm {s s':St} (h:s.eqv s'):s'.eqv s:=⟨fun t=>(h.1 t).symm,fun i=>(h.2 i).symm⟩
theorem St.eqv_trans {s s' s'':St} (h:s.eqv s') (h':s'.eqv s''):s.eqv s'':=⟨fun t=>(h.1 t).trans (h'.1 t),fun i=>(h.2 i).trans (h'.2 i)⟩
section
variable {P:Program} {e:Env}
theorem Rel.eqv {s s':St} {ι:Iota} {a:Act} {w:World} (h:Rel e s ι a w) (hs:s.eqv s'):Rel e s' ι a w:=by
 have h1:=h.congr (st':=s'.st) (fun i=>(hs.2 i).symm);exact⟨h1.size,h1.dfr,fun t x hx=>h1.fr t x (by show get s.fr t=some x;rw[hs.1 t];exact hx),h1.ob,h1.inj,h1.own,h1.keep,h1.hs,h1.sS,h1.os,h1.tape,h1.output,h1.gs,h1.stab,h1.mp⟩
def JR (l:List Operand):List Tmp:=l.filterMap fun | .tmp t=>some t | _=>none
def Evs (P:Program) (e:Env) (o:Oper) (s:St) (rdI:List Nat) (ev:Ev):Prop:=
 ∀ s':St,(∀ t∈JR o.op.operands.toList,get s.fr t=get s'.fr t)→we rdI s.st s'.st→Does P e o s' ev.val ev.wr
def zP9 (s:St) (l:List Operand):List Nat:=l.flatMap fun x=>ids (Operand.t s x)
theorem kC {s s':St} {l:List Operand} (h:∀ t∈JR l,get s.fr t=get s'.fr t):∀ x∈l,Operand.t s x=Operand.t s' x:=by
 intro x hx;cases x with
 | tmp t=>
   have:=h t (by simp only[JR,List.mem_filterMap];exact⟨.tmp t,hx,rfl⟩);simp only[Operand.t,this]
 | const v=>cases v <;> rfl
 | global g=>rfl
 | func f=>rfl
theorem zW3 {o:Oper} {s:St} {nid:Nat} {r:Res} (h:opT P s nid o=some r) (hs:r.side):Evs P e o s (nid::zP9 s o.op.operands.toList) ⟨r.val,r.wr⟩:=by
 intro s' hT hI;have hT':=kC hT;have:=jJ4 (P:=P) (s:=s) (s':=s') (nid:=nid) (o:=o) hT' (fun x hx=>hI.mono fun id hid=>by
  simp only[Ck,zP9,Ek];exact .inr ⟨x,hx,hid⟩) (hI nid sMp)
 rw[this] at h;exact qq3 nid h hs
def gdst (ops:List Oper) (j:Nat):Option Tmp:=(ops[j]?).bind (·.dst)
def Lets (ops:List Oper) (o:Oper) (s:St):Prop:=
 match o.guard with
 | none=>True
 | some (j,want)=>∃ d,gdst ops j=some d∧get s.fr d=some (.v (.bool want))
def Bars (ops:List Oper) (o:Oper) (s:St):Prop:=
 ∃ j want,o.guard=some (j,want)∧(gdst ops j=none∨∃ d x,gdst ops j=some d∧get s.fr d=some (.v x)∧x≠.bool want)
theorem zv1 {ops:List Oper} {o:Oper} {s:St} {ι:Iota} {a:Act} {w:World} (hR:Rel e s ι a w) (hd:∀ d,∀ j,gdst ops j=some d→d<e.n) (h:Lets ops o s):Region.wanted o (yielded ops.toArray a.tmps)=true:=by
 unfold Lets at h;unfold Region.wanted;split at h
 ·rename_i hg;rw[hg]
 ·rename_i j want hg;rw[hg];obtain⟨d,h1,h2⟩:=h;have h3:=(hR.fr d _ h2).v_inv;have hlt:d<a.tmps.size:=by rw[hR.size];exact hd d j h1
  have:yielded ops.toArray a.tmps j=some want:=by
   unfold yielded;have:(ops.toArray[j]?).bind (·.dst)=some d:=by simpa [gdst] using h1
   rw[this];have h4:a.tmps[d]?=some (.bool want):=by
    rw[Eq hlt];simp only[Dq,Eq hlt,Option.getD_some] at h3;rw[h3]
   simp [h4]
  simp [this]
theorem zv2 {ops:List Oper} {o:Oper} {s:St} {ι:Iota} {a:Act} {w:World} (hR:Rel e s ι a w) (hd:∀ d,∀ j,gdst ops j=some d→d<e.n) (h:Bars ops o s):Region.wanted o (yielded ops.toArray a.tmps)=false:=by
 obtain⟨j,want,hg,h⟩:=h;unfold Region.wanted;rw[hg];rcases h with h | ⟨d,x,h1,h2,h3⟩
 ·have:yielded ops.toArray a.tmps j=none:=by
   unfold yielded;have:(ops.toArray[j]?).bind (·.dst)=none:=by simpa [gdst] using h
   rw[this];rfl
  simp [this]
 ·have h4:=(hR.fr d _ h2).v_inv;have hlt:d<a.tmps.size:=by rw[hR.size];exact hd d j h1
  have h5:a.tmps[d]?=some x:=by
   rw[Eq hlt];simp only[Dq,Eq hlt,Option.getD_some] at h4;rw[h4]
  have:yielded ops.toArray a.tmps j≠some want:=by
   unfold yielded;have:(ops.toArray[j]?).bind (·.dst)=some d:=by simpa [gdst] using h1
   rw[this];simp only[Option.bind_some,h5];split
   ·rename_i b hb;injection hb with hb;intro hc;injection hc with hc;exact h3 (by rw[hb,hc])
   ·simp
  simpa using this
structure Rec where
 o:Oper
 go:Bool
 ev:Ev
 foot:Foot
def St.putR (s:St) (r:Rec):St:=⟨match r.o.dst with | some d=>(d,r.ev.val)::s.fr | none=>s.fr,r.ev.wr++s.st⟩
structure RecOK (P:Program) (e:Env) (ops:List Oper) (s:St) (r:Rec):Prop where
 rdT:∀ t∈JR r.o.op.operands.toList,t∈r.foot.rdT
 rdG:∀ j want d,r.o.guard=some (j,want)→gdst ops j=some d→d∈r.foot.rdT
 dst:r.foot.dst=r.o.dst
 wrI:∀ p∈r.ev.wr,p.1∈r.foot.wrI
 go:r.go=true→Lets ops r.o s∧Evs P e r.o s r.foot.rdI r.ev
 bar:r.go=false→Bars ops r.o s∧r.ev=⟨.v undef,[]⟩
theorem RecOK.alike {ops:List Oper} {s s':St} {r:Rec} (h:RecOK P e ops s r) (hT:∀ t∈r.foot.rdT,get s.fr t=get s'.fr t) (hI:we r.foot.rdI s.st s'.st):RecOK P e ops s' r:=by
 refine⟨h.rdT,h.rdG,h.dst,h.wrI,fun hg=>?_,fun hg=>?_⟩
 ·obtain⟨h1,h2⟩:=h.go hg;refine⟨?_,fun s'' hT' hI'=>h2 s'' (fun t ht=>(hT t (h.rdT t ht)).trans (hT' t ht)) (fun id hid=>(hI id hid).trans (hI' id hid))⟩;unfold Lets at h1 ⊢
  split at h1
  ·trivial
  ·rename_i j want hgu;obtain⟨d,h3,h4⟩:=h1;exact⟨d,h3,by rw[← hT d (h.rdG j want d hgu h3)];exact h4⟩
 ·obtain⟨⟨j,want,h1,h2⟩,h3⟩:=h.bar hg;refine⟨⟨j,want,h1,?_⟩,h3⟩;rcases h2 with h2 | ⟨d,x,h4,h5,h6⟩
  ·exact .inl h2
  ·exact .inr ⟨d,x,h4,by rw[← hT d (h.rdG j want d h1 h4)];exact h5,h6⟩
theorem RecOK.eqv {ops:List Oper} {s s':St} {r:Rec} (h:RecOK P e ops s r) (hs:s.eqv s'):RecOK P e ops s' r:=
 h.alike (fun t _=>hs.1 t) (fun i _=>hs.2 i)
theorem zZ {α:Type} (l l':List (Nat×α)) (i:Nat):get (l++l') i=(get l i).or (get l' i):=by
 induction l with
 | nil=>simp [get]
 | cons p l ih=>
   obtain⟨j,x⟩:=p;simp only[BW,get];split
   ·simp
   ·exact ih
theorem St.putR_eqv {s s':St} (h:s.eqv s') (r:Rec):(s.putR r).eqv (s'.putR r):=by
 refine⟨fun t=>?_,fun i=>?_⟩
 ·unfold St.putR;cases r.o.dst with
  | none=>exact h.1 t
  | some d=>simp only[get,h.1 t]
 ·simp only[St.putR,zZ,h.2 i]
theorem RecOK.step {ops:List Oper} {s:St} {r:Rec} (h:RecOK P e ops s r) {ι:Iota} {a:Act} {w:World} (hR:Rel e s ι a w) (hd:∀ d,∀ j,gdst ops j=some d→d<e.n)
 (hdst:∀ d,r.o.dst=some d→d<e.n) {K:Act→World→Prop} {Q:Exit→Act→World→Prop} (hK:∀ ι a w,Rel e (s.putR r) ι a w→K a w) :
 if Region.wanted r.o (yielded ops.toArray a.tmps) then r.o.wp P a w K Q else K (a.put r.o.dst undef) w:=by
 have fin:∀ ι' a w',Rel e ⟨s.fr,r.ev.wr++s.st⟩ ι' a w'→∀ v,Rp (r.ev.wr++s.st) ι' w' (Av e (r.ev.wr++s.st) ι' w') v r.ev.val→K (a.put r.o.dst v) w':=by
  intro ι' a w' hR' v hv;cases hq:r.o.dst with
  | none=>
    refine hK ι' _ w' ?_;simp only[St.putR,hq];exact hR'.putO
  | some d=>
    refine hK ι' _ w' ?_;simp only[St.putR,hq];exact hR'.put (hdst d hq) hv
 cases hgo:r.go with
 | true=>
   obtain⟨h1,h2⟩:=h.go hgo;rw[zv1 hR hd h1,Aj rfl];have:=h2 s (fun _ _=>rfl) (fun _ _=>rfl) ι a w K Q hR (fun v w' ι' hR' hv=>fin ι' a w' hR' v hv);exact this
 | false=>
   obtain⟨h1,h2⟩:=h.bar hgo;rw[zv2 hR hd h1];simp only[EZ,if_false];exact fin ι a w (by rw[h2];exact hR) undef (by rw[h2];exact .im (.v _))
inductive Tr (P:Program) (e:Env) (ops:List Oper):St→List Rec→St→Prop
 | nil {s s':St} (h:s.eqv s'):Tr P e ops s [] s'
 | cons {s s':St} {r:Rec} {rs:List Rec} (h:RecOK P e ops s r) (t:Tr P e ops (s.putR r) rs s'):Tr P e ops s (r::rs) s'
theorem Tr.eqv {ops:List Oper} {rs:List Rec}:∀ {s0 s s':St},s0.eqv s→Tr P e ops s rs s'→Tr P e ops s0 rs s':=by
 induction rs with
 | nil=>intro s0 s s' h0 h;cases h with | nil h=>exact .nil (St.eqv_trans h0 h)
 | cons r rs ih=>intro s0 s s' h0 h;cases h with | cons h t=>exact .cons (h.eqv (St.eqv_symm h0)) (ih (St.putR_eqv h0 r) t)
theorem zW4 {ops:List Oper} (h:∀ o∈ops,∀ d,o.dst=some d→d<e.n):∀ d,∀ j,gdst ops j=some d→d<e.n:=by
 intro d j hj;unfold gdst at hj;cases ho:ops[j]? with
 | none=>simp [ho] at hj
 | some o=>simp [ho] at hj;exact h o (BX ho) d hj
theorem Tr.list {ops:List Oper} (hall:∀ o∈ops,∀ d,o.dst=some d→d<e.n) {Q:Exit→Act→World→Prop} {rs:List Rec}:∀ {s s':St} {ι:Iota} {a:Act} {w:World},Tr P e ops s rs s'→(∀ r∈rs,r.o∈ops)→
 Rel e s ι a w→(∀ ι a w,Rel e s' ι a w→Q .normal a w)→wpList P ops.toArray Q (rs.map (·.o)) a w:=by
 induction rs with
 | nil=>intro s s' ι a w h _ hR hQ;cases h with | nil h=>exact hQ ι a w (hR.eqv h)
 | cons r rs ih=>
   intro s s' ι a w h hin hR hQ;cases h with
   | cons h t=>
     simp only[List.map_cons];refine wpList_step fun K hK=>?_;exact h.step hR (zW4 hall) (hall r.o (hin r sMp)) fun ι' a' w' hR'=>hK a' w' (ih t (fun r' hr=>hin r' (by simp [hr])) hR' hQ)
end
end Go.TL
namespace Go.TL
def ZX (ops:List Oper):List Nat→List Oper→List Nat
 | acc,[]=>acc
 | acc,o::r=>ZX ops (acc++[o.after.toList.foldl (fun s e=>if Region.binds .any e then s ||| 2 ^ e.on ||| acc.getD e.on 0 else s) 0]) r
def zW5 (f g:Foot):Bool:=
 (match f.dst with | some d=>!g.rdT.contains d&&!(g.dst==some d) | none=>true) &&
 (match g.dst with | some d=>!f.rdT.contains d | none=>true) &&
 f.wrI.all (fun i=>!g.rdI.contains i&&!g.wrI.contains i)&&g.wrI.all (fun i=>!f.rdI.contains i)
def qk9 (ops:List Oper) (fs:List Foot):Bool:=
 let rows:=ZX ops [] ops
 (ops.zipIdx.all fun (o,j)=>o.after.toList.all fun e=>!Region.binds .any e||e.on<j) &&
 (fs.zipIdx.all fun (g,j)=>fs.zipIdx.all fun (f,i)=>!(decide (i<j))||(rows.getD j 0).testBit i||zW5 f g)
inductive Pre (ops:List Oper):Nat→Nat→Prop
 | edge {i j:Nat} {o:Oper} {e:Edge} (ho:ops[j]?=some o) (he:e∈o.after) (hb:Region.binds .any e=true) (hi:e.on=i):Pre ops i j
 | step {i j:Nat} {o:Oper} {e:Edge} (ho:ops[j]?=some o) (he:e∈o.after) (hb:Region.binds .any e=true) (hp:Pre ops i e.on):Pre ops i j
theorem qM6 {acc:List Nat}:∀ (l:List Edge) (s i:Nat),(l.foldl (fun s e=>if Region.binds .any e then s ||| 2 ^ e.on ||| acc.getD e.on 0 else s) s).testBit i=true→
 s.testBit i=true∨∃ e∈l,Region.binds .any e=true∧(e.on=i∨(acc.getD e.on 0).testBit i=true)
 | [],s,i,h=>.inl h
 | e::l,s,i,h=>by
   simp only[Dw] at h;rcases qM6 l _ i h with h | ⟨e',he',h1,h2⟩
   ·split at h
    ·rename_i hb;simp only[Nat.testBit_or,DZ] at h;rcases h with (h | h) | h
     ·exact .inl h
     ·right
      refine⟨e,sMp,hb,.inl ?_⟩;rw[Nat.testBit_two_pow] at h;simpa using h
     ·exact .inr ⟨e,sMp,hb,.inr h⟩
    ·exact .inl h
   ·exact .inr ⟨e',by simp [he'],h1,h2⟩
theorem ql0 (ops:List Oper):∀ (r:List Oper) (acc:List Nat),(∀ k,r[k]?=ops[acc.length+k]?)→(∀ j i,(acc.getD j 0).testBit i=true→Pre ops i j)→∀ j i,((ZX ops acc r).getD j 0).testBit i=true→Pre ops i j
 | [],acc,_,h,j,i,hb=>h j i (by simpa [ZX] using hb)
 | o::r,acc,hr,h,j,i,hb=>by
   simp only[ZX] at hb;refine ql0 ops r _ (fun k=>?_) (fun j i hb=>?_) j i hb
   ·have:=hr (k+1);simp only[List.getElem?_cons_succ] at this;rw[this];simp only[AW,CJ,Cw]
    congr 1;omega
   ·by_cases hj:j<acc.length
    ·refine h j i ?_;simp only[CY] at hb ⊢
     rwa [BK hj] at hb
    ·by_cases hj':j=acc.length
     ·subst hj';have ho:ops[acc.length]?=some o:=by have:=hr 0;simpa using this.symm
      simp only[CY] at hb;rw[BJ oM] at hb;simp only[Nat.sub_self,List.getElem?_cons_zero,Option.getD_some] at hb;rcases qM6 _ _ _ hb with hb | ⟨e',he',h1,h2 | h2⟩
      ·simp at hb
      ·exact .edge ho (by simpa using he') h1 h2
      ·exact .step ho (by simpa using he') h1 (h _ _ h2)
     ·exfalso
      simp only[CY] at hb;rw[List.getElem?_eq_none (by simp;omega)] at hb;simp at hb
def zW6 (ops:List Oper) (L:Array Bool):Prop:=∀ j,L.getD j false=true→∀ o,ops[j]?=some o→∀ e∈o.after,Region.binds .any e=true→L.getD e.on false=true
theorem zW6.pre {ops:List Oper} {L:Array Bool} (h:zW6 ops L) {i j:Nat} (hp:Pre ops i j):L.getD j false=true→L.getD i false=true:=by
 induction hp with
 | edge ho he hb hi=>intro hj;subst hi;exact h _ hj _ ho _ he hb
 | step ho he hb _ ih=>intro hj;exact ih (h _ hj _ ho _ he hb)
section
variable {P:Program} {e:Env}
def Kl (p:Nat→Bool):Nat→Option Nat
 | 0=>none
 | n+1=>if p n then some n else Kl p n
theorem jb {p q:Nat→Bool}:∀ {n:Nat},(∀ k,k<n→p k=q k)→Kl p n=Kl q n
 | 0,_=>rfl
 | n+1,h=>by simp only[Kl];rw[h n oM,jb fun k hk=>h k oM]
theorem yN {p:Nat→Bool}:∀ {n i:Nat},i<n→p i=true→(∀ k,i<k→k<n→p k=false)→Kl p n=some i
 | 0,_,h,_,_=>by omega
 | n+1,i,hi,hp,h=>by
   simp only[Kl];by_cases hin:i=n
   ·subst hin;rw[Aj hp]
   ·rw[h n oM oM];simp only[EZ,if_false];exact yN oM hp fun k h1 h2=>h k h1 oM
theorem wl {p:Nat→Bool} {i:Nat}:∀ {n:Nat},i≤n→(∀ k,i≤k→k<n→p k=false)→Kl p n=Kl p i
 | 0,h,_=>by have:i=0:=by omega
             subst this;rfl
 | n+1,h,hp=>by
   by_cases hin:i=n+1
   ·subst hin;rfl
   ·simp only[Kl];rw[hp n oM oM];simp only[EZ,if_false];exact wl oM fun k h1 h2=>hp k h1 oM
def frAt (s0:St) (rs:List Rec) (L:Nat→Bool) (t:Tmp):Option T:=
 match Kl (fun k=>L k&&((rs[k]?).bind (·.o.dst)==some t)) rs.length with
 | some k=>(rs[k]?).map (·.ev.val)
 | none=>get s0.fr t
def stAt (s0:St) (rs:List Rec) (L:Nat→Bool) (i:Nat):Option Ob:=
 match Kl (fun k=>L k&&((rs[k]?).bind fun r=>get r.ev.wr i).isSome) rs.length with
 | some k=>(rs[k]?).bind fun r=>get r.ev.wr i
 | none=>get s0.st i
theorem Tr.split {ops:List Oper}:∀ {rs:List Rec} {s0 s':St},Tr P e ops s0 rs s'→∀ i,i≤rs.length→∃ s,Tr P e ops s (rs.drop i) s'∧(∀ t,get s.fr t=frAt s0 rs (fun k=>decide (k<i)) t)∧(∀ j,get s.st j=stAt s0 rs (fun k=>decide (k<i)) j)∧
 ∀ r,rs[i]?=some r→RecOK P e ops s r:=by
 intro rs s0 s' h i
 induction i with
 | zero=>
   intro _;refine⟨s0,h,fun t=>?_,fun j=>?_,fun r hr=>?_⟩
   ·unfold frAt;rw[wl (i:=0) (Nat.zero_le _) sMp];rfl
   ·unfold stAt;rw[wl (i:=0) (Nat.zero_le _) sMp];rfl
   ·cases h with
    | nil=>simp at hr
    | cons h t=>simp at hr;subst hr;exact h
 | succ i ih=>
   intro hi;obtain⟨s,h1,h2,h3,h4⟩:=ih oM;have hlt:i<rs.length:=by omega
   rw[List.drop_eq_getElem_cons hlt] at h1;cases h1 with
   | cons hr ht=>
     refine⟨s.putR rs[i],ht,fun t=>?_,fun j=>?_,fun r hr'=>?_⟩
     ·unfold frAt;by_cases hd:rs[i].o.dst=some t
      ·rw[yN (i:=i) hlt (by simp [hlt,hd]) (fun k h5 h6=>by simp;intro h7;omega)];simp [St.putR,hd,get,hlt]
      ·have e1:get (s.putR rs[i]).fr t=get s.fr t:=by
        simp only[St.putR];split
        ·rename_i d hd';rw[qw];intro e';subst e';exact hd hd'
        ·rfl
       rw[e1,h2 t];unfold frAt;rw[jb (q:=fun k=>decide (k<i+1)&&((rs[k]?).bind (·.o.dst)==some t))];intro k hk;by_cases hki:k=i
       ·subst hki;simp [hk,hd]
       ·have:decide (k<i)=decide (k<i+1):=by simp;omega
        simp only[this]
     ·unfold stAt;have e1:get (s.putR rs[i]).st j=(get rs[i].ev.wr j).or (get s.st j):=by simp only[St.putR,zZ]
      rw[e1];cases hw:get rs[i].ev.wr j with
      | some o=>
        rw[yN (i:=i) hlt (by simp [hlt,hw]) (fun k h5 h6=>by simp;intro h7;omega)];simp [hlt,hw]
      | none=>
        simp only[Option.none_or,h3 j];unfold stAt;rw[jb (q:=fun k=>decide (k<i+1)&&((rs[k]?).bind fun r=>get r.ev.wr j).isSome)];intro k hk;by_cases hki:k=i
        ·subst hki;simp [hk,hw]
        ·have:decide (k<i)=decide (k<i+1):=by simp;omega
         simp only[this]
     ·cases hdr:rs.drop (i+1) with
      | nil=>
        have:rs[i+1]?=none:=by
         rw[List.getElem?_eq_none];have:=congrArg List.length hdr;simp at this;omega
        rw[this] at hr';cases hr'
      | cons q qs=>
        rw[hdr] at ht;have:rs[i+1]?=some q:=by
         have:=congrArg (fun l=>l[0]?) hdr;simpa using this
        rw[this] at hr';injection hr' with hr';subst hr'
        cases ht with
        | cons h t=>exact h
def Lf (L:Array Bool):Nat→Bool:=fun k=>L.getD k false
theorem zQ0 {s0:St} {rs:List Rec} {L L':Nat→Bool} (h:∀ k,k<rs.length→L k=L' k) (t:Tmp):frAt s0 rs L t=frAt s0 rs L' t:=by
 unfold frAt;rw[jb fun k hk=>by rw[h k hk]]
theorem zQ1 {s0:St} {rs:List Rec} {L L':Nat→Bool} (h:∀ k,k<rs.length→L k=L' k) (t:Nat):stAt s0 rs L t=stAt s0 rs L' t:=by
 unfold stAt;rw[jb fun k hk=>by rw[h k hk]]
theorem zf0 {ops:List Oper} {fs:List Foot} (hB:qk9 ops fs=true) {L:Array Bool} (hsz:L.size=ops.length) (h:Region.ready .any ops.toArray L=[]):∀ k,k<ops.length→Lf L k=true:=by
 intro k
 induction k using Nat.strongRecOn with
 | _ k ih=>
   intro hk;apply AQ
   intro hn;have hf:Lf L k=false:=by simpa using hn
   have:k∈Region.ready .any ops.toArray L:=by
    rw[mem_ready];refine⟨?_,ops[k],by simp [hk],fun ed he hb=>?_⟩
    ·unfold Lf at hf;simp only[Dq] at hf ⊢
     rw[Eq oM] at hf ⊢
     simpa using hf
    ·have h1:ed.on<k:=by
      unfold qk9 at hB;simp only[Bq,Bk] at hB;have:=hB.1 (ops[k],k) (by rw[List.mem_zipIdx_iff_getElem?];simp [hk]);simp only[Bk] at this;have:=this ed (by simpa using he);simpa [hb] using this
     exact ih ed.on h1 oM
   rw[h] at this;cases this
theorem yH {f g:Foot} (h:zW5 f g=true) :
 (∀ d,f.dst=some d→d∉g.rdT∧g.dst≠some d)∧(∀ d,g.dst=some d→d∉f.rdT)∧(∀ i∈f.wrI,i∉g.rdI∧i∉g.wrI)∧∀ i∈g.wrI,i∉f.rdI:=by
 unfold zW5 at h;simp only[Bq,Bk] at h;obtain⟨⟨⟨h1,h2⟩,h3⟩,h4⟩:=h;refine⟨fun d hd=>?_,fun d hd=>?_,fun i hi=>?_,fun i hi=>?_⟩
 ·rw[hd] at h1;simpa using h1
 ·rw[hd] at h2;simpa using h2
 ·have:=h3 i hi;simpa using this
 ·have:=h4 i hi;simpa using this
theorem ZF {ops:List Oper} {fs:List Foot} (hB:qk9 ops fs=true) {i j:Nat} (hij:i<j) {f g:Foot} (hf:fs[i]?=some f) (hg:fs[j]?=some g):Pre ops i j∨zW5 f g=true:=by
 unfold qk9 at hB;simp only[Bq,Bk] at hB;have h1:=hB.2 (g,j) (by rw[List.mem_zipIdx_iff_getElem?];exact hg);simp only[Bk] at h1;have h2:=h1 (f,i) (by rw[List.mem_zipIdx_iff_getElem?];exact hf);simp only[DZ,Bx,Ay] at h2;rcases h2 with (h2 | h2) | h2
 ·exact absurd hij h2
 ·exact .inl (ql0 ops ops [] (fun k=>by simp) (fun j i h=>by simp at h) j i h2)
 ·exact .inr h2
def unl (L:Array Bool) (n:Nat):Nat:=(List.range n).countP fun k=>!Lf L k
theorem jJ5 {L:Array Bool} {n i:Nat} (hi:i<n) (hsz:L.size=n) (hf:Lf L i=false):unl L n=unl (L.setIfInBounds i true) n+1:=by
 unfold unl;have hL:∀ k,Lf (L.setIfInBounds i true) k=if k=i then true else Lf L k:=by
  intro k;unfold Lf;simp only[Dq];by_cases h:k=i
  ·subst h;rw[Array.getElem?_setIfInBounds_self_of_lt oM];simp
  ·rw[Array.getElem?_setIfInBounds_ne (Ne.symm h),Aq h]
 simp only[hL];clear hL;have key:∀ n,i<n→(List.range n).countP (fun k=>!Lf L k)=(List.range n).countP (fun k=>!(if k=i then true else Lf L k))+1:=by
  intro n
  induction n with
  | zero=>intro h;omega
  | succ n ih=>
    intro hi;rw[List.range_succ,List.countP_append,List.countP_append];by_cases h:i=n
    ·subst h;have:(List.range i).countP (fun k=>!Lf L k)=(List.range i).countP (fun k=>!(if k=i then true else Lf L k)):=by
      refine List.countP_congr fun k hk=>?_;have:k≠i:=by have:=Dk.1 hk;omega
      simp [this]
     rw[this];simp [hf]
    ·rw[ih oM];have:n≠i:=fun e=>h e.symm;simp [this];omega
 exact key n hi
theorem Tr.any {ops:List Oper} {Q:Exit→Act→World→Prop} {rs:List Rec} {s0 s':St} (htr:Tr P e ops s0 rs s') (hops:rs.map (·.o)=ops) (hB:qk9 ops (rs.map (·.foot))=true) (hall:∀ o∈ops,∀ d,o.dst=some d→d<e.n)
 (hQ:∀ ι a w,Rel e s' ι a w→Q .normal a w) :
 ∀ (fuel:Nat) (L:Array Bool) (s:St) (ι:Iota) (a:Act) (w:World),L.size=ops.length→zW6 ops L→Rel e s ι a w→(∀ t,get s.fr t=frAt s0 rs (Lf L) t)→(∀ j,get s.st j=stAt s0 rs (Lf L) j)→unl L ops.length=fuel→
  wpAny P .any ops.toArray Q fuel L a w:=by
 have hlen:rs.length=ops.length:=by rw[← hops];simp
 have done:∀ (L:Array Bool) (s:St) (ι:Iota) (a:Act) (w:World),(∀ k,k<ops.length→Lf L k=true)→Rel e s ι a w→(∀ t,get s.fr t=frAt s0 rs (Lf L) t)→(∀ j,get s.st j=stAt s0 rs (Lf L) j)→Q .normal a w:=by
  intro L s ι a w hL hR hfr hst;obtain⟨sn,h1,h2,h3,_⟩:=htr.split rs.length (BZ _);rw[List.drop_length] at h1;cases h1 with
  | nil h1=>
    refine hQ ι a w (hR.eqv (St.eqv_trans ⟨fun t=>?_,fun j=>?_⟩ h1))
    ·rw[hfr,h2];exact zQ0 (fun k hk=>by rw[hL k oM];simp [hk]) t
    ·rw[hst,h3];exact zQ1 (fun k hk=>by rw[hL k oM];simp [hk]) j
 intro fuel
 induction fuel with
 | zero=>
   intro L s ι a w hsz hcl hR hfr hst hu;have hL:∀ k,k<ops.length→Lf L k=true:=by
    intro k hk;unfold unl at hu;rw[List.countP_eq_zero] at hu;have:=hu k (Dk.2 hk);simpa using this
   refine⟨?_,done L s ι a w hL hR hfr hst⟩;apply List.eq_nil_iff_forall_not_mem.2
   intro k hk;rw[mem_ready] at hk;obtain⟨h0,o,ho,_⟩:=hk;have hkl:k<ops.length:=by
    have:=(Array.getElem?_eq_some_iff.1 ho).1;simpa using this
   have:=hL k hkl;unfold Lf at this;simp only[Dq] at h0 this;rw[Eq oM] at h0 this;simp at h0 this;rw[h0] at this;cases this
 | succ fuel ih=>
   intro L s ι a w hsz hcl hR hfr hst hu;refine⟨fun hr=>done L s ι a w (zf0 hB hsz hr) hR hfr hst,fun i hi=>?_⟩;rw[mem_ready] at hi;obtain⟨h0,o,ho,hpred⟩:=hi;have hil:i<ops.length:=by
    have:=(Array.getElem?_eq_some_iff.1 ho).1;simpa using this
   have hir:i<rs.length:=by omega
   have hfi:Lf L i=false:=by
    unfold Lf;simp only[Dq] at h0 ⊢
    rw[Eq oM] at h0 ⊢
    simpa using h0
   have hro:rs[i].o=o:=by
    have:(rs.map (·.o))[i]?=some o:=by rw[hops];simpa using ho
    simpa [hir] using this
   obtain⟨si,_,g2,g3,g4⟩:=htr.split i oM;have hok:=g4 rs[i] (by simp [hir]);have hbefore:∀ k,Pre ops k i→Lf L k=true:=by
    intro k hp;cases hp with
    | edge ho' he hb hk=>
      have:some _=some _:=ho'.symm.trans (by simpa using ho);injection this with this;subst this;subst hk;exact hpred _ he hb
    | step ho' he hb hp=>
      have:some _=some _:=ho'.symm.trans (by simpa using ho);injection this with this;subst this;exact hcl.pre hp (hpred _ he hb)
   have hafter:∀ k,Lf L k=true→¬ Pre ops i k:=by
    intro k hk hp;have:=hcl.pre hp hk;rw[show L.getD i false=Lf L i from rfl,hfi] at this;cases this
   have hfoot:∀ k (hk:k<rs.length),(rs.map (·.foot))[k]?=some rs[k].foot:=fun k hk=>by simp [hk]
   have agreeT:∀ t∈rs[i].foot.rdT,∀ k,k<rs.length→(Lf L k&&((rs[k]?).bind (·.o.dst)==some t))=(decide (k<i)&&((rs[k]?).bind (·.o.dst)==some t)):=by
    intro t ht k hk;by_cases hd:rs[k].o.dst=some t
    ·have hfd:rs[k].foot.dst=some t:=by
      obtain⟨sk,_,_,_,q4⟩:=htr.split k oM;rw[(q4 rs[k] (by simp [hk])).dst,hd]
     have:Lf L k=decide (k<i):=by
      rcases Nat.lt_trichotomy k i with hki | hki | hki
      ·rw[Cx hki];rcases ZF hB hki (hfoot k hk) (hfoot i hir) with hp | hp
       ·exact hbefore k hp
       ·exact absurd ht ((yH hp).1 t hfd).1
      ·subst hki;rw[hfi];simp
      ·rw[Cq oM];rcases ZF hB hki (hfoot i hir) (hfoot k hk) with hp | hp
       ·cases hq:Lf L k with
        | false=>rfl
        | true=>exact absurd hp (hafter k hq)
       ·exact absurd ht ((yH hp).2.1 t hfd)
     rw[this]
    ·have:(rs[k].o.dst==some t)=false:=by simpa using hd
     simp [hk,this]
   have agreeI:∀ j∈rs[i].foot.rdI,∀ k,k<rs.length→(Lf L k&&((rs[k]?).bind fun r=>get r.ev.wr j).isSome)=(decide (k<i)&&((rs[k]?).bind fun r=>get r.ev.wr j).isSome):=by
    intro j hj k hk;by_cases hd:(get rs[k].ev.wr j).isSome
    ·have hfd:j∈rs[k].foot.wrI:=by
      obtain⟨sk,_,_,_,q4⟩:=htr.split k oM;have hmem:∀ (l:List (Nat×Ob)),(get l j).isSome→∃ p∈l,p.1=j:=by
       intro l
       induction l with
       | nil=>simp [get]
       | cons p l ih=>
         intro h;obtain⟨q,x⟩:=p;by_cases hq:q=j
         ·exact⟨(q,x),sMp,hq⟩
         ·rw[qw _ _ hq] at h;obtain⟨p,hp,h2⟩:=ih h;exact⟨p,by simp [hp],h2⟩
      obtain⟨p,hp,rfl⟩:=hmem _ hd;exact (q4 rs[k] (by simp [hk])).wrI p hp
     have:Lf L k=decide (k<i):=by
      rcases Nat.lt_trichotomy k i with hki | hki | hki
      ·rw[Cx hki];rcases ZF hB hki (hfoot k hk) (hfoot i hir) with hp | hp
       ·exact hbefore k hp
       ·exact absurd hj ((yH hp).2.2.1 j hfd).1
      ·subst hki;rw[hfi];simp
      ·rw[Cq oM];rcases ZF hB hki (hfoot i hir) (hfoot k hk) with hp | hp
       ·cases hq:Lf L k with
        | false=>rfl
        | true=>exact absurd hp (hafter k hq)
       ·exact absurd hj ((yH hp).2.2.2 j hfd)
     rw[this]
    ·simp [hk,hd]
   have hoks:RecOK P e ops s rs[i]:=by
    refine hok.alike (fun t ht=>?_) (fun j hj=>?_)
    ·rw[g2,hfr];unfold frAt;rw[jb fun k hk=>(agreeT t ht k hk).symm]
    ·rw[g3,hst];unfold stAt;rw[jb fun k hk=>(agreeI j hj k hk).symm]
   have hwp:=hoks.step (Q:=Q) hR (zW4 hall) (fun d hd=>hall o (BX (by simpa using ho)) d (by rw[← hro];exact hd))
    (K:=wpAny P .any ops.toArray Q fuel (L.setIfInBounds i true)) (fun ι' a' w' hR'=>by
      have hLs:∀ k,Lf (L.setIfInBounds i true) k=if k=i then true else Lf L k:=by
       intro k;unfold Lf;simp only[Dq];by_cases h:k=i
       ·subst h;rw[Array.getElem?_setIfInBounds_self_of_lt oM];simp
       ·rw[Array.getElem?_setIfInBounds_ne (Ne.symm h),Aq h]
      refine ih _ (s.putR rs[i]) ι' a' w' (by simpa using hsz) ?_ hR' (fun t=>?_) (fun j=>?_) ?_
      ·intro j hj o' ho' ed he hb;rw[show (L.setIfInBounds i true).getD ed.on false=Lf (L.setIfInBounds i true) ed.on from rfl,hLs];rw[show (L.setIfInBounds i true).getD j false=Lf (L.setIfInBounds i true) j from rfl,hLs] at hj;split
       ·rfl
       ·by_cases hji:j=i
        ·subst hji;have:o'=o:=by
             have:some _=some _:=ho'.symm.trans (by simpa using ho);injection this
         subst this;exact hpred ed he hb
        ·rw[Aq hji] at hj;exact hcl j hj o' ho' ed he hb
      ·by_cases hd:rs[i].o.dst=some t
       ·unfold frAt;rw[yN (i:=i) hir (by simp [hLs,hir,hd]) (fun k h5 h6=>by
         rw[hLs,Aq oM];by_cases hdk:rs[k].o.dst=some t
         ·have hfd:∀ q (hq:q<rs.length),rs[q].o.dst=some t→rs[q].foot.dst=some t:=fun q hq hdq=>by
           obtain⟨sk,_,_,_,q4⟩:=htr.split q oM;rw[(q4 rs[q] (by simp [hq])).dst,hdq]
          rcases ZF hB h5 (hfoot i hir) (hfoot k h6) with hp | hp
          ·cases hq:Lf L k with
           | false=>rfl
           | true=>exact absurd hp (hafter k hq)
          ·exact absurd (hfd k h6 hdk) ((yH hp).1 t (hfd i hir hd)).2
         ·simp [h6,hdk])]
        simp [St.putR,hd,get,hir]
       ·have e1:get (s.putR rs[i]).fr t=get s.fr t:=by
         simp only[St.putR];split
         ·rename_i d hd';rw[qw];intro e';subst e';exact hd hd'
         ·rfl
        rw[e1,hfr];unfold frAt;rw[jb (q:=fun k=>Lf (L.setIfInBounds i true) k&&((rs[k]?).bind (·.o.dst)==some t))];intro k hk;rw[hLs];by_cases hki:k=i
        ·subst hki;simp [hk,hd]
        ·rw[Aq hki]
      ·have e1:get (s.putR rs[i]).st j=(get rs[i].ev.wr j).or (get s.st j):=by simp only[St.putR,zZ]
       rw[e1];cases hw:get rs[i].ev.wr j with
       | some ob=>
         unfold stAt;rw[yN (i:=i) hir (by simp [hLs,hir,hw]) (fun k h5 h6=>by
          rw[hLs,Aq oM];by_cases hdk:(get rs[k].ev.wr j).isSome
          ·have hfd:∀ q (hq:q<rs.length),(get rs[q].ev.wr j).isSome→j∈rs[q].foot.wrI:=fun q hq hdq=>by
            obtain⟨sk,_,_,_,q4⟩:=htr.split q oM;have hmem:∀ (l:List (Nat×Ob)),(get l j).isSome→∃ p∈l,p.1=j:=by
             intro l
             induction l with
             | nil=>simp [get]
             | cons p l ih=>
               intro h;obtain⟨q,x⟩:=p;by_cases hq:q=j
               ·exact⟨(q,x),sMp,hq⟩
               ·rw[qw _ _ hq] at h;obtain⟨p,hp,h2⟩:=ih h;exact⟨p,by simp [hp],h2⟩
            obtain⟨p,hp,rfl⟩:=hmem _ hdq;exact (q4 rs[q] (by simp [hq])).wrI p hp
           rcases ZF hB h5 (hfoot i hir) (hfoot k h6) with hp | hp
           ·cases hq:Lf L k with
            | false=>rfl
            | true=>exact absurd hp (hafter k hq)
           ·exact absurd (hfd k h6 hdk) ((yH hp).2.2.1 j (hfd i hir (by rw[hw];rfl))).2
          ·simp [h6,hdk])]
         simp [hir,hw]
       | none=>
         simp only[Option.none_or,hst];unfold stAt;rw[jb (q:=fun k=>Lf (L.setIfInBounds i true) k&&((rs[k]?).bind fun r=>get r.ev.wr j).isSome)];intro k hk;rw[hLs];by_cases hki:k=i
         ·subst hki;simp [hk,hw]
         ·rw[Aq hki]
      ·have:=jJ5 hil hsz hfi;omega)
   unfold wpOp;rw[ho];rw[hro] at hwp;simp only;split
   ·rename_i hw;rw[Aj hw] at hwp;exact .inl hwp
   ·rename_i hw;rw[Aq hw] at hwp;exact hwp
end
end Go.TL
namespace Go.TL
inductive Lt (st:Sto) (d:Nat→Prop) (ρ:Nat→Option Nat) (B:List Nat):T→T→Prop
 | junk (x:T):Lt st d ρ B x .junk
 | im (x:T) (h:imT x=true):Lt st d ρ B x x
 | nil (k:Nat):Lt st d ρ B (.v (.slice none 0 0)) (.sl k [])
 | ghost (id':Nat) (hr:ρ id'=none) (hd:d id'):Lt st d ρ B (.v (.slice none 0 0)) (.asl id' 0)
 | asl (id id' n:Nat) (hr:ρ id'=some id) (hd:d id'):Lt st d ρ B (.asl id n) (.asl id' n)
 | ptr (id id' n i j:Nat) (hr:ρ id'=some id) (hd:d id'):Lt st d ρ B (.ptr id n i j) (.ptr id' n i j)
 | shut (id n k:Nat) (xs ys:List T) (fz:Bool) (hB:id∈B) (hg:get st id=some (.arr k xs fz)) (hn:xs.length=n) (hl:ys.length=n) (hk:∀ y∈ys,y.cells.length=k)
    (hc:∀ (j:Nat) (c c':T),(flat xs)[j]?=some c→(flat ys)[j]?=some c'→Lt st d ρ B c c')
    (hi:∀ c'∈flat ys,imT c'=true):Lt st d ρ B (.asl id n) (.sl k ys)
 | aslv (id id' n:Nat) (hr:ρ id'=some id) (hd:d id'):Lt st d ρ B (.asl id n) (.vw id' n 0 n)
 | vw (id id' n lo len:Nat) (hr:ρ id'=some id) (hd:d id'):Lt st d ρ B (.vw id n lo len) (.vw id' n lo len)
 | shutv (id n lo len k:Nat) (xs ys:List T) (fz:Bool) (hB:id∈B) (hg:get st id=some (.arr k xs fz)) (hn:xs.length=n) (hl:ys.length=len) (hk:∀ y∈ys,y.cells.length=k)
    (hc:∀ (j:Nat) (c c':T),(flat ((xs.drop lo).take len))[j]?=some c→(flat ys)[j]?=some c'→Lt st d ρ B c c')
    (hi:∀ c'∈flat ys,imT c'=true):Lt st d ρ B (.vw id n lo len) (.sl k ys)
 | mp (id id':Nat) (hr:ρ id'=some id) (hd:d id'):Lt st d ρ B (.mp id) (.mp id')
 | ptrip (id n i j k:Nat) (xs cs:List T) (fz:Bool) (hB:id∈B) (hg:get st id=some (.arr k xs fz)) (hn:xs.length=n) (hi:i<n) (hc:cs=(xs.getD i .junk).cells.drop j)
    (him:∀ c∈cs,imT c=true):Lt st d ρ B (.ptr id n i j) (.ip cs)
 | agg (cs cs':List T) (hl:cs.length=cs'.length) (h:∀ (j:Nat) (c c':T),cs[j]?=some c→cs'[j]?=some c'→Lt st d ρ B c c'):Lt st d ρ B (.agg cs) (.agg cs')
 | tup (cs cs':List T) (hl:cs.length=cs'.length) (h:∀ (j:Nat) (c c':T),cs[j]?=some c→cs'[j]?=some c'→Lt st d ρ B c c'):Lt st d ρ B (.tup cs) (.tup cs')
 | clo (f:FuncId) (cs cs':List T) (hl:cs.length=cs'.length) (h:∀ (j:Nat) (c c':T),cs[j]?=some c→cs'[j]?=some c'→Lt st d ρ B c c'):Lt st d ρ B (.clo f cs) (.clo f cs')
theorem Lt.alike {st st2:Sto} {d:Nat→Prop} {ρ:Nat→Option Nat} {B:List Nat} {x y:T} (h:Lt st d ρ B x y) (hB:we B st st2):Lt st2 d ρ B x y:=by
 induction h with
 | junk x=>exact .junk x
 | im x h=>exact .im x h
 | nil k=>exact .nil k
 | ghost id' hr hd=>exact .ghost id' hr hd
 | asl id id' n hr hd=>exact .asl id id' n hr hd
 | ptr id id' n i j hr hd=>exact .ptr id id' n i j hr hd
 | shut id n k xs ys fz hb hg hn hl hk _ hi ih=>exact .shut id n k xs ys fz hb (by rw[← hB id hb];exact hg) hn hl hk ih hi
 | aslv id id' n hr hd=>exact .aslv id id' n hr hd
 | vw id id' n lo len hr hd=>exact .vw id id' n lo len hr hd
 | mp id id' hr hd=>exact .mp id id' hr hd
 | ptrip id n i j k xs cs fz hb hg hn hi hc him=>exact .ptrip id n i j k xs cs fz hb (by rw[← hB id hb];exact hg) hn hi hc him
 | shutv id n lo len k xs ys fz hb hg hn hl hk _ hi ih=>exact .shutv id n lo len k xs ys fz hb (by rw[← hB id hb];exact hg) hn hl hk ih hi
 | agg cs cs' hl _ ih=>exact .agg cs cs' hl ih
 | tup cs cs' hl _ ih=>exact .tup cs cs' hl ih
 | clo f cs cs' hl _ ih=>exact .clo f cs cs' hl ih
def jw (ι:Iota) (ρ:Nat→Option Nat):Iota:=fun i=>(ρ i).bind ι
structure LtO (st st':Sto) (ρ:Nat→Option Nat) (B:List Nat):Prop where
 ob:∀ id' k xs' fz',get st' id'=some (.arr k xs' fz')→(ρ id'=none∧xs'=[])∨
  ∃ id xs fz,ρ id'=some id∧get st id=some (.arr k xs fz)∧xs.length=xs'.length∧(fz=true→fz'=true)∧(∀ x∈xs',x.cells.length=k)∧
   (∀ (j:Nat) (c c':T),(flat xs)[j]?=some c→(flat xs')[j]?=some c'→Lt st (fun i=>get st' i≠none) ρ B c c')∧(id∈B→fz'=true)
 inj:∀ i1 i2 id,get st' i1≠none→get st' i2≠none→ρ i1=some id→ρ i2=some id→i1=i2
 mp:∀ id' es,get st' id'=some (.mp es)→∃ id,ρ id'=some id∧get st id=some (.mp es)
 nf:∀ id' i n g,get st' id'≠some (.full i n g)
section
variable {st st':Sto} {ρ:Nat→Option Nat} {B:List Nat} {ι ι':Iota} {d:Nat→Prop} {w:World} {A A':Addr→Prop}
theorem Lt.rp0 (hd:∀ i,d i→get st' i≠none) (hgh:∀ i,d i→ρ i=none→ι' i=none)
 (hr:∀ i id k xs' fz',d i→ρ i=some id→get st' i=some (.arr k xs' fz')→∃ xs fz,get st id=some (.arr k xs fz)∧xs.length=xs'.length∧ι' i=ι id)
 (hm:∀ i id es,d i→ρ i=some id→get st' i=some (.mp es)→(∃ es,get st id=some (.mp es))∧ι' i=ι id) (hA:∀ a,A a→A' a)
 (hB:∀ id k xs fz,id∈B→get st id=some (.arr k xs fz)→(ι id=none∧xs=[])∨∃ b cap,ι id=some (b,cap)∧xs.length≤cap∧(∀ x∈xs,x.cells.length=k)∧
   ∃ us:List Value,us.length=(flat xs).length∧(∀ (j:Nat) (u:Value),us[j]?=some u→A' ⟨b,j,none⟩∧w.cell? ⟨b,j,none⟩=some u∧u.oneCell'=true)∧
    ∀ (j:Nat) (u:Value) (c:T),us[j]?=some u→(flat xs)[j]?=some c→Rp st ι w A u c)
 {x y:T} (h:Lt st d ρ B x y):∀ {v:Value},Rp st ι w A v x→Rp st' ι' w A' v y:=by
 induction h with
 | junk x=>intro v _;exact .im (.junk v)
 | im x h=>intro v hv;exact .im ((hv.imv h).mono fun a ha=>⟨hA a ha,fun u hu=>hu⟩)
 | nil k=>
   intro v hv;have:=hv.v_inv;subst this;exact .im (.sl none 0 0 k [] [] rfl (BZ _) sMp (by simp [flat]) sMp sMp sMp)
 | ghost id' hr0 hd0=>
   intro v hv;have:=hv.v_inv;subst this;refine .asl id' 0 _ (hd _ hd0) fun k xs' fz' hg=>⟨Nat.zero_le _,fun _=>?_⟩;rw[hgh _ hd0 hr0];exact⟨none,rfl⟩
 | asl id id' n hr0 hd0=>
   intro v hv;refine .asl id' n v (hd _ hd0) fun k xs' fz' hg=>?_;obtain⟨xs,fz,h2,h3,h6⟩:=hr _ _ _ _ _ hd0 hr0 hg;cases hv with
   | im hv=>cases hv
   | asl _ _ _ _ h=>
     obtain⟨h4,h5⟩:=h k xs fz h2;exact⟨oM,fun hl=>by rw[h6];exact h5 oM⟩
 | ptr id id' n i j hr0 hd0=>
   intro v hv;refine .ptr id' n i j v (hd _ hd0) fun k xs' fz' hg=>?_;obtain⟨xs,fz,h2,h3,h6⟩:=hr _ _ _ _ _ hd0 hr0 hg;cases hv with
   | im hv=>cases hv
   | ptr _ _ _ _ _ _ h=>
     obtain⟨h4,h5⟩:=h k xs fz h2;exact⟨oM,fun hl=>by rw[h6];exact h5 oM⟩
 | shut id n k xs ys fz hb hg hn hl hk hc hi ih=>
   intro v hv;have hv:=hv.asl_inv hg hn;rcases hB id k xs fz hb hg with⟨h1,h2⟩ | ⟨b,cap,h1,h2,h3,us,h4,h5,h6⟩
   ·subst h2;simp only[Cw] at hn;subst hn;have:ys=[]:=DK hl;subst this;rw[h1] at hv;obtain⟨p,rfl⟩:=hv;exact .im (.sl p 0 0 k [] [] rfl (BZ _) sMp (by simp [flat]) sMp sMp sMp)
   ·rw[h1] at hv;have hv:v = .slice (some ⟨b,0,none⟩) n cap:=hv;rw[hv];have hfl:(flat ys).length=(flat xs).length:=by rw[qH hk,qH h3,hl,hn]
    refine .im (.sl _ n cap k ys us hl oM hk (by rw[h4,hfl]) sMp (fun j u hu=>⟨_,rfl,?_⟩) (fun j u c hu hc'=>?_))
    ·rw[zt];simpa using h5 j u hu
    ·have hj:j<(flat xs).length:=by rw[← hfl];exact (List.getElem?_eq_some_iff.1 hc').1
     have hcx:(flat xs)[j]?=some (flat xs)[j]:=by simp [hj]
     exact (ih j _ c hcx hc' (h6 j u _ hu hcx)).imv (hi c (BX hc'))
 | aslv id id' n hr0 hd0=>
   intro v hv;refine .vw id' n 0 n v (hd _ hd0) fun k xs' fz' hg=>?_;obtain⟨xs,fz,h2,h3,h6⟩:=hr _ _ _ _ _ hd0 hr0 hg;cases hv with
   | im hv=>cases hv
   | asl _ _ _ _ h=>
     obtain⟨h4,h5⟩:=h k xs fz h2;refine⟨oM,fun hl=>⟨oM,?_⟩⟩;rw[h6];have h7:=h5 oM;generalize ι id=o at *
     rcases o with _ | ⟨b,cap⟩
     ·exact h7
     ·exact⟨_,h7,fun _=>by simp⟩
 | vw id id' n lo len hr0 hd0=>
   intro v hv;refine .vw id' n lo len v (hd _ hd0) fun k xs' fz' hg=>?_;obtain⟨xs,fz,h2,h3,h6⟩:=hr _ _ _ _ _ hd0 hr0 hg;cases hv with
   | im hv=>cases hv
   | vw _ _ _ _ _ _ h=>
     obtain⟨h4,h5⟩:=h k xs fz h2;exact⟨oM,fun hl=>by rw[h6];exact h5 oM⟩
 | mp id id' hr0 hd0=>
   intro v hv;refine .mp id' v (hd _ hd0) fun es hg=>?_;obtain⟨⟨es0,h2⟩,h6⟩:=hm _ _ _ hd0 hr0 hg;cases hv with
   | im hv=>cases hv
   | mp _ _ _ h=>rw[h6];exact h es0 h2
 | ptrip id n i j k xs cs fz hb hg hn hi hc him=>
   intro v hv;obtain⟨b0,cap0,hv1,hv2⟩:=hv.ptr_inv hg hn;subst hv2;rcases hB id k xs fz hb hg with⟨h1,h2⟩ | ⟨b,cap,h1,h2,h3,us,h4,h5,h6⟩
   ·rw[h1] at hv1;cases hv1
   ·rw[h1] at hv1;injection hv1 with hv1;injection hv1 with e1 e2
    subst e1 e2;have hfx:=qH h3;have hxi:(xs.getD i .junk).cells.length=k:=by
     rw[CY,CK oM];exact h3 _ (AX _)
    have hle:(i+1)*k≤xs.length*k:=CZ k oM;rw[EY,Nat.one_mul] at hle;subst hc;have hat:∀ (m:Nat) (u:Value),(((us.drop (i*k)).take k).drop j)[m]?=some u→j+m<k∧us[i*k+(j+m)]?=some u:=by
     intro m u hu;rw[Dx,BQ] at hu;split at hu
     ·rename_i hj;rw[Dx] at hu;exact⟨hj,hu⟩
     ·cases hu
    refine .im (.ip _ _ (((us.drop (i*k)).take k).drop j) (by simp only[List.length_drop,Cz,hxi];omega) (fun m u hu=>?_) (fun m u c hu hc'=>?_))
    ·obtain⟨hj,hu⟩:=hat m u hu;have:=h5 _ u hu;rw[zt,show i*k+j+m=i*k+(j+m) by omega];exact this
    ·obtain⟨hj,hu⟩:=hat m u hu;rw[Dx] at hc';have h7:=Wb h3 (i:=i) (j:=j+m) oM hj;have h8:=h6 _ u c hu (by rw[h7];exact hc');have hm:=him c (by rw[List.mem_drop_iff_getElem];exact⟨m,by have:=(List.getElem?_eq_some_iff.1 hc').1;omega,by
      obtain⟨q1,q2⟩:=List.getElem?_eq_some_iff.1 hc';simpa [Nat.add_comm] using q2⟩)
     exact (h8.imv hm).mono fun a ha=>⟨hA a ha,fun u hu=>hu⟩
 | shutv id n lo len k xs ys fz hb hg hn hl hk hc hi ih=>
   intro v hv;obtain⟨hle,hvw⟩:=hv.vw_inv hg hn;clear hv;have hv:=hvw;clear hvw;rcases hB id k xs fz hb hg with⟨h1,h2⟩ | ⟨b,cap,h1,h2,h3,us,h4,h5,h6⟩
   ·subst h2;simp only[Cw] at hn;subst hn;have h0:len=0:=by omega
    subst h0;have:ys=[]:=DK hl;subst this;rw[h1] at hv;obtain⟨p,rfl⟩:=hv;exact .im (.sl p 0 0 k [] [] rfl (BZ _) sMp (by simp [flat]) sMp sMp sMp)
   ·rw[h1] at hv;obtain⟨p,rfl,hp⟩:=hv;have hk2:∀ y∈(xs.drop lo).take len,y.cells.length=k:=fun y hy=>h3 y (EW (EX hy));have hxl:((xs.drop lo).take len).length=len:=by simp;omega
    have hfx:=qH h3;have hfl:(flat ys).length=len*k:=by rw[qH hk,hl]
    have hle2:(lo+len)*k≤xs.length*k:=CZ k oM;rw[EY] at hle2;have hfl2:flat ((xs.drop lo).take len)=((flat xs).drop (lo*k)).take (len*k):=by
     rw[ZE (fun x hx=>h3 x (EW hx)),YY h3]
    have hat:∀ (j:Nat) (u:Value),((us.drop (lo*k)).take (len*k))[j]?=some u→j<len*k∧us[lo*k+j]?=some u:=by
     intro j u hu;rw[BQ] at hu;split at hu
     ·rename_i hj;rw[Dx] at hu;exact⟨hj,hu⟩
     ·cases hu
    refine .im (.sl _ len (cap-lo) k ys ((us.drop (lo*k)).take (len*k)) hl oM hk (by rw[hfl];simp;omega) (fun hpos=>by rw[hp oM];simp) (fun j u hu=>?_) (fun j u c hu hc'=>?_))
    ·obtain⟨hj,hu⟩:=hat j u hu;have hlen:0<len:=by
      rcases DQ len with h0 | h0
      ·subst h0;simp at hj
      ·exact h0
     refine⟨_,hp oM,?_⟩;rw[zt];exact h5 _ u hu
    ·obtain⟨hj,hu⟩:=hat j u hu;have hcx:(flat xs)[lo*k+j]?=some ((flat xs)[lo*k+j]'(by rw[hfx];omega)):=CK _;have hcx2:(flat ((xs.drop lo).take len))[j]?=some ((flat xs)[lo*k+j]'(by rw[hfx];omega)):=by
      rw[hfl2,BQ,Aj hj,Dx];exact hcx
     exact (ih j _ c hcx2 hc' (h6 _ u _ hu hcx)).imv (hi c (BX hc'))
 | agg cs cs' hl _ ih=>
   intro v hv;obtain⟨us,rfl,h1,h2⟩:=hv.agg_inv;refine .agg us cs' oM fun j u c hu hc=>?_;have hj:j<cs.length:=by have:=(List.getElem?_eq_some_iff.1 hc).1;omega
   exact ih j cs[j] c (by simp [hj]) hc (h2 j u _ hu (by simp [hj]))
 | tup cs cs' hl _ ih=>
   intro v hv;obtain⟨us,rfl,h1,h2⟩:=hv.tup_inv;refine .tup us cs' oM fun j u c hu hc=>?_;have hj:j<cs.length:=by have:=(List.getElem?_eq_some_iff.1 hc).1;omega
   exact ih j cs[j] c (by simp [hj]) hc (h2 j u _ hu (by simp [hj]))
 | clo f cs cs' hl _ ih=>
   intro v hv;obtain⟨us,rfl,h1,h2⟩:=hv.clo_inv;refine .clo f us cs' oM fun j u c hu hc=>?_;have hj:j<cs.length:=by have:=(List.getElem?_eq_some_iff.1 hc).1;omega
   exact ih j cs[j] c (by simp [hj]) hc (h2 j u _ hu (by simp [hj]))
theorem Lt.rp (ho:LtO st st' ρ B) (hA:∀ a,A a→A' a)
 (hB:∀ id k xs fz,id∈B→get st id=some (.arr k xs fz)→(ι id=none∧xs=[])∨∃ b cap,ι id=some (b,cap)∧xs.length≤cap∧(∀ x∈xs,x.cells.length=k)∧
   ∃ us:List Value,us.length=(flat xs).length∧(∀ (j:Nat) (u:Value),us[j]?=some u→A' ⟨b,j,none⟩∧w.cell? ⟨b,j,none⟩=some u∧u.oneCell'=true)∧
    ∀ (j:Nat) (u:Value) (c:T),us[j]?=some u→(flat xs)[j]?=some c→Rp st ι w A u c)
 {x y:T} (h:Lt st (fun i=>get st' i≠none) ρ B x y) {v:Value} (hv:Rp st ι w A v x):Rp st' (jw ι ρ) w A' v y:=
 h.rp0 (fun _ h=>h) (fun i _ hr=>by simp [jw,hr]) (fun i id k xs' fz' hd hr hg=>by
  rcases ho.ob i k xs' fz' hg with⟨h1,_⟩ | ⟨id2,xs,fz,h1,h2,h3,_⟩
  ·rw[hr] at h1;cases h1
  ·rw[hr] at h1;injection h1 with h1;subst h1
   exact⟨xs,fz,h2,h3,by simp [jw,hr]⟩) (fun i id es hd hr hg=>by
  obtain⟨id2,h1,h2⟩:=ho.mp i es hg;rw[hr] at h1;injection h1 with h1;subst h1
  exact⟨⟨es,h2⟩,by simp [jw,hr]⟩) hA hB hv
end
theorem Rel.hB {e:Env} {s:St} {ι:Iota} {a:Act} {w:World} (h:Rel e s ι a w) {A':Addr→Prop} {id k:Nat} {xs:List T} {fz:Bool} (hg:get s.st id=some (.arr k xs fz))
 (hA':∀ b cap j,ι id=some (b,cap)→j<(flat xs).length→A' ⟨b,j,none⟩):(ι id=none∧xs=[])∨∃ b cap,ι id=some (b,cap)∧xs.length≤cap∧(∀ x∈xs,x.cells.length=k)∧
   ∃ us:List Value,us.length=(flat xs).length∧(∀ (j:Nat) (u:Value),us[j]?=some u→A' ⟨b,j,none⟩∧w.cell? ⟨b,j,none⟩=some u∧u.oneCell'=true)∧
    ∀ (j:Nat) (u:Value) (c:T),us[j]?=some u→(flat xs)[j]?=some c→Rp s.st ι w (Av e s.st ι w) u c:=by
 obtain⟨hk,hob⟩:=h.ob id _ hg;rcases hob with h1 | ⟨b,cap,cur,E,g4,g5,g6,g7,g8,g9⟩
 ·exact .inl h1
 ·have hfl:=qH hk;have hle:xs.length*k≤cap*k:=CZ k g7;refine .inr ⟨b,cap,g4,g7,hk,cur.toList.take (xs.length*k),by rw[hfl];simp;omega,fun j u hu=>?_,fun j u c hu hc=>?_⟩
  ·rw[BQ] at hu;split at hu
   ·rename_i hj;obtain⟨c,hc⟩:∃ c,(flat xs)[j]?=some c:=⟨(flat xs)[j]'(by rw[hfl];exact hj),by simp [hfl,hj]⟩;exact⟨hA' b cap j g4 (by rw[hfl];exact hj),by rw[wD g5];simpa using hu,(g9 j u c (by simpa using hu) hc).1⟩
   ·cases hu
  ·rw[BQ] at hu;split at hu
   ·exact (g9 j u c (by simpa using hu) hc).2
   ·cases hu
theorem LtO.orep {e:Env} {s:St} {ι:Iota} {a:Act} {w:World} (h:Rel e s ι a w) {st':Sto} {ρ:Nat→Option Nat} {B:List Nat} (ho:LtO s.st st' ρ B) {A':Addr→Prop}
 (hrp:∀ x y v,Lt s.st (fun i=>get st' i≠none) ρ B x y→Rp s.st ι w (Av e s.st ι w) v x→Rp st' (jw ι ρ) w A' v y):∀ id o,get st' id=some o→ORep st' (jw ι ρ) w A' id o:=by
 intro id' o hg;cases o with
 | dead=>trivial
 | full i n g=>exact absurd hg (ho.nf id' i n g)
 | mp es=>
   obtain⟨id,h1,h2⟩:=ho.mp id' es hg;obtain⟨b,clock,ents,h3,h4,h5⟩:=h.ob id _ h2;exact⟨b,clock,ents,by simp [jw,h1,h3],h4,h5⟩
 | arr k xs' fz'=>
   rcases ho.ob id' k xs' fz' hg with⟨h1,h2⟩ | ⟨id,xs,fz,h1,h2,h3,h4,h5,h6,_⟩
   ·subst h2;exact⟨sMp,.inl ⟨by simp [jw,h1],rfl⟩⟩
   ·refine⟨h5,?_⟩;obtain⟨hk,hob⟩:=h.ob id _ h2;rcases hob with⟨g1,g2⟩ | ⟨b,cap,cur,E,g4,g5,g6,g7,g8,g9⟩
    ·subst g2;exact .inl ⟨by simp [jw,h1,g1],DK (by simpa using h3.symm)⟩
    ·refine .inr ⟨b,cap,cur,E,by simp [jw,h1,g4],g5,g6,oM,g8,fun j u c hu hc=>?_⟩;have hfl:(flat xs').length=(flat xs).length:=by rw[qH h5,qH hk,h3]
     have hj:j<(flat xs).length:=by rw[← hfl];exact (List.getElem?_eq_some_iff.1 hc).1
     have hcx:(flat xs)[j]?=some (flat xs)[j]:=by simp [hj]
     obtain⟨q1,q2⟩:=g9 j u _ hu hcx;exact⟨q1,hrp _ _ _ (h6 j _ c hcx hc) q2⟩
structure LeS (e:Env) (s s':St) (ρ:Nat→Option Nat) (B:List Nat):Prop where
 o:LtO s.st s'.st ρ B
 fr:∀ t y,get s'.fr t=some y→Lt s.st (fun i=>get s'.st i≠none) ρ B ((get s.fr t).getD .junk) y
 hnd:∀ id,get e.st0 id≠none→get s'.st id≠none∧(∀ k xs fz,get s'.st id=some (.arr k xs fz)→ρ id=some id)∧(∀ es,get s'.st id=some (.mp es)→ρ id=some id)
theorem Rel.less {e:Env} {s s':St} {ι:Iota} {a:Act} {w:World} (h:Rel e s ι a w) {ρ:Nat→Option Nat} {B:List Nat} (hl:LeS e s s' ρ B):Rel e s' (jw ι ρ) a w:=by
 have hA:∀ x,Av e s.st ι w x→Av e s'.st (jw ι ρ) w x:=by
  rintro x (hx | ⟨h1,h2,h3⟩)
  ·exact .inl hx
  ·refine .inr ⟨h1,h2,fun id' k xs' fz' cap hg hi=>?_⟩;rcases hl.o.ob id' k xs' fz' hg with⟨q1,_⟩ | ⟨id,xs,fz,q1,q2,q3,q4,q5,_⟩
   ·simp [jw,q1] at hi
   ·simp only[jw,q1,Option.bind_some] at hi;obtain⟨q6,q7⟩:=h3 id k xs fz cap q2 hi;refine⟨q4 q6,?_⟩;rw[qH q5,← q3,← qH (h.ob id _ q2).1];exact q7
 have hrp:∀ x y v,Lt s.st (fun i=>get s'.st i≠none) ρ B x y→Rp s.st ι w (Av e s.st ι w) v x→Rp s'.st (jw ι ρ) w (Av e s'.st (jw ι ρ) w) v y:=by
  intro x y v hxy hv;refine hxy.rp hl.o hA (fun id k xs fz hb hg=>h.hB hg fun b cap j hi hj=>?_) hv;refine .inr ⟨?_,h.blk hg hi,fun id' k' xs' fz' cap' hg' hi'=>?_⟩
  ·exact (h.own id k xs fz b cap hg hi).symm
  ·rcases hl.o.ob id' k' xs' fz' hg' with⟨q1,_⟩ | ⟨id2,xs2,fz2,q1,q2,q3,q4,q5,_,q6⟩
   ·simp [jw,q1] at hi'
   ·simp only[jw,q1,Option.bind_some] at hi';have:=h.inj id2 id _ _ _ _ _ _ b cap' cap q2 hg hi' hi;subst this;rw[q2] at hg;injection hg with hg;injection hg with e1 e2 e3
    subst e1 e2 e3;refine⟨q6 hb,?_⟩;rw[qH q5,← q3,← qH (h.ob id2 _ q2).1];exact hj
 refine⟨h.size,h.dfr,fun t y hy=>?_,hl.o.orep h hrp,?_,?_,h.keep,h.hs,h.sS,h.os,h.tape,h.output,⟨fun id hd=>(hl.hnd id hd).1,fun id k' xs' fz' hg hd=>?_,fun id es hg hd=>by
  have hr:=(hl.hnd id hd).2.2 es hg;obtain⟨id2,q1,q2⟩:=hl.o.mp id es hg;rw[hr] at q1;injection q1 with q1;subst q1
  obtain⟨r1,r2⟩:=h.gs.mp id es q2 hd;exact⟨r1,by simp only[jw,hr,Option.bind_some];exact r2⟩⟩,fun x hx=>⟨hA x (h.stab x hx).1,(h.stab x hx).2⟩,
  ⟨fun id es b c hg hi=>by
    obtain⟨id2,q1,q2⟩:=hl.o.mp id es hg;simp only[jw,q1,Option.bind_some] at hi;exact h.mp.own id2 es b c q2 hi,
   fun id id' es es' b c c' hg hg' hi hi'=>by
    obtain⟨i1,q1,q2⟩:=hl.o.mp id es hg;obtain⟨i2,p1,p2⟩:=hl.o.mp id' es' hg';simp only[jw,q1,p1,Option.bind_some] at hi hi';have:=h.mp.inj i1 i2 es es' b c c' q2 p2 hi hi';subst this;exact hl.o.inj id id' i1 (by rw[hg];simp) (by rw[hg'];simp) q1 p1⟩⟩
 ·refine hrp _ _ _ (hl.fr t y hy) ?_;cases hg:get s.fr t with
  | none=>exact .im (.junk _)
  | some x=>exact h.fr t x hg
 ·intro i i' k xs fz k' xs' fz' b c c' g1 g2 e1 e2;rcases hl.o.ob i k xs fz g1 with⟨q1,_⟩ | ⟨id,x1,f1,q1,q2,_⟩
  ·simp [jw,q1] at e1
  ·rcases hl.o.ob i' k' xs' fz' g2 with⟨p1,_⟩ | ⟨id',x2,f2,p1,p2,_⟩
   ·simp [jw,p1] at e2
   ·simp only[jw,q1,p1,Option.bind_some] at e1 e2;have:=h.inj id id' _ _ _ _ _ _ b c c' q2 p2 e1 e2;subst this;exact hl.o.inj i i' id (by rw[g1];simp) (by rw[g2];simp) q1 p1
 ·intro i k xs fz b c g1 e1;rcases hl.o.ob i k xs fz g1 with⟨q1,_⟩ | ⟨id,x1,f1,q1,q2,_⟩
  ·simp [jw,q1] at e1
  ·simp only[jw,q1,Option.bind_some] at e1;exact h.own id _ _ _ b c q2 e1
 ·have hr:=(hl.hnd id hd).2.1 k' xs' fz' hg;rcases hl.o.ob id k' xs' fz' hg with⟨q1,_⟩ | ⟨id2,x1,f1,q1,q2,q3,_⟩
  ·rw[hr] at q1;cases q1
  ·rw[hr] at q1;injection q1 with q1;subst q1
   obtain⟨k0,x0,f0,r1,r2,r3,r4⟩:=h.gs.arr id k' x1 f1 q2 hd;exact⟨k0,x0,f0,r1,r2,oM,fun hle=>by simp only[jw,hr,Option.bind_some];exact r4 oM⟩
def ZY:Nat→List T→List (Nat×T)
 | _,[]=>[]
 | i,t::r=>(i,t)::ZY (i+1) r
theorem qa2:∀ (ts:List T) (i t:Nat),get (ZY i ts) t=if i≤t then ts[t-i]? else none
 | [],i,t=>by simp [ZY,get]
 | x::r,i,t=>by
   simp only[ZY,get];rw[qa2 r (i+1) t];by_cases h:i=t
   ·subst h;simp
   ·rw[Aq h];by_cases h2:i+1≤t
    ·rw[Aj h2,Aj oM,show t-i=(t-(i+1))+1 by omega];simp
    ·rw[Aq h2,Aq oM]
def zv3 (st:Sto) (ι:Iota):Nat→Prop:=fun b=>∃ id k xs fz c,get st id=some (.arr k xs fz)∧ι id=some (b,c)
def ZZ (S:Addr→Prop) (w:World) (n:Nat) (st:Sto) (ι:Iota):Env:={ S:=S,base:=w.heap.size,hnd:=zv3 st ι,w0:=w,n:=n,st0:=st,i0:=ι }
def goFn (P:Program) (f:FuncId):Bool:=
 match P.funcs[f]? with
 | some fn => fn.body.isSome && !(fn.name == "runtime.NumGoroutine")
 | none=>false
def noMp:Sto→Bool
 | []=>true
 | (_,.mp _)::_=>false
 | _::r=>noMp r
theorem qT1:∀ {st:Sto},noMp st=true→∀ id es,get st id≠some (.mp es)
 | [],_,id,es,h=>by cases h
 | (j,o)::r,hn,id,es,h=>by
   simp only[get] at h;split at h
   ·injection h with h;subst h;simp [noMp] at hn
   ·refine qT1 (st:=r) ?_ id es h;cases o <;> first | exact hn | (simp [noMp] at hn)
def Spc (P:Program) (f:FuncId) (ts:List T) (st:Sto) (r:T) (st':Sto):Prop:=
 goFn P f=true∧noMp st=true∧∀ (S:Addr→Prop) (ι:Iota) (w:World) (vals:Array Value),Rel (ZZ S w ts.length st ι) ⟨ZY 0 ts,st⟩ ι ⟨vals,[]⟩ w→
  Calls P f vals w fun en w'=>∃ v ι',en = .returned v∧Rel (ZZ S w 1 st ι) ⟨[(0,r)],st'⟩ ι' ⟨#[v],[]⟩ w'
def noA:T→Bool
 | .junk | .v _ | .asl .. | .ptr .. | .ub .. | .vw ..=>true
 | _=>false
def noA1:T→Bool
 | .agg cs | .clo _ cs=>cs.all noA
 | t=>noA t
def noA2:T→Bool
 | .tup ts=>ts.all noA1
 | t=>noA1 t
theorem zW7 {st:Sto} {ι:Iota} {w:World} {A A':Addr→Prop} {v:Value} {t:T} (h:Rp st ι w A v t) (hn:noA t=true):Rp st ι w A' v t:=by
 cases h with
 | im h=>cases h with
   | junk v=>exact .im (.junk v)
   | v=>exact .im (.v _)
   | ub b p q h1 h2=>exact .im (.ub b p q h1 h2)
   | _=>simp [noA] at hn
 | asl id n v hd h=>exact .asl id n v hd h
 | ptr id n i j v hd h=>exact .ptr id n i j v hd h
 | vw id n i j v hd h=>exact .vw id n i j v hd h
 | _=>simp [noA] at hn
theorem zv4 {st:Sto} {ι:Iota} {w:World} {A A':Addr→Prop} {v:Value} {t:T} (h:Rp st ι w A v t) (hn:noA1 t=true):Rp st ι w A' v t:=by
 cases t with
 | agg cs=>
   obtain⟨us,rfl,h1,h2⟩:=h.agg_inv;exact .agg us cs h1 fun j u c hu hc=>zW7 (h2 j u c hu hc) (Bk.1 hn c (BX hc))
 | clo f cs=>
   obtain⟨us,rfl,h1,h2⟩:=h.clo_inv;exact .clo f us cs h1 fun j u c hu hc=>zW7 (h2 j u c hu hc) (Bk.1 hn c (BX hc))
 | _=>exact zW7 h hn
theorem jJ6 {st:Sto} {ι:Iota} {w:World} {A A':Addr→Prop} {v:Value} {t:T} (h:Rp st ι w A v t) (hn:noA2 t=true):Rp st ι w A' v t:=by
 cases t with
 | tup cs=>
   obtain⟨us,rfl,h1,h2⟩:=h.tup_inv;exact .tup us cs h1 fun j u c hu hc=>zv4 (h2 j u c hu hc) (Bk.1 hn c (BX hc))
 | _=>exact zv4 h hn
structure CallOK (st:Sto) (ts ts':List T) (st1 st1':Sto) (r val:T) (wr:List (Nat×Ob)) (ρ ρ2:Nat→Option Nat) (B rd:List Nat):Prop where
 len:ts.length=ts'.length
 arg:∀ (i:Nat) (t t':T),ts[i]?=some t→ts'[i]?=some t'→Lt st (fun i=>get st1 i≠none) ρ B t t'
 o:LtO st st1 ρ B
 hB:∀ id∈B,id∈rd∧∀ id',get st1 id'≠none→ρ id'≠some id
 hk:∀ id' id,get st1 id'≠none→ρ id'=some id→get wr id≠none
 wk:∀ id ob,get wr id=some ob→id∈rd∧(ob = .dead∨
  (∃ k xs fz,ob = .arr k xs true∧get st id=some (.arr k xs fz)∧ρ2 id=none∧∀ id',get st1 id'≠none→ρ id'≠some id)∨
  (∃ k xs2 fz2 id' xs' fz',ob = .arr k xs2 fz2∧ρ2 id=some id'∧get st1' id'=some (.arr k xs' fz')∧xs'.length=xs2.length∧(fz'=true→fz2=true)∧(∀ x∈xs2,x.cells.length=k)∧
    (∀ (j:Nat) (c c':T),(flat xs')[j]?=some c→(flat xs2)[j]?=some c'→Lt st1' (fun i=>get wr i≠none∧ρ2 i≠none) ρ2 [] c c')∧
    (get st id=none∨(ρ id'=some id∧get st1 id'≠none))))
 inj2:∀ i1 i2 id',get wr i1≠none→get wr i2≠none→ρ2 i1=some id'→ρ2 i2=some id'→i1=i2
 vl:Lt st1' (fun i=>get wr i≠none∧ρ2 i≠none) ρ2 [] r val
 froz:(∀ id∈B,∃ k xs,get (wr++st) id=some (.arr k xs true))∨(noA2 val=true∧∀ id k xs fz,get wr id=some (.arr k xs fz)→ρ2 id≠none→∀ c∈flat xs,noA1 c=true)
theorem CallOK.alike {st st2:Sto} {ts ts':List T} {st1 st1':Sto} {r val:T} {wr:List (Nat×Ob)} {ρ ρ2:Nat→Option Nat} {B rd:List Nat} (h:CallOK st ts ts' st1 st1' r val wr ρ ρ2 B rd) (ha:we rd st st2) :
 CallOK st2 ts ts' st1 st1' r val wr ρ ρ2 B rd:=by
 have hBa:we B st st2:=fun id hid=>ha id (h.hB id hid).1;refine⟨h.len,fun i t t' h1 h2=>(h.arg i t t' h1 h2).alike hBa,⟨fun id' k xs' fz' hg=>?_,h.o.inj,fun id' es hg=>by
  obtain⟨id,h1,h2⟩:=h.o.mp id' es hg;have h8:=h.hk id' id (by rw[hg];simp) h1;cases hw:get wr id with
  | none=>exact absurd hw h8
  | some ob=>exact⟨id,h1,by rw[← ha id (h.wk id ob hw).1];exact h2⟩,h.o.nf⟩,h.hB,h.hk,fun id ob hg=>?_,h.inj2,h.vl,?_⟩
 ·rcases h.o.ob id' k xs' fz' hg with h1 | ⟨id,xs,fz,h1,h2,h3,h4,h5,h6,h7⟩
  ·exact .inl h1
  ·have hid:id∈rd:=by
    have h8:=h.hk id' id (by rw[hg];simp) h1;cases hw:get wr id with
    | none=>exact absurd hw h8
    | some ob=>exact (h.wk id ob hw).1
   exact .inr ⟨id,xs,fz,h1,by rw[← ha id hid];exact h2,h3,h4,h5,fun j c c' h8 h9=>(h6 j c c' h8 h9).alike hBa,h7⟩
 ·obtain⟨h1,h2⟩:=h.wk id ob hg;refine⟨h1,?_⟩;rcases h2 with h2 | ⟨k,xs,fz,h2,h3,h4⟩ | ⟨k,xs2,fz2,id',xs',fz',h2,h3,h4,h5,h6,h7,h8,h9⟩
  ·exact .inl h2
  ·exact .inr (.inl ⟨k,xs,fz,h2,by rw[← ha id h1];exact h3,h4⟩)
  ·exact .inr (.inr ⟨k,xs2,fz2,id',xs',fz',h2,h3,h4,h5,h6,h7,h8,by rw[← ha id h1];exact h9⟩)
 ·rcases h.froz with h1 | h1
  ·left
   intro id hid;obtain⟨k,xs,h2⟩:=h1 id hid;refine⟨k,xs,?_⟩;rw[zZ] at h2 ⊢
   rw[← hBa id hid];exact h2
  ·exact .inr h1
def zW8 (ι ι1:Iota) (wr:List (Nat×Ob)) (ρ2:Nat→Option Nat):Iota:=fun id=>
 match get wr id,ρ2 id with
 | some _,some id'=>ι1 id'
 | _,_=>ι id
theorem CallOK.does {P:Program} {e:Env} {s:St} {f:FuncId} {ts ts':List T} {st1 st1':Sto} {r val:T} {wr:List (Nat×Ob)} {ρ ρ2:Nat→Option Nat} {B rd:List Nat} (hc:CallOK s.st ts ts' st1 st1' r val wr ρ ρ2 B rd)
 (hsp:Spc P f ts' st1 r st1') {ι:Iota} {a:Act} {w:World} (hR:Rel e s ι a w) (vals:Array Value) (hvals:vals.size=ts.length) (hrv:∀ (i:Nat) (v:Value) (t:T),vals[i]?=some v→ts[i]?=some t→Rp s.st ι w (Av e s.st ι w) v t) :
 Calls P f vals w fun en w'=>∃ v ι',en = .returned v∧Rel e ⟨s.fr,wr++s.st⟩ ι' a w'∧Rp (wr++s.st) ι' w' (Av e (wr++s.st) ι' w') v val:=by
 let ι1:Iota:=jw ι ρ
 let Bor:Addr→Prop:=fun x=>∃ id∈B,∃ k xs fz cap,get s.st id=some (.arr k xs fz)∧ι id=some (x.block,cap)∧x.off<(flat xs).length
 let S0:Addr→Prop:=fun x=>(Av e s.st ι w x∨Bor x)∧¬ zv3 st1 ι1 x.block
 let e0:=ZZ S0 w ts'.length st1 ι1
 have hhand:∀ b,zv3 st1 ι1 b→∃ id' id k xs' fz' xs fz c,get st1 id'=some (.arr k xs' fz')∧ρ id'=some id∧ι id=some (b,c)∧get s.st id=some (.arr k xs fz)∧xs.length=xs'.length∧(fz=true→fz'=true)∧(∀ x∈xs',x.cells.length=k):=by
  rintro b ⟨id',k,xs',fz',c,h1,h2⟩;rcases hc.o.ob id' k xs' fz' h1 with⟨q1,_⟩ | ⟨id,xs,fz,q1,q2,q3,q4,q5,_⟩
  ·simp [ι1,jw,q1] at h2
  ·simp only[ι1,jw,q1,Option.bind_some] at h2;exact⟨id',id,k,xs',fz',xs,fz,c,h1,q1,h2,q2,q3,q4,q5⟩
 have hA:∀ x,Av e s.st ι w x→Av e0 st1 ι1 w x:=by
  intro x hx;by_cases hh:zv3 st1 ι1 x.block
  ·obtain⟨id',id,k,xs',fz',xs,fz,c,h1,h2,h3,h4,h5,h6,h7⟩:=hhand _ hh;rcases hx with hx | ⟨q1,q2,q3⟩
   ·exfalso
    have q4:=hR.sS x hx;rcases hR.own id k xs fz _ _ h4 h3 with q5 | q5
    ·exact q4.2 q5
    ·omega
   ·refine .inr ⟨.inr hh,q2,fun i k2 x2 f2 cap hg hi=>?_⟩;rcases hc.o.ob i k2 x2 f2 hg with⟨p1,_⟩ | ⟨id2,xs2,fz2,p1,p2,p3,p4,p5,_⟩
    ·simp [ι1,jw,p1] at hi
    ·simp only[ι1,jw,p1,Option.bind_some] at hi;obtain⟨p6,p7⟩:=q3 id2 k2 xs2 fz2 cap p2 hi;refine⟨p4 p6,?_⟩;rw[qH p5,← p3,← qH (hR.ob id2 _ p2).1];exact p7
  ·exact .inl ⟨.inl hx,hh⟩
 have hBnot:∀ id∈B,∀ k xs fz b c,get s.st id=some (.arr k xs fz)→ι id=some (b,c)→¬ zv3 st1 ι1 b:=by
  intro id hid k xs fz b c hg hi hh;obtain⟨id',id2,k2,xs',fz',xs2,fz2,c2,h1,h2,h3,h4,_⟩:=hhand _ hh;have:=hR.inj id2 id _ _ _ _ _ _ b c2 c h4 hg h3 hi;subst this;exact (hc.hB id2 hid).2 id' (by rw[h1];simp) h2
 have hrp:∀ x y v,Lt s.st (fun i=>get st1 i≠none) ρ B x y→Rp s.st ι w (Av e s.st ι w) v x→Rp st1 ι1 w (Av e0 st1 ι1 w) v y:=by
  intro x y v hxy hv;refine hxy.rp hc.o hA (fun id k xs fz hb hg=>hR.hB hg fun b cap j hi hj=>?_) hv;exact .inl ⟨.inr ⟨id,hb,k,xs,fz,cap,hg,hi,hj⟩,hBnot id hb k xs fz b cap hg hi⟩
 have hent:Rel e0 ⟨ZY 0 ts',st1⟩ ι1 ⟨vals,[]⟩ w:=by
  refine⟨by show vals.size=ts'.length;rw[hvals,hc.len],rfl,fun t y hy=>?_,hc.o.orep hR hrp,?_,?_,fun _ _ _=>rfl,BZ _,?_,rfl,rfl,rfl,Goes.refl _ _,fun x hx=>⟨hx,fun u hu=>hu⟩,⟨fun id es b c hg=>absurd hg (qT1 hsp.2.1 id es),fun id id' es es' b c c' hg=>absurd hg (qT1 hsp.2.1 id es)⟩⟩
  ·rw[qa2] at hy;simp only[Nat.zero_le,if_true,Nat.sub_zero] at hy;have ht:t<ts'.length:=(List.getElem?_eq_some_iff.1 hy).1;have ht1:t<ts.length:=by rw[hc.len];exact ht
   have ht2:t<vals.size:=by omega
   have h1:=hc.arg t ts[t] y (by simp [ht1]) hy;refine hrp _ _ _ h1 ?_;have:=hrv t vals[t] ts[t] (by simp [ht2]) (by simp [ht1]);simpa [Dq,ht2] using this
  ·intro i i' k xs fz k' xs' fz' b c c' g1 g2 e1 e2;rcases hc.o.ob i k xs fz g1 with⟨q1,_⟩ | ⟨id,x1,f1,q1,q2,_⟩
   ·simp [ι1,jw,q1] at e1
   ·rcases hc.o.ob i' k' xs' fz' g2 with⟨p1,_⟩ | ⟨id',x2,f2,p1,p2,_⟩
    ·simp [ι1,jw,p1] at e2
    ·simp only[ι1,jw,q1,p1,Option.bind_some] at e1 e2;have:=hR.inj id id' _ _ _ _ _ _ b c c' q2 p2 e1 e2;subst this;exact hc.o.inj i i' id (by show get st1 i≠none;rw[g1];simp) (by show get st1 i'≠none;rw[g2];simp) q1 p1
  ·intro i k xs fz b c g1 e1;exact .inl ⟨i,k,xs,fz,c,g1,e1⟩
  ·rintro x ⟨hx,hh⟩;refine⟨?_,hh⟩;rcases hx with hx | ⟨id,_,k,xs,fz,cap,hg,hi,_⟩
   ·exact Av.lt hR hx
   ·exact hR.blk hg hi
 refine (hsp.2.2 S0 ι1 w vals hent).mono ?_;rintro en w' ⟨v,ι1',rfl,hp⟩
 let e1:=ZZ S0 w 1 st1 ι1
 have hpk:∀ b,b<w.heap.size→¬ zv3 st1 ι1 b→w'.heap[b]?=w.heap[b]?:=hp.keep;have hps:w.heap.size≤w'.heap.size:=hp.hs;have hAe:∀ st ι w x,Av e0 st ι w x↔Av e1 st ι w x:=fun _ _ _ _=>Iff.rfl;have hstab:∀ x,Av e0 st1 ι1 w x→Av e1 st1' ι1' w' x∧∀ u,w.cell? x=some u→w'.cell? x=some u:=hp.stab
 let ι2:Iota:=zW8 ι ι1' wr ρ2
 have kinds:∀ id k xs2 fz2,get (wr++s.st) id=some (.arr k xs2 fz2)→
  (ι2 id=ι id∧(∃ fz,get s.st id=some (.arr k xs2 fz)∧(fz=true→fz2=true))∧∀ id',get st1 id'≠none→ρ id'≠some id)∨
  (∃ id' xs' fz',ρ2 id=some id'∧get wr id=some (.arr k xs2 fz2)∧ι2 id=ι1' id'∧get st1' id'=some (.arr k xs' fz')∧xs'.length=xs2.length∧(fz'=true→fz2=true)∧(∀ x∈xs2,x.cells.length=k)∧
    (∀ (j:Nat) (c c':T),(flat xs')[j]?=some c→(flat xs2)[j]?=some c'→Lt st1' (fun i=>get wr i≠none∧ρ2 i≠none) ρ2 [] c c')∧
    (get s.st id=none∨(ρ id'=some id∧get st1 id'≠none))):=by
  intro id k xs2 fz2 hg;rw[zZ] at hg;cases hw:get wr id with
  | none=>
    rw[hw] at hg;simp only[Option.none_or] at hg;exact .inl ⟨by simp [ι2,zW8,hw],⟨fz2,hg,fun h=>h⟩,fun id' h1 h2=>hc.hk id' id h1 h2 hw⟩
  | some ob=>
    rw[hw] at hg;simp only[Option.some_or,Option.some.injEq] at hg;subst hg;obtain⟨_,h2⟩:=hc.wk id _ hw;rcases h2 with h2 | ⟨k',xs,fz,h2,h3,h4,h5⟩ | ⟨k',x2,f2,id',xs',fz',h2,h3,h4,h5,h6,h7,h8,h9⟩
    ·cases h2
    ·injection h2 with q1 q2 q3;subst q1 q2 q3;exact .inl ⟨by simp [ι2,zW8,hw,h4],⟨fz,h3,fun _=>rfl⟩,h5⟩
    ·injection h2 with q1 q2 q3;subst q1 q2 q3;exact .inr ⟨id',xs',fz',h3,rfl,by simp [ι2,zW8,hw,h3],h4,h5,h6,h7,h8,h9⟩
 have hstay:∀ id o,get (wr++s.st) id=some o→(∀ k xs fz,o≠.arr k xs fz)→o≠.dead→get s.st id=some o∧ι2 id=ι id:=by
  intro id o hg hna hnd;rw[zZ] at hg;cases hw:get wr id with
  | none=>
    rw[hw] at hg;simp only[Option.none_or] at hg;exact⟨hg,by simp [ι2,zW8,hw]⟩
  | some ob=>
    rw[hw] at hg;simp only[Option.some_or,Option.some.injEq] at hg;subst hg;obtain⟨_,h2⟩:=hc.wk id _ hw;rcases h2 with h2 | ⟨k',xs,fz,h2,_⟩ | ⟨k',x2,f2,id',xs',fz',h2,_⟩
    ·exact absurd h2 hnd
    ·exact absurd h2 (hna _ _ _)
    ·exact absurd h2 (hna _ _ _)
 have hmp2:∀ id es,get (wr++s.st) id=some (.mp es)→get s.st id=some (.mp es)∧ι2 id=ι id∧∀ b c,ι id=some (b,c)→w'.heap[b]?=w.heap[b]?:=by
  intro id es hg;obtain⟨h1,h2⟩:=hstay id _ hg (fun _ _ _ h=>by cases h) (fun h=>by cases h);refine⟨h1,h2,fun b c hi=>hpk b (hR.mlt h1 hi) fun hh=>?_⟩;obtain⟨id',id2,k2,xs',fz',xs2,fz2,c2,_,_,h3,h4,_⟩:=hhand _ hh;exact hR.mne h1 hi h4 h3 rfl
 have hnothand:∀ id k xs fz b c,get s.st id=some (.arr k xs fz)→ι id=some (b,c)→(∀ id',get st1 id'≠none→ρ id'≠some id)→¬ zv3 st1 ι1 b:=by
  intro id k xs fz b c hg hi hn hh;obtain⟨id',id2,k2,xs',fz',xs2,fz2,c2,h1,h2,h3,h4,_⟩:=hhand _ hh;have:=hR.inj id2 id _ _ _ _ _ _ b c2 c h4 hg h3 hi;subst this;exact hn id' (by rw[h1];simp) h2
 have hAv:∀ x,Av e s.st ι w x→Av e (wr++s.st) ι2 w' x:=by
  intro x hx;have hst:=(hstab x (hA x hx)).1;rcases hx with hx | ⟨q1,q2,q3⟩
  ·exact .inl hx
  ·refine .inr ⟨q1,EQ q2 hps,fun id k xs2 fz2 cap hg hi=>?_⟩;rcases kinds id k xs2 fz2 hg with⟨k1,⟨fz,k2,k3⟩,_⟩ | ⟨id',xs',fz',k1,_,k2,k3,k4,k5,k6,_⟩
   ·rw[k1] at hi;obtain⟨p1,p2⟩:=q3 id k xs2 fz cap k2 hi;exact⟨k3 p1,p2⟩
   ·rw[k2] at hi;rcases hst with hst | ⟨_,_,hst⟩
    ·exfalso
     have p1:=hp.sS x hst;rcases hp.own id' k xs' fz' _ _ k3 hi with p2 | p2
     ·exact p1.2 p2
     ·have:=p1.1;omega
    ·obtain⟨p1,p2⟩:=hst id' k xs' fz' cap k3 hi;refine⟨k5 p1,?_⟩;rw[qH k6,← k4,← qH (hp.ob id' _ k3).1];exact p2
 have hback0:∀ x y v,Lt st1' (fun i=>get wr i≠none∧ρ2 i≠none) ρ2 [] x y→Rp st1' ι1' w' (Av e1 st1' ι1' w') v x→Rp (wr++s.st) ι2 w' (Av e1 st1' ι1' w') v y:=by
  intro x y v hxy hv;refine hxy.rp0 (fun i hd=>?_) (fun i hd hr=>absurd hr hd.2) (fun i id k xs' fz' hd hr hg=>?_) (fun i id es hd hr hg=>?_) (fun _ h=>h) (fun _ _ _ _ h=>by simp at h) hv
  ·rw[zZ];cases hw:get wr i with
   | none=>exact absurd hw hd.1
   | some ob=>simp
  ·rcases kinds i k xs' fz' hg with⟨k1,⟨fz,k2,k3⟩,k4⟩ | ⟨id',xs0,fz0,k1,_,k2,k3,k4,_⟩
   ·exfalso
    cases hw:get wr i with
    | none=>exact hd.1 hw
    | some ob=>
      obtain⟨_,h2⟩:=hc.wk i _ hw;rw[zZ,hw] at hg;simp only[Option.some_or,Option.some.injEq] at hg;subst hg;rcases h2 with h2 | ⟨k',xs,fz,h2,h3,h4,h5⟩ | ⟨k',x2,f2,id',xs',fz',h2,h3,h4,h5,h6,h7,h8,h9⟩
      ·cases h2
      ·rw[hr] at h4;cases h4
      ·rcases h9 with h9 | ⟨h9,h10⟩
       ·rw[k2] at h9;cases h9
       ·exact k4 id' h10 h9
   ·rw[hr] at k1;injection k1 with k1;subst k1
    exact⟨xs0,fz0,k3,k4,k2⟩
  ·exfalso
   obtain⟨h1,h2⟩:=hstay i _ hg (fun _ _ _ h=>by cases h) (fun h=>by cases h);rw[zZ] at hg;cases hw:get wr i with
   | none=>exact hd.1 hw
   | some ob=>
     rw[hw] at hg;simp only[Option.some_or,Option.some.injEq] at hg;subst hg;obtain⟨_,h2⟩:=hc.wk i _ hw;rcases h2 with h2 | ⟨k',xs,fz,h2,_⟩ | ⟨k',x2,f2,id',xs',fz',h2,_⟩ <;> cases h2
 have hAb:(∀ id∈B,∃ k xs,get (wr++s.st) id=some (.arr k xs true))→∀ x,Av e1 st1' ι1' w' x→Av e (wr++s.st) ι2 w' x:=by
  intro hfz x hx;rcases hx with⟨hx | ⟨id,hid,k,xs,fz,cap,hg,hi,hoff⟩,hnh⟩ | ⟨q1,q2,q3⟩
  ·exact hAv x hx
  ·refine .inr ⟨(hR.own id k xs fz _ _ hg hi).symm,EQ (hR.blk hg hi) hps,fun id2 k2 x2 f2 cap2 hg2 hi2=>?_⟩;rcases kinds id2 k2 x2 f2 hg2 with⟨k1,⟨fz0,k3,k4⟩,_⟩ | ⟨id',xs',fz',k1,_,k3,k4,_⟩
   ·rw[k1] at hi2;have:=hR.inj id2 id _ _ _ _ _ _ x.block cap2 cap k3 hg hi2 hi;subst this;obtain⟨k5,x5,h5⟩:=hfz id2 hid;rw[h5] at hg2;injection hg2 with hg2;injection hg2 with p1 p2 p3
    rw[hg] at k3;injection k3 with k3;injection k3 with r1 r2 r3
    exact⟨p3.symm,by rw[← r2];exact hoff⟩
   ·exfalso
    rw[k3] at hi2;rcases hp.own id' _ xs' fz' _ _ k4 hi2 with p2 | p2
    ·exact hnh p2
    ·have:=hR.blk hg hi;have:w.heap.size≤x.block:=p2;omega
  ·refine .inr ⟨?_,q2,fun id2 k2 x2 f2 cap2 hg2 hi2=>?_⟩
   ·rcases q1 with q1 | q1
    ·exact .inl (FZ hR.hs q1)
    ·obtain⟨id',id,k,xs',fz',xs,fz,c,h1,h2,h3,h4,_⟩:=hhand _ q1;exact (hR.own id k xs fz _ _ h4 h3).symm
   ·rcases kinds id2 k2 x2 f2 hg2 with⟨k1,⟨fz0,k3,k4⟩,k5⟩ | ⟨id',xs',fz',k1,_,k3,k4,k5,k6,k7,_⟩
    ·exfalso
     rw[k1] at hi2;rcases q1 with q1 | q1
     ·have:=hR.blk k3 hi2;have:w.heap.size≤x.block:=q1;omega
     ·exact hnothand id2 _ _ _ _ _ k3 hi2 k5 q1
    ·rw[k3] at hi2;obtain⟨p1,p2⟩:=q3 id' k2 xs' fz' cap2 k4 hi2;refine⟨k6 p1,?_⟩;rw[qH k7,← k5,← qH (hp.ob id' _ k4).1];exact p2
 have hgo:=hR.go (st':=wr++s.st) (ι':=ι2) (w':=w') ⟨fun id hd=>?_,fun id k' xs2 fz2 hg hd=>?_,fun id es hg hd=>⟨⟨es,(hmp2 id es hg).1⟩,(hmp2 id es hg).2.1⟩⟩ (fun x hx u hu=>(hstab x (hA x hx)).2 u hu) hAv ?_ ?_ ?_ ?_ hps hp.os hp.tape hp.output hmp2
 ·refine⟨v,ι2,rfl,hgo.1,?_⟩;have h0:=hp.fr 0 r (by simp [get]);have h1:Rp st1' ι1' w' (Av e1 st1' ι1' w') v r:=by simpa using h0
  have h2:=hback0 _ _ _ hc.vl h1;rcases hc.froz with hf | hf
  ·exact h2.mono (fun x hx=>⟨hAb hf x hx,fun u hu=>hu⟩) (Goes.refl _ _)
  ·exact jJ6 h2 hf.1
 ·rw[zZ];cases hw:get wr id with
  | none=>simpa using hd
  | some ob=>simp
 ·rcases kinds id k' xs2 fz2 hg with⟨k1,⟨fz,k2,k3⟩,_⟩ | ⟨id',xs',fz',k1,_,k2,k3,k4,k5,k6,k7,k8⟩
  ·exact⟨k',xs2,fz,k2,rfl,BZ _,fun _=>k1⟩
  ·rcases k8 with k8 | ⟨k8,k9⟩
   ·exact absurd k8 hd
   ·obtain⟨k0,x0,f0,r1,r2,r3,r4⟩:=hp.gs.arr id' k' xs' fz' k3 k9;rcases hc.o.ob id' k0 x0 f0 r1 with⟨q1,_⟩ | ⟨id2,xs,fz,q1,q2,q3,_⟩
    ·rw[k8] at q1;cases q1
    ·rw[k8] at q1;injection q1 with q1;subst q1
     refine⟨k0,xs,fz,q2,r2,oM,fun hl=>?_⟩;rw[k2,r4 oM];show jw ι ρ id'=ι id;simp [jw,k8]
 ·intro id o ho;cases o with
  | dead=>exact .inr fun _=>trivial
  | mp es=>
    obtain⟨h1,h2⟩:=hstay id _ ho (fun _ _ _ h=>by cases h) (fun h=>by cases h);exact .inl ⟨h1,h2,fun b c _ ⟨_,_,_,h⟩=>by cases h⟩
  | full i n g=>
    obtain⟨h1,h2⟩:=hstay id _ ho (fun _ _ _ h=>by cases h) (fun h=>by cases h);exact .inl ⟨h1,h2,fun b c _ ⟨_,_,_,h⟩=>by cases h⟩
  | arr k xs2 fz2=>
    rcases kinds id k xs2 fz2 ho with⟨k1,⟨fz,k2,k3⟩,k4⟩ | ⟨id',xs',fz',k1,kw,k2,k3,k4,k5,k6,k7,k8⟩
    ·refine .inr fun hm=>?_;have h0:=hR.ob id _ k2;refine⟨h0.1,?_⟩;rcases h0.2 with⟨g1,g2⟩ | ⟨b,cap,cur,E,g4,g5,g6,g7,g8,g9⟩
     ·exact .inl ⟨k1.trans g1,g2⟩
     ·refine .inr ⟨b,cap,cur,E,k1.trans g4,?_,g6,g7,g8,fun j u c hu hc'=>⟨(g9 j u c hu hc').1,hm _ _ (g9 j u c hu hc').2⟩⟩;rw[hpk b (hR.blk k2 g4) (hnothand id _ _ _ b cap k2 g4 k4)];exact g5
    ·refine .inr fun hm=>⟨k6,?_⟩;have h0:=hp.ob id' _ k3;rcases h0.2 with⟨g1,g2⟩ | ⟨b,cap,cur,E,g4,g5,g6,g7,g8,g9⟩
     ·subst g2;exact .inl ⟨k2.trans g1,DK (by simpa using k4.symm)⟩
     ·refine .inr ⟨b,cap,cur,E,k2.trans g4,g5,g6,oM,g8,fun j u c hu hc'=>?_⟩;have hfl:(flat xs2).length=(flat xs').length:=by rw[qH k6,qH h0.1,k4]
      have hj:j<(flat xs').length:=by rw[← hfl];exact (List.getElem?_eq_some_iff.1 hc').1
      have hcx:(flat xs')[j]?=some (flat xs')[j]:=by simp [hj]
      obtain⟨p1,p2⟩:=g9 j u _ hu hcx;have h2:=hback0 _ _ _ (k7 j _ c hcx hc') p2;refine⟨p1,?_⟩;rcases hc.froz with hf | hf
      ·exact h2.mono (fun x hx=>⟨hAb hf x hx,fun u hu=>hu⟩) (Goes.refl _ _)
      ·exact zv4 h2 (hf.2 id k xs2 fz2 kw (by rw[k1];simp) c (BX hc'))
 ·intro i i' k xs fz k' xs' fz' b c c' g1 g2 e1 e2;have mixed:∀ i k xs fz c i' id' xs'' fz'' k'' c',ι i=some (b,c)→get s.st i=some (.arr k xs fz)→(∀ id',get st1 id'≠none→ρ id'≠some i)→ι1' id'=some (b,c')→get st1' id'=some (.arr k'' xs'' fz'')→i=i':=by
   intro i k xs fz c i' id' xs'' fz'' k'' c' h1 h2 h3 h4 h5
   exfalso
   rcases hp.own id' _ _ _ _ _ h5 h4 with p | p
   ·exact hnothand i _ _ _ _ _ h2 h1 h3 p
   ·have:=hR.blk h2 h1;have:w.heap.size≤b:=p;omega
  rcases kinds i k xs fz g1 with⟨k1,⟨f1,k2,k3⟩,k4⟩ | ⟨id1,x1,f1,k1,kw1,k2,k3,_⟩
  ·rcases kinds i' k' xs' fz' g2 with⟨m1,⟨f2,m2,m3⟩,m4⟩ | ⟨id2,x2,f2,m1,mw1,m2,m3,_⟩
   ·rw[k1] at e1;rw[m1] at e2;exact hR.inj i i' _ _ _ _ _ _ b c c' k2 m2 e1 e2
   ·rw[k1] at e1;rw[m2] at e2;exact mixed i _ _ _ c i' id2 _ _ _ c' e1 k2 k4 e2 m3
  ·rcases kinds i' k' xs' fz' g2 with⟨m1,⟨f2,m2,m3⟩,m4⟩ | ⟨id2,x2,f2,m1,mw1,m2,m3,_⟩
   ·rw[k2] at e1;rw[m1] at e2;exact (mixed i' _ _ _ c' i id1 _ _ _ c e2 m2 m4 e1 k3).symm
   ·rw[k2] at e1;rw[m2] at e2;have:=hp.inj id1 id2 _ _ _ _ _ _ b c c' k3 m3 e1 e2;subst this;exact hc.inj2 i i' id1 (by rw[kw1];simp) (by rw[mw1];simp) k1 m1
 ·intro i k xs fz b c g1 e1';rcases kinds i k xs fz g1 with⟨k1,⟨f1,k2,k3⟩,k4⟩ | ⟨id1,x1,f1,k1,kw1,k2,k3,_⟩
  ·rw[k1] at e1';exact hR.own i _ _ _ b c k2 e1'
  ·rw[k2] at e1';rcases hp.own id1 _ _ _ _ _ k3 e1' with p | p
   ·obtain⟨id',id,k,xs',fz',xs,fz,c,h1,h2,h3,h4,_⟩:=hhand _ p;exact hR.own id k xs fz _ _ h4 h3
   ·exact .inr (FZ hR.hs p)
 ·intro b hb hn;refine hpk b (EQ hb hR.hs) fun hh=>?_;obtain⟨id',id,k,xs',fz',xs,fz,c,h1,h2,h3,h4,_⟩:=hhand _ hh;rcases hR.own id k xs fz _ _ h4 h3 with p | p
  ·exact hn p
  ·omega
end Go.TL
