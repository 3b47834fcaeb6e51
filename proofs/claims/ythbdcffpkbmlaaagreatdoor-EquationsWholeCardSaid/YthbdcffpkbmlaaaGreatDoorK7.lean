/- A part of the proof: ZzU ZzS. -/
import Derived.Test.YthbdcffpkbmlaaaGreatDoorK6
namespace Go.TL
inductive RR where
 | tmp (t:Nat)
 | cell (t:Nat) (l:Option Nat)
def ql2 (P:Program):List ResultVar→Option (List RR)
 | []=>some []
 | .tmp t::r=>match ql2 P r with | some l=>some (.tmp t::l) | none=>none
 | .cell t ty::r=>match ldT P ty,ql2 P r with
   | some l,some rs=>some (.cell t l::rs)
   | _,_=>none
def resR (s:St):RR→Option (Prop×T)
 | .tmp t=>some (True,(get s.fr t).getD .junk)
 | .cell t l=>match ldR l s.st ((get s.fr t).getD .junk) with
   | some r=>some (r.side,r.val)
   | none=>none
def qa5 (s:St):List RR→Option (Prop×List T)
 | []=>some (True,[])
 | x::r=>match resR s x,qa5 s r with
   | some (p,t),some (q,l)=>some (p∧q,t::l)
   | _,_=>none
abbrev ROp.r (d:Nat) (o:RO):ROp:=⟨some d,none,o⟩
abbrev ROp.rt (d k:Nat) (o:RO):ROp:=⟨some d,some (k,true),o⟩
abbrev ROp.rf (d k:Nat) (o:RO):ROp:=⟨some d,some (k,false),o⟩
abbrev ROp.rn (o:RO):ROp:=⟨none,none,o⟩
def qE:RC→List (Nat×List Nat)
 | .reg id _ ks _=>[(id,ks)]
 | .seq a b=>qE a++qE b
 | .cond _ a b=>qE a++qE b
 | .scope a=>qE a
 | .block _ a=>qE a
 | .loop a=>qE a
 | .cut a=>qE a
 | _=>[]
def FnIR (P:Program) (f:FuncId) (n:Nat) (kss:List (Nat×List Nat)) (rc:RC) (rs:List RR):Prop:=
 ∃ fn c,P.funcs[f]?=some fn∧fn.body=some c∧goFn P f=true∧fn.ntmps=n∧rsvC P n kss c=some rc∧ql2 P fn.results.toList=some rs
def Qx (st0:Sto) (x:T) (st:Sto) (r:T) (st':Sto):Prop:=∀ e:Env,e.st0=st0→Le e ⟨[(0,x)],st⟩ ⟨[(0,r)],st'⟩
theorem Qx.les {st0:Sto} {x:T} {st:Sto} {r:T} {st':Sto} (h:∃ ρ B,LeS { S:=fun _=>False,base:=0,hnd:=fun _=>False,w0:=default,n:=1,st0:=st0 } ⟨[(0,x)],st⟩ ⟨[(0,r)],st'⟩ ρ B):Qx st0 x st r st':=by
 obtain⟨ρ,B,q⟩:=h;exact fun e he=>LeS.le ⟨q.o,q.fr,fun id hd=>q.hnd id (by simpa [he] using hd)⟩
def endR (st0:Sto) (rs:List RR) (r:T) (st':Sto):Ex→St→Prop
 | .exit _,_=>False
 | _,s=>match qa5 s rs with
   | some (p,l)=>p∧Qx st0 (tupT l) s.st r st'
   | none=>False
section
variable {P:Program}
theorem zY5 {s:St} {t:Nat} {ty:TypeId} {l:Option Nat} (h:ldT P ty=some l):resT P s (.cell t ty)=resR s (.cell t l):=by
 simp only[resT,resR];have:qr5 P s ty ((get s.fr t).getD .junk)=ldR l s.st ((get s.fr t).getD .junk):=by
  unfold qr5 ldR;rw[h];cases (get s.fr t).getD T.junk <;> rfl
 rw[this];cases ldR l s.st ((get s.fr t).getD .junk) <;> rfl
theorem WU {s:St}:∀ {l:List ResultVar} {rs:List RR},ql2 P l=some rs→Ko P s l=qa5 s rs
 | [],rs,h=>by simp only[ql2,Option.some.injEq] at h;subst h;rfl
 | .tmp t::r,rs,h=>by
   simp only[ql2] at h;split at h
   ·rename_i l hl;injection h with h;subst h;simp only[Ko,qa5,resT,resR,WU hl];cases qa5 s l <;> rfl
   ·cases h
 | .cell t ty::r,rs,h=>by
   simp only[ql2] at h;split at h
   ·rename_i l rs' h1 h2;injection h with h;subst h;simp only[Ko,qa5,zY5 h1,WU h2];cases resR s (.cell t l) <;> cases qa5 s rs' <;> rfl
   ·cases h
theorem jl (ids:List Nat) {f:FuncId} {n:Nat} {kss:List (Nat×List Nat)} {rc:RC} {rs:List RR} (h:FnIR P f n kss rc rs) (hm:P.follows .mixedOrders=true) {ts:List T} {st st':Sto} {r:T} (hn:ts.length≤n)
 (hw:∀ e:Env,e.n=n→e.st0=st→wpC P e kss (yO ids rc) ⟨ZY 0 ts,st⟩ (endR st rs r st')) (hnm:noMp st=true:=by rfl):Spc P f ts st r st':=by
 obtain⟨fn,c,h1,h2,h3,h4,h5,h6⟩:=h;subst h4;refine zf2 h1 h2 h3 hn (fun e he hst=>?_) hnm;refine (qt1 hm (yO ids rc) _ _ (hw e he hst) c (by rw[zw0,zQ9 c rc h5];exact he ▸ h5)).mono ?_;have key:∀ s,(match qa5 s rs with
  | some (p,l)=>p∧Qx st (tupT l) s.st r st'
  | none=>False)→(match Ko P s fn.results.toList with
  | some (p,l)=>p∧Le { e with n:=1 } ⟨[(0,tupT l)],s.st⟩ ⟨[(0,r)],st'⟩
  | none=>False):=by
  intro s hq;rw[WU h6];split
  ·rename_i p l hr;rw[hr] at hq;obtain⟨q1,q2⟩:=hq;exact⟨q1,q2 _ hst⟩
  ·rename_i hr;rw[hr] at hq;exact hq
 intro x s hq;cases x with
 | normal=>exact key s hq
 | ret=>exact key s hq
 | exit i=>exact hq
theorem zg2 (rc:RC):yO [] rc=rc:=by
 induction rc <;> simp_all [yO]
theorem Wh {f:FuncId} {n:Nat} {kss:List (Nat×List Nat)} {rc:RC} {rs:List RR} (h:FnIR P f n kss rc rs) (hm:P.follows .mixedOrders=true) {ts:List T} {st st':Sto} {r:T} (hn:ts.length≤n)
 (hw:∀ e:Env,e.n=n→e.st0=st→wpC P e kss rc ⟨ZY 0 ts,st⟩ (endR st rs r st')) (hnm:noMp st=true:=by rfl):Spc P f ts st r st':=
 jl [] h hm hn (fun e he hst=>by rw[zg2];exact hw e he hst) hnm
def imL:List T→Bool
 | []=>true
 | x::r=>imT x&&imL r
def imA:T→Bool
 | .agg cs=>imL cs
 | .clo _ cs=>imL cs
 | x=>imT x
def imAL:List T→Bool
 | []=>true
 | x::r=>imA x&&imAL r
def Kq:T→Bool
 | .tup ts=>imAL ts
 | x=>imA x
theorem qt2 {l:List T} (h:imL l=true):∀ x∈l,imT x=true:=by
 induction l with
 | nil=>simp
 | cons y r ih=>
   simp only[imL,Bq] at h;intro x hx;rcases Ck.1 hx with rfl | hx
   ·exact h.1
   ·exact ih h.2 x hx
theorem zC7 {l:List T} (h:imAL l=true):∀ x∈l,imA x=true:=by
 induction l with
 | nil=>simp
 | cons y r ih=>
   simp only[imAL,Bq] at h;intro x hx;rcases Ck.1 hx with rfl | hx
   ·exact h.1
   ·exact ih h.2 x hx
variable {st:Sto} {d:Nat→Prop} {ρ:Nat→Option Nat} {B:List Nat}
theorem Lt.of_imA {x:T} (h:imA x=true):Lt st d ρ B x x:=by
 have key:∀ cs:List T,imL cs=true→∀ (j:Nat) (c c':T),cs[j]?=some c→cs[j]?=some c'→Lt st d ρ B c c':=by
  intro cs hc j c c' h1 h2;rw[h1] at h2;injection h2 with h2;subst h2
  exact .im c (qt2 hc c (BX h1))
 cases x with
 | agg cs=>exact .agg cs cs rfl (key cs h)
 | clo f cs=>exact .clo f cs cs rfl (key cs h)
 | tup cs=>simp [imA,imT,imT0] at h
 | _=>exact .im _ h
theorem Lt.of_imTup {x:T} (h:Kq x=true):Lt st d ρ B x x:=by
 cases x with
 | tup cs=>
   refine .tup cs cs rfl fun j c c' h1 h2=>?_;rw[h1] at h2;injection h2 with h2;subst h2
   exact .of_imA (zC7 h c (BX h1))
 | _=>exact .of_imA h
theorem zY6 {st:Sto} {ρ:Nat→Option Nat} {B:List Nat}:LtO st [] ρ B:=⟨fun id' k xs' fz' h=>by simp [get] at h,fun i1 i2 id h=>by simp [get] at h,fun id' es h=>by simp [get] at h,fun id' i n g h=>by simp [get] at h⟩
theorem Qx.im {x:T} {st:Sto} (h:Kq x=true):Qx [] x st x []:=by
 refine .les ⟨fun _=>none,[],⟨zY6,fun t y hy=>?_,fun id hd=>by simp [get] at hd⟩⟩;simp only[get] at hy ⊢
 split at hy
 ·rename_i ht;subst ht;injection hy with hy;subst hy;simp only[if_true,Option.getD_some];exact .of_imTup h
 ·cases hy
theorem CallOK.im {st:Sto} {ts:List T} {r:T} {rd:List Nat} (h1:imAL ts=true) (h2:Kq r=true):CallOK st ts ts [] [] r r [] (fun _=>none) (fun _=>none) [] rd where
 len:=rfl
 arg:=fun i t t' h h'=>by rw[h] at h';injection h' with h';subst h';exact .of_imA (zC7 h1 t (BX h))
 o:=zY6
 hB:=fun id h=>by simp at h
 hk:=fun id' id h=>by simp [get] at h
 wk:=fun id ob h=>by simp [get] at h
 inj2:=fun i1 i2 id' h=>by simp [get] at h
 vl:=.of_imTup h2
 froz:=.inl fun id h=>by simp at h
theorem qT5.im {st:Sto} {fid:FuncId} {caps ts:List T} {r:T} (hs:Spc P fid (ts++caps) [] r []) (h1:imAL (ts++caps)=true) (h2:Kq r=true):qT5 P st (.clo fid caps) ts r [] []:=
 .inl ⟨fid,caps,_,_,_,r,_,_,_,rfl,hs,.im h1 h2⟩
end
end Go.TL
namespace Go.TL
inductive KF where
 | seq (b:RC)
 | block (id:Nat)
section
variable (P:Program) (e:Env) (kss:List (Nat×List Nat))
def kq (Q:Ex→St→Prop):List KF→Ex→St→Prop
 | []=>Q
 | .seq b::K=>seqQ (fun s=>wpC P e kss b s (kq Q K)) (kq Q K)
 | .block id::K=>zC3 id (kq Q K)
def W (Q:Ex→St→Prop) (rc:RC) (K:List KF) (fr:List (Nat×T)) (st:Sto):Prop:=wpC P e kss rc ⟨fr,st⟩ (kq P e kss Q K)
def X (Q:Ex→St→Prop) (x:Ex) (K:List KF) (fr:List (Nat×T)) (st:Sto):Prop:=kq P e kss Q K x ⟨fr,st⟩
def BR (Q:Ex→St→Prop) (t:T) (a b:RC) (K:List KF) (fr:List (Nat×T)) (st:Sto):Prop:=
 match t with
 | .v (.bool t)=>(t=true→W P e kss Q a K fr st)∧(t=false→W P e kss Q b K fr st)
 | .ub p q=>(p=true→W P e kss Q a K fr st)∧(q=true→W P e kss Q b K fr st)
 | _=>False
abbrev Acc:=List (List Nat×List Nat)
def R (Q:Ex→St→Prop) (rows:Option (List Nat)) (ks:List Nat) (K:List KF) (nid:Nat) (ops:List ROp) (F:XF) (st:Sto) (acc:Acc):Prop:=
 wpR P nid ops F st acc fun F st acc=>qM9 rows acc∧kq P e kss Q K .normal ⟨qa4 F ks,st⟩
def S1 (Q:Ex→St→Prop) (rows:Option (List Nat)) (ks:List Nat) (K:List KF) (r:Option Res) (d:Option Nat) (rd:List Nat) (nid:Nat) (ops:List ROp) (F:XF) (st:Sto) (acc:Acc):Prop:=
 match r with
 | some r=>r.side∧R P e kss Q rows ks K nid ops (putX F d (.p r.val)) (stUp st r.wr) (acc++[(rd,r.wr.map (·.1))])
 | none=>False
def C1 (Q:Ex→St→Prop) (rows:Option (List Nat)) (ks:List Nat) (K:List KF) (f:T) (xs:List T) (d:Option Nat) (nid:Nat) (ops:List ROp) (F:XF) (st:Sto) (acc:Acc):Prop:=
 ∃ val wr rd,qT5 P st f xs val wr rd∧R P e kss Q rows ks K nid ops (putX F d (.p val)) (stUp st wr) (acc++[(rd,wr.map (·.1))])
def G1 (Q:Ex→St→Prop) (rows:Option (List Nat)) (ks:List Nat) (K:List KF) (g:Option (List (Nat×Bool)×Prop)) (d:Option Nat) (o:RO) (nid nid':Nat) (ops:List ROp) (F:XF) (st:Sto) (acc:Acc):Prop:=
 match g with
 | none=>False
 | some (L,c)=>
   if zK o then ∃ val wr rd,(c→zv7 P F L st o val wr rd)∧
    ((wr=[]∧R P e kss Q rows ks K nid' ops (putX F d (.g L c val)) st (acc++[(rd,[])]))∨
     (c∧R P e kss Q rows ks K nid' ops (putX F d (.p val)) (stUp st wr) (acc++[(rd,wr.map (·.1))]))∨
     (¬ c∧R P e kss Q rows ks K nid' ops (putX F d (.p (.v undef))) st (acc++[(rd,[])])))
   else match doX F L st nid o with
    | some r=>(c→r.side)∧match r.wr with
      | []=>R P e kss Q rows ks K nid' ops (putX F d (.g L c r.val)) st (acc++[(nid::rdX F L o,[])])
      | q::qs=>(c→R P e kss Q rows ks K nid' ops (putX F d (.p r.val)) (stUp st (q::qs)) (acc++[(nid::rdX F L o,(q::qs).map (·.1))]))∧
         (¬ c→R P e kss Q rows ks K nid' ops (putX F d (.p (.v undef))) st (acc++[(nid::rdX F L o,[])]))
    | none=>¬ c∧R P e kss Q rows ks K nid' ops (putX F d (.p (.v undef))) st (acc++[([],[])])
def G2 (Q:Ex→St→Prop) (rows:Option (List Nat)) (ks:List Nat) (K:List KF) (r:Option Res) (L:List (Nat×Bool)) (c:Prop) (d:Option Nat) (rd:List Nat) (nid':Nat) (ops:List ROp) (F:XF) (st:Sto) (acc:Acc):Prop:=
 match r with
 | some r=>(c→r.side)∧match r.wr with
   | []=>R P e kss Q rows ks K nid' ops (putX F d (.g L c r.val)) st (acc++[(rd,[])])
   | q::qs=>(c→R P e kss Q rows ks K nid' ops (putX F d (.p r.val)) (stUp st (q::qs)) (acc++[(rd,(q::qs).map (·.1))]))∧
        (¬ c→R P e kss Q rows ks K nid' ops (putX F d (.p (.v undef))) st (acc++[(rd,[])]))
 | none=>¬ c∧R P e kss Q rows ks K nid' ops (putX F d (.p (.v undef))) st (acc++[([],[])])
def C2 (Q:Ex→St→Prop) (rows:Option (List Nat)) (ks:List Nat) (K:List KF) (L:List (Nat×Bool)) (c:Prop) (f:T) (xs:List T) (d:Option Nat) (nid':Nat) (ops:List ROp) (F:XF) (st:Sto) (acc:Acc):Prop:=
 ∃ val wr rd,(c→qT5 P st f xs val wr rd)∧
  ((wr=[]∧R P e kss Q rows ks K nid' ops (putX F d (.g L c val)) st (acc++[(rd,[])]))∨
   (c∧R P e kss Q rows ks K nid' ops (putX F d (.p val)) (stUp st wr) (acc++[(rd,wr.map (·.1))]))∨
   (¬ c∧R P e kss Q rows ks K nid' ops (putX F d (.p (.v undef))) st (acc++[(rd,[])])))
def E1 (Q:Ex→St→Prop) (rows:Option (List Nat)) (acc:Acc) (K:List KF) (fr:List (Nat×T)) (st:Sto):Prop:=qM9 rows acc∧X P e kss Q .normal K fr st
end
section
variable {P:Program} {e:Env} {kss:List (Nat×List Nat)} {Q:Ex→St→Prop} {K:List KF} {fr:List (Nat×T)} {st:Sto} {rows:Option (List Nat)} {ks:List Nat} {nid:Nat} {ops:List ROp} {F:XF} {acc:Acc}
theorem wW {rc:RC} {s:St} (h:W P e kss Q rc [] s.fr s.st):wpC P e kss rc s Q:=h
theorem jC3:W P e kss Q .skip K fr st=X P e kss Q .normal K fr st:=iR
theorem jC4 {i:Nat}:W P e kss Q (.exit i) K fr st=X P e kss Q (.exit i) K fr st:=iR
theorem jQ7:W P e kss Q .ret K fr st=X P e kss Q .ret K fr st:=iR
theorem W_le {a:RC} (fr':List (Nat×T)) (st':Sto) (hl:Le e ⟨fr,st⟩ ⟨fr',st'⟩) (h:W P e kss Q a K fr' st'):W P e kss Q (.cut a) K fr st:=⟨fun s=>s=⟨fr',st'⟩,fun ι a w hR=>⟨_,rfl,hl ι a w hR⟩,fun _ hs=>hs ▸ h⟩
theorem jY5 {a:RC} (st':Sto) (hl:Le e ⟨fr,st⟩ ⟨fr,st'⟩) (h:W P e kss Q a K fr st'):W P e kss Q (.cut a) K fr st:=W_le fr st' hl h
theorem zY7:W P e kss Q .stuck K fr st=False:=iR
theorem jQ8 {a b:RC}:W P e kss Q (.seq a b) K fr st=W P e kss Q a (.seq b::K) fr st:=iR
theorem zY8 {i:Nat} {a:RC}:W P e kss Q (.block i a) K fr st=W P e kss Q a (.block i::K) fr st:=iR
theorem jC5 {c:RV} {a b:RC}:W P e kss Q (.cond c a b) K fr st=BR P e kss Q (rv fr c) a b K fr st:=by
 show (match rv fr c with
  | .v (.bool t)=>(t=true→wpC P e kss a ⟨fr,st⟩ (kq P e kss Q K))∧(t=false→wpC P e kss b ⟨fr,st⟩ (kq P e kss Q K))
  | .ub p q=>(p=true→wpC P e kss a ⟨fr,st⟩ (kq P e kss Q K))∧(q=true→wpC P e kss b ⟨fr,st⟩ (kq P e kss Q K))
  | _=>False)=_
 generalize rv fr c=x;cases x <;> first | rfl | (rename_i v;cases v <;> rfl)
theorem zY9 {t:Bool} {a b:RC}:BR P e kss Q (.v (.bool t)) a b K fr st=((t=true→W P e kss Q a K fr st)∧(t=false→W P e kss Q b K fr st)):=iR
theorem jQ9 {p q:Bool} {a b:RC}:BR P e kss Q (.ub p q) a b K fr st=((p=true→W P e kss Q a K fr st)∧(q=true→W P e kss Q b K fr st)):=iR
theorem zZ0 {a:RC}:W P e kss Q (.scope a) K fr st=W P e kss Q a K fr st:=iR
theorem jR0 {id:Nat} {l:List ROp}:W P e kss Q (.reg id rows ks l) K fr st=R P e kss Q rows ks K ((id+1)*4096) l (entX fr) st []:=iR
theorem jR1 {x:Ex}:X P e kss Q x [] fr st=Q x ⟨fr,st⟩:=iR
theorem jR2 {b:RC}:X P e kss Q .normal (.seq b::K) fr st=W P e kss Q b K fr st:=iR
theorem qN0 {i:Nat} {b:RC}:X P e kss Q (.exit i) (.seq b::K) fr st=X P e kss Q (.exit i) K fr st:=iR
theorem zg3 {b:RC}:X P e kss Q .ret (.seq b::K) fr st=X P e kss Q .ret K fr st:=iR
theorem zZ1 {i:Nat}:X P e kss Q .normal (.block i::K) fr st=X P e kss Q .normal K fr st:=iR
theorem qt3 {i:Nat}:X P e kss Q .ret (.block i::K) fr st=X P e kss Q .ret K fr st:=iR
theorem ql3 {i j:Nat}:X P e kss Q (.exit i) (.block j::K) fr st=if i=j then X P e kss Q .normal K fr st else X P e kss Q (.exit i) K fr st:=iR
theorem jR3:R P e kss Q rows ks K nid [] F st acc=E1 P e kss Q rows acc K (qa4 F ks) st:=iR
theorem zZ2:E1 P e kss Q none acc K fr st=X P e kss Q .normal K fr st:=by simp [E1,qM9]
theorem zZ3 {l:List Nat}:E1 P e kss Q (some l) acc K fr st=(jv6 l acc=true∧X P e kss Q .normal K fr st):=iR
theorem jY6 {d:Option Nat} {o:RO} (hc:zK o=false):R P e kss Q rows ks K nid (⟨d,none,o⟩::ops) F st acc=S1 P e kss Q rows ks K (doX F [] st nid o) d (nid::rdX F [] o) (nid+4) ops F st acc:=by
 unfold R S1;simp only[wpR,hc]
 rfl
def O1 (P:Program) (e:Env) (kss:List (Nat×List Nat)) (Q:Ex→St→Prop) (rows:Option (List Nat)) (ks:List Nat) (K:List KF) (b:Bool) (d:Option Nat) (o:RO) (nid:Nat) (ops:List ROp) (F:XF) (st:Sto) (acc:Acc):Prop:=
 match b with
 | true=>R P e kss Q rows ks K nid (⟨d,none,o⟩::ops) F st acc
 | false=>S1 P e kss Q rows ks K (doX F [] st nid o) d (nid::rdX F [] o) (nid+4) ops F st acc
theorem R_op {d:Option Nat} {o:RO}:R P e kss Q rows ks K nid (⟨d,none,o⟩::ops) F st acc=O1 P e kss Q rows ks K (zK o) d o nid ops F st acc:=by
 cases h:zK o with
 | false=>rw[jY6 h];rfl
 | true=>rfl
theorem jR4 {d:Option Nat} {o:RO}:O1 P e kss Q rows ks K false d o nid ops F st acc=S1 P e kss Q rows ks K (doX F [] st nid o) d (nid::rdX F [] o) (nid+4) ops F st acc:=iR
theorem zZ4 {d:Option Nat} {f:RV} {xs:List RV}:O1 P e kss Q rows ks K true d (.call f xs) nid ops F st acc =
 (jP F [] (f::xs)=true∧C1 P e kss Q rows ks K (rhoX F [] f) (xs.map (rhoX F [])) d (nid+4) ops F st acc):=by
 unfold O1 R C1;simp only[wpR,zK,if_true,zv7,eq_iff_iff];constructor
 ·rintro ⟨val,wr,rd,⟨h1,h2⟩,h3⟩;exact⟨h1,val,wr,rd,h2,h3⟩
 ·rintro ⟨h1,val,wr,rd,h2,h3⟩;exact⟨val,wr,rd,⟨h1,h2⟩,h3⟩
theorem zZ5 {d:Option Nat} {t:Nat} {w:Bool} {o:RO}:R P e kss Q rows ks K nid (⟨d,some (t,w),o⟩::ops) F st acc=G1 P e kss Q rows ks K (labX F t w) d o nid (nid+4) ops F st acc:=by
 unfold R G1;simp only[wpR]
 rfl
theorem zZ6 {p:Prop} {val:T} {wr:List (Nat×Ob)} {d:Option Nat} {rd:List Nat}:S1 P e kss Q rows ks K (some ⟨p,val,wr⟩) d rd nid ops F st acc=(p∧R P e kss Q rows ks K nid ops (putX F d (.p val)) (stUp st wr) (acc++[(rd,wr.map (·.1))])):=iR
theorem jR5 {L:List (Nat×Bool)} {c:Prop} {d:Option Nat} {o:RO} {nid':Nat} (hc:zK o=false):G1 P e kss Q rows ks K (some (L,c)) d o nid nid' ops F st acc=G2 P e kss Q rows ks K (doX F L st nid o) L c d (nid::rdX F L o) nid' ops F st acc:=by
 unfold G1 G2;simp only[hc]
 rfl
def O2 (P:Program) (e:Env) (kss:List (Nat×List Nat)) (Q:Ex→St→Prop) (rows:Option (List Nat)) (ks:List Nat) (K:List KF) (b:Bool) (L:List (Nat×Bool)) (c:Prop) (d:Option Nat) (o:RO) (nid nid':Nat) (ops:List ROp) (F:XF) (st:Sto) (acc:Acc):Prop:=
 match b with
 | true=>G1 P e kss Q rows ks K (some (L,c)) d o nid nid' ops F st acc
 | false=>G2 P e kss Q rows ks K (doX F L st nid o) L c d (nid::rdX F L o) nid' ops F st acc
theorem jR6 {L:List (Nat×Bool)} {c:Prop} {d:Option Nat} {o:RO} {nid':Nat}:G1 P e kss Q rows ks K (some (L,c)) d o nid nid' ops F st acc=O2 P e kss Q rows ks K (zK o) L c d o nid nid' ops F st acc:=by
 cases h:zK o with
 | false=>rw[jR5 h];rfl
 | true=>rfl
theorem jR7 {L:List (Nat×Bool)} {c:Prop} {d:Option Nat} {o:RO} {nid':Nat}:O2 P e kss Q rows ks K false L c d o nid nid' ops F st acc=G2 P e kss Q rows ks K (doX F L st nid o) L c d (nid::rdX F L o) nid' ops F st acc:=iR
theorem zZ7 {L:List (Nat×Bool)} {c:Prop} {d:Option Nat} {f:RV} {xs:List RV} {nid':Nat}:O2 P e kss Q rows ks K true L c d (.call f xs) nid nid' ops F st acc =
 (jP F L (f::xs)=true∧C2 P e kss Q rows ks K L c (rhoX F L f) (xs.map (rhoX F L)) d nid' ops F st acc∨¬ c∧jP F L (f::xs)=false∧C2 P e kss Q rows ks K L c (rhoX F L f) (xs.map (rhoX F L)) d nid' ops F st acc):=by
 unfold O2 G1 C2;simp only[zK,if_true,zv7,eq_iff_iff];cases hacc:jP F L (f::xs) with
 | true=>
   simp only[true_and,Bool.true_eq_false,false_and,and_false,or_false]
 | false=>
   simp only[EZ,false_and,true_and,false_or];constructor
   ·rintro ⟨val,wr,rd,h1,h2⟩;exact⟨h1,val,wr,rd,fun h=>absurd h h1,h2⟩
   ·rintro ⟨h1,val,wr,rd,h2,h3⟩;exact⟨val,wr,rd,h1,h3⟩
theorem zZ8 {L:List (Nat×Bool)} {c p:Prop} {val:T} {d:Option Nat} {rd:List Nat}:G2 P e kss Q rows ks K (some ⟨p,val,[]⟩) L c d rd nid ops F st acc=((c→p)∧R P e kss Q rows ks K nid ops (putX F d (.g L c val)) st (acc++[(rd,[])])):=iR
theorem qt4 {L:List (Nat×Bool)} {c:Prop} {d:Option Nat} {rd:List Nat}:G2 P e kss Q rows ks K none L c d rd nid ops F st acc=(¬ c∧R P e kss Q rows ks K nid ops (putX F d (.p (.v undef))) st (acc++[([],[])])):=iR
theorem jR8 {x y:T}:mrg true x y=x:=by rw[zX4];rfl
theorem jR9 {x y:T}:mrg false x y=y:=by rw[zX4];rfl
theorem jS0 {L:List (Nat×Bool)} {c p:Prop} {val:T} {q:Nat×Ob} {qs:List (Nat×Ob)} {d:Option Nat} {rd:List Nat}:G2 P e kss Q rows ks K (some ⟨p,val,q::qs⟩) L c d rd nid ops F st acc=((c→p)∧
 (c→R P e kss Q rows ks K nid ops (putX F d (.p val)) (stUp st (q::qs)) (acc++[(rd,(q::qs).map (·.1))]))∧(¬ c→R P e kss Q rows ks K nid ops (putX F d (.p (.v undef))) st (acc++[(rd,[])]))):=iR
theorem C1.im {fid:FuncId} {caps xs:List T} {r:T} {d:Option Nat} (hs:Spc P fid (xs++caps) [] r []) (h1:imAL (xs++caps)=true) (h2:Kq r=true)
 (h:R P e kss Q rows ks K nid ops (putX F d (.p r)) st (acc++[([],[])])):C1 P e kss Q rows ks K (.clo fid caps) xs d nid ops F st acc:=⟨r,[],[],.im hs h1 h2,h⟩
theorem C2.im {L:List (Nat×Bool)} {c:Prop} {fid:FuncId} {caps xs:List T} {r:T} {d:Option Nat} (hs:c→Spc P fid (xs++caps) [] r []) (h1:c→imAL (xs++caps)=true) (h2:Kq r=true)
 (h:R P e kss Q rows ks K nid ops (putX F d (.g L c r)) st (acc++[([],[])])):C2 P e kss Q rows ks K L c (.clo fid caps) xs d nid ops F st acc:=⟨r,[],[],fun hc=>.im (hs hc) (h1 hc) h2,.inl ⟨rfl,h⟩⟩
theorem zC8 {α:Type} {i:Nat}:TL.get ([]:List (Nat×α)) i=none:=iR
theorem zg4 {α:Type} {j i:Nat} {x:α} {r:List (Nat×α)}:TL.get ((j,x)::r) i=if j=i then some x else TL.get r i:=iR
theorem zg5 {d:Nat} {x:En}:putX F (some d) x=(d,x)::F:=iR
theorem zg6 {x:En}:putX F none x=F:=iR
def zZ9 (t:Nat) (x:Option En) (r:List (Nat×T)):List (Nat×T):=match x with
 | some (.p x)=>(t,x)::r
 | _=>r
theorem zg7:qa4 F []=[]:=iR
theorem qN1 {t:Nat} {r:List Nat}:qa4 F (t::r)=zZ9 t (TL.get F t) (qa4 F r):=by
 rw[qa4];unfold zZ9;generalize TL.get F t=x;cases x with
 | none=>rfl
 | some x=>cases x <;> rfl
theorem ja0 {t:Nat} {x:T} {r:List (Nat×T)}:zZ9 t (some (.p x)) r=(t,x)::r:=iR
theorem ja1 {t:Nat} {L:List (Nat×Bool)} {c:Prop} {x:T} {r:List (Nat×T)}:zZ9 t (some (.g L c x)) r=r:=iR
theorem qN2 {t:Nat} {r:List (Nat×T)}:zZ9 t none r=r:=iR
def rdE (L0:List (Nat×Bool)) (x:Option En):Option T:=
 match x with
 | none=>some .junk
 | some (.p x)=>some x
 | some (.g L _ x)=>if L.all (fun p=>L0.contains p) then some x else none
theorem jC6 {L:List (Nat×Bool)} {x:T}:accX F L (.k x)=some x:=iR
theorem ja2 {L:List (Nat×Bool)} {n:Nat}:accX F L (.t n)=rdE L (TL.get F n):=by
 unfold accX rdE;simp only;generalize TL.get F n=x;cases x with
 | none=>rfl
 | some x=>cases x <;> rfl
theorem jS1 {L:List (Nat×Bool)} {x:T}:rdE L (some (.p x))=some x:=iR
theorem zC9 {L:List (Nat×Bool)}:rdE L none=some .junk:=iR
theorem jS2 {L L0:List (Nat×Bool)} {c:Prop} {x:T}:rdE L0 (some (.g L c x))=if L.all (fun p=>L0.contains p) then some x else none:=iR
def labE (t:Nat) (w:Bool) (x:Option En):Option (List (Nat×Bool)×Prop):=
 match x with
 | some (.p (.v (.bool b)))=>some ([(t,w)],b=w)
 | some (.g L c (.v (.bool b)))=>some ((t,w)::L,c∧b=w)
 | some (.g L c (.v x))=>some ((t,w)::L,c∧x = .bool w)
 | _=>none
theorem ja3 {t:Nat} {w:Bool}:labX F t w=labE t w (TL.get F t):=by
 unfold labX labE;generalize TL.get F t=x;cases x with
 | none=>rfl
 | some x=>cases x with
   | p x=>cases x <;> first | rfl | (rename_i v;cases v <;> rfl)
   | g L c x=>cases x <;> first | rfl | (rename_i v;cases v <;> rfl)
theorem jC7 {t:Nat} {w b:Bool}:labE t w (some (.p (.v (.bool b))))=some ([(t,w)],b=w):=iR
theorem jC8 {t:Nat} {w:Bool} {L:List (Nat×Bool)} {c:Prop}:labE t w (some (.g L c (.v undef)))=some ((t,w)::L,c∧undef = .bool w):=iR
theorem jC9 {t:Nat} {w b:Bool} {L:List (Nat×Bool)} {c:Prop}:labE t w (some (.g L c (.v (.bool b))))=some ((t,w)::L,c∧b=w):=iR
def on1 (x:Option T) (f:T→Option Res):Option Res:=match x with | some x=>f x | none=>none
def on2 (x y:Option T) (f:T→T→Option Res):Option Res:=match x,y with | some x,some y=>f x y | _,_=>none
theorem zD0 {x:T} {f:T→Option Res}:on1 (some x) f=f x:=iR
theorem zD1 {x y:T} {f:T→T→Option Res}:on2 (some x) (some y) f=f x y:=iR
theorem WV {L:List (Nat×Bool)} {o:RO} {x:RV} {f:T→Option Res} (hp:∀ c a b,o≠.pick c a b) (h1:o.rvs=[x]) (h2:∀ ρ,rT o ρ st nid=f (ρ x)):doX F L st nid o=on1 (accX F L x) f:=by
 unfold doX;split
 ·exact absurd rfl (hp _ _ _)
 ·rw[h1,h2];simp only[jP,Bool.and_true,rhoX];cases accX F L x <;> simp [on1]
theorem zw1 {L:List (Nat×Bool)} {o:RO} {x y:RV} {f:T→T→Option Res} (hp:∀ c a b,o≠.pick c a b) (h1:o.rvs=[x,y]) (h2:∀ ρ,rT o ρ st nid=f (ρ x) (ρ y)):doX F L st nid o=on2 (accX F L x) (accX F L y) f:=by
 unfold doX;split
 ·exact absurd rfl (hp _ _ _)
 ·rw[h1,h2];simp only[jP,Bool.and_true,rhoX];cases accX F L x <;> cases accX F L y <;> simp [on2]
def boxR (st:Sto) (nid:Nat) (z:T):Option Res:=some ⟨TL.get st nid=none∧jA st z.cells,.ptr nid 1 0 0,[(nid,.arr z.cells.length [z] false)]⟩
theorem jD0 {L:List (Nat×Bool)} {x:RV}:doX F L st nid (.mv x)=on1 (accX F L x) ret:=WV (by intros;simp) rfl fun _=>rfl
theorem ja4 {L:List (Nat×Bool)} {z:T}:doX F L st nid (.new z)=boxR st nid z:=by simp [doX,RO.rvs,jP,rT,boxR]
theorem ja5 {L:List (Nat×Bool)} {x:RV}:doX F L st nid (.box x)=on1 (accX F L x) (boxR st nid):=WV (by intros;simp) rfl fun _=>rfl
theorem jD1 {L:List (Nat×Bool)} {l:Option Nat} {x:RV}:doX F L st nid (.ld l x)=on1 (accX F L x) (ldR l st):=WV (by intros;simp) rfl fun _=>rfl
theorem jD2 {L:List (Nat×Bool)} {n:Nat} {x y:RV}:doX F L st nid (.st n x y)=on2 (accX F L x) (accX F L y) (stR n st):=zw1 (by intros;simp) rfl fun _=>rfl
theorem jD3 {L:List (Nat×Bool)} {x:RV}:doX F L st nid (.nc x)=on1 (accX F L x) (kG st):=WV (by intros;simp) rfl fun _=>rfl
theorem ja6 {L:List (Nat×Bool)} {op:BinOp} {ib:Bool} {x y:RV}:doX F L st nid (.bin op ib x y)=on2 (accX F L x) (accX F L y) (binR op ib):=zw1 (by intros;simp) rfl fun _=>rfl
theorem jD4 {L:List (Nat×Bool)} {op:UnOp} {x:RV}:doX F L st nid (.un op x)=on1 (accX F L x) (unT op):=WV (by intros;simp) rfl fun _=>rfl
theorem ja7 {L:List (Nat×Bool)} {k:IntKind} {x:RV}:doX F L st nid (.cvI k x)=on1 (accX F L x) (cvIR k):=WV (by intros;simp) rfl fun _=>rfl
theorem zD2 {L:List (Nat×Bool)} {x:RV}:doX F L st nid (.cvSS x)=on1 (accX F L x) jt7:=WV (by intros;simp) rfl fun _=>rfl
theorem zD3 {L:List (Nat×Bool)} {x:RV}:doX F L st nid (.cvSB x)=on1 (accX F L x) zX2:=WV (by intros;simp) rfl fun _=>rfl
theorem zD4 {L:List (Nat×Bool)} {x:RV}:doX F L st nid (.cvBS x)=on1 (accX F L x) (zQ3 st):=WV (by intros;simp) rfl fun _=>rfl
theorem jD5 {L:List (Nat×Bool)} {k b:Nat} {z:T} {x y:RV}:doX F L st nid (.mk k b z x y)=on2 (accX F L x) (accX F L y) (mkR k b z st nid):=zw1 (by intros;simp) rfl fun _=>rfl
theorem jD6 {L:List (Nat×Bool)} {off:Nat} {x:RV}:doX F L st nid (.fa off x)=on1 (accX F L x) (faR off st):=WV (by intros;simp) rfl fun _=>rfl
theorem ja8 {L:List (Nat×Bool)} {off:Nat} {l:Option Nat} {x:RV}:doX F L st nid (.fld off l x)=on1 (accX F L x) (fldR off l):=WV (by intros;simp) rfl fun _=>rfl
theorem ja9 {L:List (Nat×Bool)} {k:Nat} {x y:RV}:doX F L st nid (.ixL k x y)=on2 (accX F L x) (accX F L y) (ixLR k st):=zw1 (by intros;simp) rfl fun _=>rfl
theorem jb0 {L:List (Nat×Bool)} {n k:Nat} {x y:RV}:doX F L st nid (.ixA n k x y)=on2 (accX F L x) (accX F L y) (ixAR n k st):=zw1 (by intros;simp) rfl fun _=>rfl
theorem jD7 {L:List (Nat×Bool)} {x y:RV}:doX F L st nid (.sx x y)=on2 (accX F L x) (accX F L y) sxR:=zw1 (by intros;simp) rfl fun _=>rfl
theorem jD8 {L:List (Nat×Bool)} {x:RV} {i:Nat}:doX F L st nid (.ex x i)=on1 (accX F L x) (fun x=>yv x i):=WV (by intros;simp) rfl fun _=>rfl
theorem zD5 {L:List (Nat×Bool)} {x:RV}:doX F L st nid (.lenS x)=on1 (accX F L x) zX3:=WV (by intros;simp) rfl fun _=>rfl
theorem zD6 {L:List (Nat×Bool)} {x:RV}:doX F L st nid (.lenL x)=on1 (accX F L x) (zf3 st):=WV (by intros;simp) rfl fun _=>rfl
theorem jb1 {L:List (Nat×Bool)} {k b:Nat} {str:Bool} {x y:RV}:doX F L st nid (.app k b str x y)=on2 (accX F L x) (accX F L y) (appR k b str st nid):=zw1 (by intros;simp) rfl fun _=>rfl
def jv7 (c a b:Option T):Option Res:=match c,a,b with
 | some (.v (.bool q)),some x,some y=>ret (mrg q x y)
 | _,_,_=>none
theorem zD7 {L:List (Nat×Bool)} {c a b:RV}:doX F L st nid (.pick c a b)=jv7 (accX F L c) (accX F (qT4 c true L) a) (accX F (qT4 c false L) b):=by
 simp only[doX];generalize accX F L c=x;generalize accX F (qT4 c true L) a=y;generalize accX F (qT4 c false L) b=z;unfold jv7;split
 ·rfl
 ·rename_i h;split
  ·exact absurd rfl (h _ _ _ rfl rfl)
  ·rfl
theorem qN3 {q:Bool} {x y:T}:jv7 (some (.v (.bool q))) (some x) (some y)=ret (mrg q x y):=iR
theorem jb2 {d:Nat} {b:Bool} {L:List (Nat×Bool)}:qT4 (.t d) b L=(d,b)::L:=iR
theorem jb3 {x:T} {b:Bool} {L:List (Nat×Bool)}:qT4 (.k x) b L=L:=iR
theorem jD9 {L:List (Nat×Bool)} {x:T}:rhoX F L (.k x)=x:=iR
theorem jE0 {L:List (Nat×Bool)} {n:Nat}:rhoX F L (.t n)=(rdE L (TL.get F n)).getD .junk:=by simp only[rhoX,ja2]
theorem rv_t {n:Nat}:rv fr (.t n)=(TL.get fr n).getD .junk:=iR
theorem rv_k {x:T}:rv fr (.k x)=x:=iR
theorem qN4 {L:List (Nat×Bool)}:jP F L []=true:=iR
theorem qt5 {L:List (Nat×Bool)} {x:RV} {l:List RV}:jP F L (x::l)=((accX F L x).isSome&&jP F L l):=iR
theorem jb4 {op:BinOp} {ib:Bool} {k:IntKind} {a b:Int}:binR op ib (.v (.int k a)) (.v (.int k b))=intT op k a b:=by simp [binR]
theorem jb5 {op:BinOp} {ib:Bool} {a b:ByteArray}:binR op ib (.v (.string a)) (.v (.string b))=strT op a b:=iR
theorem jb6 {a b:Bool}:binR .eql true (.v (.bool a)) (.v (.bool b))=retB (a==b):=iR
theorem jb7 {a b:Bool}:binR .neq true (.v (.bool a)) (.v (.bool b))=retB (a != b):=iR
theorem jb8 {k k':IntKind} {n:Int}:cvIR k (.v (.int k' n))=retI k (k.wrap n):=iR
theorem zD8 {q a b:Bool}:mrg q (.v (.bool a)) (.v (.bool b)) = .v (.bool (bif q then a else b)):=iR
theorem jb9 {q:Bool} {k:IntKind} {a b:Int}:mrg q (.v (.int k a)) (.v (.int k b)) = .v (.int k (bif q then a else b)):=by simp [mrg]
theorem jc0 {k k':IntKind} {ib:Bool} {a b:Int}:binR .shl ib (.v (.int k a)) (.v (.int k' b))=some ⟨0≤b,.v (.int k (shlI k a b)),[]⟩:=by simp [binR,qr6,intT]
theorem jc1 {k k':IntKind} {ib:Bool} {a b:Int}:binR .shr ib (.v (.int k a)) (.v (.int k' b))=some ⟨0≤b,.v (.int k (shrI k a b)),[]⟩:=by simp [binR,qr6,intT]
def jK9 (x:Option T) (l:Option (List T)):Option (List T):=match x,l with | some x,some l=>some (x::l) | _,_=>none
def allS (F:XF) (L:List (Nat×Bool)):List RV→Option (List T)
 | []=>some []
 | x::r=>jK9 (accX F L x) (allS F L r)
theorem zD9 {L:List (Nat×Bool)}:allS F L []=some []:=iR
theorem zg8 {L:List (Nat×Bool)} {x:RV} {r:List RV}:allS F L (x::r)=jK9 (accX F L x) (allS F L r):=iR
theorem qN5 {x:T} {l:List T}:jK9 (some x) (some l)=some (x::l):=iR
def onS (x:Option (List T)) (f:List T→Option Res):Option Res:=match x with | some l=>f l | none=>none
theorem zE0 {l:List T} {f:List T→Option Res}:onS (some l) f=f l:=iR
theorem zg9 {L:List (Nat×Bool)}:∀ (l:List RV),(jP F L l=true→allS F L l=some (l.map (rhoX F L)))∧(jP F L l=false→allS F L l=none)
 | []=>⟨fun _=>rfl,fun h=>by cases h⟩
 | x::r=>by
   obtain⟨h1,h2⟩:=zg9 (L:=L) r;simp only[jP,allS,List.map_cons,rhoX];cases hx:accX F L x with
   | none=>exact⟨fun h=>by simp at h,fun _=>rfl⟩
   | some y=>
     cases hr:jP F L r with
     | true=>rw[h1 hr];exact⟨fun _=>rfl,fun h=>by simp at h⟩
     | false=>rw[h2 hr];exact⟨fun h=>by simp at h,fun _=>rfl⟩
theorem zR0 {L:List (Nat×Bool)} {o:RO} {f:List T→Option Res} (hp:∀ c a b,o≠.pick c a b) (h2:∀ ρ,rT o ρ st nid=f (o.rvs.map ρ)):doX F L st nid o=onS (allS F L o.rvs) f:=by
 unfold doX;split
 ·exact absurd rfl (hp _ _ _)
 ·obtain⟨h3,h4⟩:=zg9 (F:=F) (L:=L) o.rvs;cases ha:jP F L o.rvs with
  | true=>rw[h3 ha,Aj rfl,h2];rfl
  | false=>rw[h4 ha];rfl
def bslR (k len:Nat) (st:Sto) (nid:Nat) (ts:List T):Option Res:=some ⟨TL.get st nid=none∧qs4 st ts∧JQ k ts,.asl nid len,[(nid,.arr k ts false)]⟩
theorem jc2 {L:List (Nat×Bool)} {k len:Nat} {xs:List RV}:doX F L st nid (.bsl k len xs)=onS (allS F L xs) (bslR k len st nid):=zR0 (o:=.bsl k len xs) (by intros;simp) fun ρ=>rfl
theorem jE1 {L:List (Nat×Bool)} {f:FuncId} {xs:List RV}:doX F L st nid (.mf f xs)=onS (allS F L xs) (fun ts=>ret (.clo f ts)):=zR0 (o:=.mf f xs) (by intros;simp) fun ρ=>rfl
theorem jE2 {L:List (Nat×Bool)} {xs:List RV}:doX F L st nid (.mn xs)=onS (allS F L xs) (qn2 minI):=zR0 (o:=.mn xs) (by intros;simp) fun ρ=>rfl
theorem jE3 {L:List (Nat×Bool)} {xs:List RV}:doX F L st nid (.mx xs)=onS (allS F L xs) (qn2 maxI):=zR0 (o:=.mx xs) (by intros;simp) fun ρ=>rfl
theorem zE1 {L:List (Nat×Bool)} {n:Nat} {x:RV}:doX F L st nid (.lenA n x)=on1 (accX F L x) (fun _=>retI .i64 n):=WV (by intros;simp) rfl fun _=>rfl
theorem jc3 {L:List (Nat×Bool)} {x:XO} {xs:List RV}:doX F L st nid (.ext x xs)=onS (allS F L xs) (extR x st nid):=zR0 (o:=.ext x xs) (by intros;simp) fun ρ=>rfl
def slZE (k:Nat) (st:Sto) (nid:Nat) (c:Option (Option Nat×List T)) (p:Prop):Option Res:=match c with | some _=>some ⟨TL.get st nid=none∧p,.asl nid 0,[(nid,.arr k [] false)]⟩ | none=>none
theorem jc4 {k:Nat} {a b c:T}:extR (.slZ k) st nid [a,b,c]=slZE k st nid (conT st a) (conS st a):=by
 simp only[extR,slZR,slZE];cases conT st a <;> rfl
theorem zh0 {k:Nat} {q:Option Nat×List T} {p:Prop}:slZE k st nid (some q) p=some ⟨TL.get st nid=none∧p,.asl nid 0,[(nid,.arr k [] false)]⟩:=iR
def zipP:List ((Nat×Nat)×RV)→List T→List ((Nat×Nat)×T)
 | p::r,t::ts=>(p.1,t)::zipP r ts
 | _,_=>[]
theorem zE2 {ts:List T}:zipP [] ts=[]:=iR
theorem zh1 {p:Nat×Nat} {x:RV} {r:List ((Nat×Nat)×RV)} {t:T} {ts:List T}:zipP ((p,x)::r) (t::ts)=(p,t)::zipP r ts:=iR
theorem qT7 {ρ:RV→T}:∀ (pl:List ((Nat×Nat)×RV)),zipP pl ((pl.map (·.2)).map ρ)=pl.map fun p=>(p.1,ρ p.2)
 | []=>rfl
 | p::r=>by simp only[List.map_cons,zipP,qT7 r]
def buildE (x:Option (List T)) (ts:List T) (st:Sto):Option Res:=match x with | some cs=>some ⟨qs4 st ts,.agg cs,[]⟩ | none=>none
theorem qt6 {cs ts:List T}:buildE (some cs) ts st=some ⟨qs4 st ts,.agg cs,[]⟩:=iR
theorem zh2 {L:List (Nat×Bool)} {z:List T} {pl:List ((Nat×Nat)×RV)}:doX F L st nid (.build z pl)=onS (allS F L (pl.map (·.2))) (fun ts=>buildE (qT2 z (zipP pl ts)) ts st):=by
 refine zR0 (o:=.build z pl) (by intros;simp) fun ρ=>?_;simp only[rT,RO.rvs,qT7,Gz];unfold buildE;have h:=qT7 (ρ:=ρ) pl;simp only[Gz] at h;rw[h];have:(pl.map fun p=>ρ p.2)=pl.map (ρ ∘ fun p=>p.2):=rfl;rw[this];cases qT2 z (pl.map fun p=>(p.1,ρ p.2)) <;> rfl
def optX (F:XF) (L:List (Nat×Bool)):Option RV→Option (Option T)
 | none=>some none
 | some x=>match accX F L x with | some y=>some (some y) | none=>none
def ownS (x:Option T):Option (Option T):=match x with | some y=>some (some y) | none=>none
theorem zh3 {L:List (Nat×Bool)}:optX F L none=some none:=iR
theorem zh4 {L:List (Nat×Bool)} {x:RV}:optX F L (some x)=ownS (accX F L x):=by unfold optX ownS;dsimp only
theorem zh5 {x:T}:ownS (some x)=some (some x):=iR
def on3 (x:Option T) (y z:Option (Option T)) (f:T→Option T→Option T→Option Res):Option Res:=match x,y,z with | some x,some y,some z=>f x y z | _,_,_=>none
theorem zE3 {x:T} {y z:Option T} {f:T→Option T→Option T→Option Res}:on3 (some x) (some y) (some z) f=f x y z:=iR
theorem jS3 {L:List (Nat×Bool)} {o:RO} {x:RV} {lo hi:Option RV} {f:T→Option T→Option T→Option Res} (hp:∀ c a b,o≠.pick c a b) (h1:o.rvs=x::(lo.toList++hi.toList)) (h2:∀ ρ,rT o ρ st nid=f (ρ x) (lo.map ρ) (hi.map ρ)) :
 doX F L st nid o=on3 (accX F L x) (optX F L lo) (optX F L hi) f:=by
 unfold doX;split
 ·exact absurd rfl (hp _ _ _)
 ·rw[h1,h2];unfold on3;cases lo <;> cases hi <;> simp only[Option.toList,CW,Cy,BW,jP,Bool.and_true,rhoX,optX,Option.map]
  ·cases accX F L x <;> simp
  ·rename_i a;cases accX F L x <;> cases accX F L a <;> simp
  ·rename_i a;cases accX F L x <;> cases accX F L a <;> simp
  ·rename_i a b;cases accX F L x <;> cases accX F L a <;> cases accX F L b <;> simp
theorem jc5 {L:List (Nat×Bool)} {x:RV} {lo hi:Option RV}:doX F L st nid (.slS x lo hi)=on3 (accX F L x) (optX F L lo) (optX F L hi) slSR:=jS3 (by intros;simp) rfl fun _=>rfl
theorem jc6 {L:List (Nat×Bool)} {k:Nat} {x:RV} {lo hi:Option RV}:doX F L st nid (.slL k x lo hi)=on3 (accX F L x) (optX F L lo) (optX F L hi) (slLR k st):=jS3 (by intros;simp) rfl fun _=>rfl
def ldO (l:Option Nat) (m i j:Nat) (o:Option Ob):Option Res:=match o with
 | some (.arr k xs _)=>some ⟨xs.length=m∧i<xs.length∧need l j≤k,WR l j (xs.getD i .junk).cells,[]⟩
 | _=>none
theorem jc7 {l:Option Nat} {id m i j:Nat}:ldR l st (.ptr id m i j)=ldO l m i j (TL.get st id):=by
 unfold ldR ldO;dsimp only;generalize TL.get st id=o;rcases o with _ | _ | ⟨k1,xs1,fz1⟩ <;> first | rfl | (cases fz1 <;> rfl)
theorem jc8 {l:Option Nat} {m i j k:Nat} {xs:List T} {fz:Bool}:ldO l m i j (some (.arr k xs fz))=some ⟨xs.length=m∧i<xs.length∧need l j≤k,WR l j (xs.getD i .junk).cells,[]⟩:=iR
theorem jE4 {l:Option Nat} {cs:List T}:ldR l st (.ip cs)=some ⟨need l 0≤cs.length,WR l 0 cs,[]⟩:=iR
def stO (n id m i j:Nat) (v:T) (st:Sto) (o:Option Ob):Option Res:=match o with
 | some (.arr k xs false)=>some ⟨xs.length=m∧i<xs.length∧v.cells.length=n∧j+n≤k∧WG (xs.getD i .junk) v∧jA st v.cells,.v undef,[(id,.arr k (xs.set i (repl (xs.getD i .junk) j v)) false)]⟩
 | _=>none
theorem jc9 {n id m i j:Nat} {v:T}:stR n st (.ptr id m i j) v=stO n id m i j v st (TL.get st id):=by
 unfold stR stO;dsimp only;generalize TL.get st id=o;rcases o with _ | _ | ⟨k1,xs1,fz1⟩ <;> first | rfl | (cases fz1 <;> rfl)
theorem jd0 {n id m i j k:Nat} {v:T} {xs:List T}:stO n id m i j v st (some (.arr k xs false))=some ⟨xs.length=m∧i<xs.length∧v.cells.length=n∧j+n≤k∧WG (xs.getD i .junk) v∧jA st v.cells,.v undef,[(id,.arr k (xs.set i (repl (xs.getD i .junk) j v)) false)]⟩:=iR
def vld (o:Option Ob) (n:Nat):Prop:=match o with | some (.arr _ xs _)=>xs.length=n | _=>False
theorem qN6 {id n:Nat}:zr st id n=vld (TL.get st id) n:=by
 unfold zr vld;generalize TL.get st id=o;rcases o with _ | _ | ⟨k1,xs1,fz1⟩ <;> first | rfl | (cases fz1 <;> rfl)
theorem jd1 {k n:Nat} {xs:List T} {fz:Bool}:vld (some (.arr k xs fz)) n=(xs.length=n):=iR
theorem jE5 {id n i j:Nat}:kG st (.ptr id n i j)=some ⟨zr st id n,.ptr id n i j,[]⟩:=iR
theorem jS4 {cs:List T}:kG st (.ip cs)=ret (.ip cs):=iR
theorem jE6 {f:FuncId} {cs:List T}:kG st (.clo f cs)=ret (.clo f cs):=iR
theorem jE7 {off id n i j:Nat}:faR off st (.ptr id n i j)=some ⟨zr st id n,.ptr id n i (j+off),[]⟩:=iR
theorem jS5 {off:Nat} {cs:List T}:faR off st (.ip cs)=some ⟨off≤cs.length,.ip (cs.drop off),[]⟩:=iR
theorem jd2 {off:Nat} {l:Option Nat} {cs:List T}:fldR off l (.agg cs)=some ⟨need l off≤cs.length,WR l off cs,[]⟩:=iR
theorem jE8 {k:Nat} {ik:IntKind} {n:Int} {xs:List T}:ixLR k st (.sl k xs) (.v (.int ik n))=some ⟨0≤n∧n<xs.length,.ip (xs.getD n.toNat .junk).cells,[]⟩:=by simp [ixLR]
def ixO (k id m:Nat) (n:Int) (o:Option Ob):Option Res:=match o with
 | some (.arr k' xs _)=>if k'=k then some ⟨xs.length=m∧0≤n∧n<m,.ptr id m n.toNat 0,[]⟩ else none
 | _=>none
theorem jd3 {k:Nat} {ik:IntKind} {n:Int} {id m:Nat}:ixLR k st (.asl id m) (.v (.int ik n))=ixO k id m n (TL.get st id):=by
 unfold ixLR ixO;dsimp only;generalize TL.get st id=o;rcases o with _ | _ | ⟨k1,xs1,fz1⟩ <;> first | rfl | (cases fz1 <;> rfl)
theorem jd4 {k id m:Nat} {n:Int} {xs:List T} {fz:Bool}:ixO k id m n (some (.arr k xs fz))=some ⟨xs.length=m∧0≤n∧n<m,.ptr id m n.toNat 0,[]⟩:=by simp [ixO]
def ixV (k id m lo len:Nat) (n:Int) (o:Option Ob):Option Res:=match o with
 | some (.arr k' xs _)=>if k'=k then some ⟨xs.length=m∧0≤n∧n<len,.ptr id m (lo+n.toNat) 0,[]⟩ else none
 | _=>none
theorem jE9 {k:Nat} {ik:IntKind} {n:Int} {id m lo len:Nat}:ixLR k st (.vw id m lo len) (.v (.int ik n))=ixV k id m lo len n (TL.get st id):=by
 unfold ixLR ixV;dsimp only;generalize TL.get st id=o;rcases o with _ | _ | ⟨k1,xs1,fz1⟩ <;> first | rfl | (cases fz1 <;> rfl)
theorem jd5 {k id m lo len:Nat} {n:Int} {xs:List T} {fz:Bool}:ixV k id m lo len n (some (.arr k xs fz))=some ⟨xs.length=m∧0≤n∧n<len,.ptr id m (lo+n.toNat) 0,[]⟩:=by simp [ixV]
theorem jd6 {len k:Nat} {ik:IntKind} {n:Int} {id m i j:Nat}:ixAR len k st (.ptr id m i j) (.v (.int ik n))=some ⟨0≤n∧n<len∧zr st id m,.ptr id m i (j+n.toNat*k),[]⟩:=iR
theorem jF0 {len k:Nat} {ik:IntKind} {n:Int} {cs:List T}:ixAR len k st (.ip cs) (.v (.int ik n))=some ⟨0≤n∧n<len,.ip (cs.drop (n.toNat*k)),[]⟩:=iR
theorem jF1 {s:ByteArray} {ik:IntKind} {n:Int}:sxR (.v (.string s)) (.v (.int ik n))=some ⟨0≤n∧n<s.size,.v (.int .u8 (s.data.toList.getD n.toNat 0).toNat),[]⟩:=iR
theorem zE4 {s:ByteArray}:zX3 (.v (.string s))=retI .i64 s.size:=iR
theorem zE5 {id m:Nat}:zf3 st (.asl id m)=some ⟨zr st id m,.v (.int .i64 m),[]⟩:=iR
theorem jd7 {id m lo len:Nat}:zf3 st (.vw id m lo len)=some ⟨zr st id m,.v (.int .i64 len),[]⟩:=iR
theorem jd8 {k:Nat} {xs:List T}:zf3 st (.sl k xs)=retI .i64 xs.length:=iR
theorem zE6:zf3 st (.v (.slice none 0 0))=retI .i64 0:=iR
theorem zE7 {s:ByteArray}:jt7 (.v (.string s))=ret (.v (.string s)):=iR
theorem zE8 {s:ByteArray}:zX2 (.v (.string s))=ret (.sl 1 (s.data.toList.map wi)):=iR
def jv8 (x:Option (Option Nat×List T)) (p:Prop):Option Res:=match x with
 | some (_,xs)=>some ⟨p∧∀ y∈xs,yp y=true,.v (.string ⟨(xs.map WH).toArray⟩),[]⟩
 | none=>none
theorem jd9 {x:T}:zQ3 st x=jv8 (conT st x) (conS st x):=by
 unfold zQ3 jv8;generalize conT st x=o;rcases o with _ | ⟨k,xs⟩ <;> rfl
theorem qN7 {k:Option Nat} {xs:List T} {p:Prop}:jv8 (some (k,xs)) p=some ⟨p∧∀ y∈xs,yp y=true,.v (.string ⟨(xs.map WH).toArray⟩),[]⟩:=iR
theorem jF2 {k:Nat} {xs:List T}:conT st (.sl k xs)=some (some k,xs):=iR
theorem je0:conT st (.v (.slice none 0 0))=some (none,[]):=iR
def conO (o:Option Ob):Option (Option Nat×List T):=match o with | some (.arr k xs _)=>some (some k,xs) | _=>none
theorem zw2 {id m:Nat}:conT st (.asl id m)=conO (TL.get st id):=by
 unfold conT conO;dsimp only;generalize TL.get st id=o;rcases o with _ | _ | ⟨k1,xs1,fz1⟩ <;> first | rfl | (cases fz1 <;> rfl)
def conV (lo len:Nat) (o:Option Ob):Option (Option Nat×List T):=match o with | some (.arr k xs _)=>some (some k,(xs.drop lo).take len) | _=>none
theorem jF3 {id m lo len:Nat}:conT st (.vw id m lo len)=conV lo len (TL.get st id):=by
 unfold conT conV;dsimp only;generalize TL.get st id=o;rcases o with _ | _ | ⟨k1,xs1,fz1⟩ <;> first | rfl | (cases fz1 <;> rfl)
theorem zE9 {k lo len:Nat} {xs:List T} {fz:Bool}:conV lo len (some (.arr k xs fz))=some (some k,(xs.drop lo).take len):=iR
theorem je1 {id m lo len:Nat}:conS st (.vw id m lo len)=zr st id m:=iR
def clrO (k:Nat) (z:T) (id m lo len:Nat) (o:Option Ob):Option Res:=match o with
 | some (.arr k' xs false)=>if k'=k then some ⟨xs.length=m∧0<len∧z.cells.length=k∧jA [] z.cells,.v (.tuple #[]),[(id,.arr k (xs.take lo++List.replicate len z++xs.drop (lo+len)) false)]⟩ else none
 | _=>none
theorem qN8 {k id m lo len:Nat} {z:T}:extR (.clr k z) st nid [.vw id m lo len]=clrO k z id m lo len (TL.get st id):=iR
theorem qt7 {k id m:Nat} {z:T}:extR (.clr k z) st nid [.asl id m]=clrO k z id m 0 m (TL.get st id):=iR
theorem zF0 {k id m lo len:Nat} {z:T} {xs:List T}:clrO k z id m lo len (some (.arr k xs false))=some ⟨xs.length=m∧0<len∧z.cells.length=k∧jA [] z.cells,.v (.tuple #[]),[(id,.arr k (xs.take lo++List.replicate len z++xs.drop (lo+len)) false)]⟩:=by simp [clrO]
def cpyO (k id m lo len:Nat) (c:Option (Option Nat×List T)) (p:Prop) (o:Option Ob):Option Res:=match c with
 | some (k2,ys)=>match o with
   | some (.arr k' xs false)=>if k'=k∧(k2=none∨k2=some k) then
      some ⟨xs.length=m∧lo<m∧p,.v (.int .i64 (min ys.length len:Nat)),[(id,.arr k (xs.take lo++ys.take (min ys.length len)++xs.drop (lo+min ys.length len)) false)]⟩ else none
   | _=>none
 | none=>none
theorem qN9 {k id m lo len:Nat} {y:T}:extR (.cpy k) st nid [.vw id m lo len,y]=cpyO k id m lo len (conT st y) (conS st y) (TL.get st id):=by
 simp only[extR,cpyR,partOf,cpyO];cases conT st y <;> rfl
theorem qt8 {k id m:Nat} {y:T}:extR (.cpy k) st nid [.asl id m,y]=cpyO k id m 0 m (conT st y) (conS st y) (TL.get st id):=by
 simp only[extR,cpyR,partOf,cpyO];cases conT st y <;> rfl
theorem zF1 {k id m lo len:Nat} {xs ys:List T} {p:Prop}:cpyO k id m lo len (some (some k,ys)) p (some (.arr k xs false))=some ⟨xs.length=m∧lo<m∧p,.v (.int .i64 (min ys.length len:Nat)),[(id,.arr k (xs.take lo++ys.take (min ys.length len)++xs.drop (lo+min ys.length len)) false)]⟩:=by simp [cpyO]
theorem zh6 {k id m lo len:Nat} {xs ys:List T} {p:Prop}:cpyO k id m lo len (some (none,ys)) p (some (.arr k xs false))=some ⟨xs.length=m∧lo<m∧p,.v (.int .i64 (min ys.length len:Nat)),[(id,.arr k (xs.take lo++ys.take (min ys.length len)++xs.drop (lo+min ys.length len)) false)]⟩:=by simp [cpyO]
def cvBO (id m:Nat) (o:Option Ob):Option Res:=match o with
 | some (.arr 1 xs _)=>some ⟨xs.length=m∧0<m∧qS5 xs,.sl 1 xs,[(id,.dead)]⟩
 | _=>none
theorem je2 {id m:Nat}:extR .cvB st nid [.asl id m]=cvBO id m (TL.get st id):=iR
theorem zF2 {id m:Nat} {xs:List T} {fz:Bool}:cvBO id m (some (.arr 1 xs fz))=some ⟨xs.length=m∧0<m∧qS5 xs,.sl 1 xs,[(id,.dead)]⟩:=iR
theorem jS6 {op:BinOp} {ib:Bool} {y:T}:binR op ib (.v undef) y=none:=by
 unfold binR undef;split <;> simp_all
theorem uU {op:UnOp}:unT op (.v undef)=none:=by
 unfold unT undef;split <;> simp_all
theorem je3 {m:MT}:extR (.mkm m) st nid []=some ⟨TL.get st nid=none,.mp nid,[(nid,.mp m.em)]⟩:=iR
theorem jS7:MT.ii.em = .ii []:=iR
theorem jS8:MT.ib.em = .ib []:=iR
theorem jS9:MT.si.em = .si []:=iR
theorem jT0:MT.sb.em = .sb []:=iR
def mgO (m:MT) (ok:Bool) (k:T) (o:Option Ob):Option Res:=match o with
 | some (.mp es)=>match getM es k with
   | some (m',v,b)=>if m'=m then ret (if ok then .tup [v,.v (.bool b)] else v) else none
   | none=>none
 | _=>none
theorem zF3 {m:MT} {ok:Bool} {id:Nat} {k:T}:extR (.mget m ok) st nid [.mp id,k]=mgO m ok k (TL.get st id):=iR
theorem zF4 {n:Int} {l:List (Int×Int)}:mgO .ii true (.v (.int .i64 n)) (some (.mp (.ii l)))=ret (.tup [.v (.int .i64 ((look eqI n l).getD 0)),.v (.bool (look eqI n l).isSome)]):=iR
theorem zF5 {n:Int} {l:List (Int×Int)}:mgO .ii false (.v (.int .i64 n)) (some (.mp (.ii l)))=ret (.v (.int .i64 ((look eqI n l).getD 0))):=iR
theorem zF6 {n:Int} {l:List (Int×Bool)}:mgO .ib true (.v (.int .i64 n)) (some (.mp (.ib l)))=ret (.tup [.v (.bool ((look eqI n l).getD false)),.v (.bool (look eqI n l).isSome)]):=iR
theorem zF7 {n:Int} {l:List (Int×Bool)}:mgO .ib false (.v (.int .i64 n)) (some (.mp (.ib l)))=ret (.v (.bool ((look eqI n l).getD false))):=iR
theorem zF8 {n:ByteArray} {l:List (ByteArray×Int)}:mgO .si true (.v (.string n)) (some (.mp (.si l)))=ret (.tup [.v (.int .i64 ((look eqS n l).getD 0)),.v (.bool (look eqS n l).isSome)]):=iR
theorem zF9 {n:ByteArray} {l:List (ByteArray×Int)}:mgO .si false (.v (.string n)) (some (.mp (.si l)))=ret (.v (.int .i64 ((look eqS n l).getD 0))):=iR
theorem zG0 {n:ByteArray} {l:List (ByteArray×Bool)}:mgO .sb true (.v (.string n)) (some (.mp (.sb l)))=ret (.tup [.v (.bool ((look eqS n l).getD false)),.v (.bool (look eqS n l).isSome)]):=iR
theorem zG1 {n:ByteArray} {l:List (ByteArray×Bool)}:mgO .sb false (.v (.string n)) (some (.mp (.sb l)))=ret (.v (.bool ((look eqS n l).getD false))):=iR
def mpO (m:MT) (id:Nat) (k v:T) (o:Option Ob):Option Res:=match o with
 | some (.mp es)=>match putM es k v with
   | some (m',es')=>if m'=m then some ⟨True,.v undef,[(id,.mp es')]⟩ else none
   | none=>none
 | _=>none
theorem zG2 {m:MT} {id:Nat} {k v:T}:extR (.mput m) st nid [.mp id,k,v]=mpO m id k v (TL.get st id):=iR
theorem jF4 {id:Nat} {k x:Int} {l:List (Int×Int)}:mpO .ii id (.v (.int .i64 k)) (.v (.int .i64 x)) (some (.mp (.ii l)))=some ⟨True,.v undef,[(id,.mp (.ii (asg eqI k x l)))]⟩:=iR
theorem jF5 {id:Nat} {k:Int} {x:Bool} {l:List (Int×Bool)}:mpO .ib id (.v (.int .i64 k)) (.v (.bool x)) (some (.mp (.ib l)))=some ⟨True,.v undef,[(id,.mp (.ib (asg eqI k x l)))]⟩:=iR
theorem jF6 {id:Nat} {k:ByteArray} {x:Int} {l:List (ByteArray×Int)}:mpO .si id (.v (.string k)) (.v (.int .i64 x)) (some (.mp (.si l)))=some ⟨True,.v undef,[(id,.mp (.si (asg eqS k x l)))]⟩:=iR
theorem jF7 {id:Nat} {k:ByteArray} {x:Bool} {l:List (ByteArray×Bool)}:mpO .sb id (.v (.string k)) (.v (.bool x)) (some (.mp (.sb l)))=some ⟨True,.v undef,[(id,.mp (.sb (asg eqS k x l)))]⟩:=iR
theorem je4:capK=1073741824:=iR
def cpO (id n lo:Nat) (p:Prop) (o:Option Ob):Option Res:=match o with
 | some (.full i n' _)=>if i=id∧n'=n then some ⟨p,.v (.int .i64 ((n-lo:Nat):Int)),[]⟩ else none
 | _=>none
theorem zG3 {id n lo len:Nat}:extR .capq st nid [.vw id n lo len]=cpO id n lo (zr st id n) (TL.get st (id+capK)):=iR
theorem zG4 {id n lo:Nat} {p:Prop} {g:Bool}:cpO id n lo p (some (.full id n g))=some ⟨p,.v (.int .i64 ((n-lo:Nat):Int)),[]⟩:=by simp [cpO]
def amO (k b:Nat) (z:T) (nid id n lo len:Nat) (l:Int) (p:Prop) (o1 o2:Option Ob):Option Res:=match o1,o2 with
 | some (.arr k0 xs fz),some (.full i n' _)=>if k0=k∧i=id∧n'=n then
    some ⟨xs.length=n∧p∧0≤l∧n<lo+len+l.toNat∧0<b∧(len+l.toNat)*b≤140737488355328∧z.cells.length=k∧jA [] z.cells,
     .asl nid (len+l.toNat),[(nid,.arr k ((xs.drop lo).take len++List.replicate l.toNat z) false)]⟩ else none
 | _,_=>none
theorem zG5 {k b id n lo len:Nat} {z:T} {kk:IntKind} {l:Int}:extR (.appM k b z) st nid [.vw id n lo len,.v (.int kk l)]=amO k b z nid id n lo len l (TL.get st nid=none) (TL.get st id) (TL.get st (id+capK)):=iR
theorem zG6 {k b nid id n lo len:Nat} {z:T} {l:Int} {p:Prop} {xs:List T} {fz g:Bool}:amO k b z nid id n lo len l p (some (.arr k xs fz)) (some (.full id n g)) =
 some ⟨xs.length=n∧p∧0≤l∧n<lo+len+l.toNat∧0<b∧(len+l.toNat)*b≤140737488355328∧z.cells.length=k∧jA [] z.cells,
  .asl nid (len+l.toNat),[(nid,.arr k ((xs.drop lo).take len++List.replicate l.toNat z) false)]⟩:=by simp [amO]
def s3E (c:Option (Option Nat×List T)) (p:Prop) (lo:Option (Option Int)) (h m:T):Option Res:=match c,lo,h,m with
 | some (_,xs),some l,.v (.int _ b),.v (.int _ c)=>some ⟨p∧0≤lowT l∧lowT l≤b∧b≤c∧c≤xs.length,.junk,[]⟩
 | _,_,_,_=>none
theorem zG7 {a h m:T}:extR .sl3 st nid [a,h,m]=s3E (conT st a) (conS st a) (some none) h m:=iR
theorem zG8 {a l h m:T}:extR .sl3 st nid [a,l,h,m]=s3E (conT st a) (conS st a) (bndT (some l)) h m:=iR
theorem zG9 {q:Option Nat} {xs:List T} {p:Prop} {l:Option Int} {k1 k2:IntKind} {b c:Int}:s3E (some (q,xs)) p (some l) (.v (.int k1 b)) (.v (.int k2 c))=some ⟨p∧0≤lowT l∧lowT l≤b∧b≤c∧c≤xs.length,.junk,[]⟩:=iR
def eqSE (neg:Bool) (o:Option Bool):Option Res:=match o with | some p=>retB (if neg then !p else p) | none=>none
theorem je5 {neg:Bool} {ks:List EK} {as bs:List T}:extR (.eqS neg ks) st nid [.agg as,.agg bs]=eqSE neg (eqVs ks as bs):=by
 simp only[extR,eqSR,eqSE];cases eqVs ks as bs <;> rfl
theorem jF8 {p:Bool}:eqSE true (some p)=retB (!p):=iR
theorem jF9 {p:Bool}:eqSE false (some p)=retB p:=iR
def jL0:Option Bool→Option Bool→Option Bool
 | some p,some q=>some (p&&q)
 | _,_=>none
theorem zH0:eqVs [] [] []=some true:=iR
theorem zh7 {k:EK} {ks:List EK} {a b:T} {as bs:List T}:eqVs (k::ks) (a::as) (b::bs)=jL0 (eqV k a b) (eqVs ks as bs):=by
 simp only[eqVs,jL0];cases eqV k a b <;> cases eqVs ks as bs <;> rfl
theorem qO0 {p q:Bool}:jL0 (some p) (some q)=some (p&&q):=iR
theorem jT1 {a b:Bool}:eqV .b (.v (.bool a)) (.v (.bool b))=some (a==b):=iR
theorem jT2 {k:IntKind} {a b:Int}:eqV (.i k) (.v (.int k a)) (.v (.int k b))=some (a==b):=by simp [eqV]
theorem jT3 {a b:ByteArray}:eqV .s (.v (.string a)) (.v (.string b))=some (a.toList==b.toList):=iR
theorem zH1 {k:Nat} {xs:List T} {fz:Bool}:conO (some (.arr k xs fz))=some (some k,xs):=iR
theorem je6 {k:Nat} {xs:List T}:conS st (.sl k xs)=True:=iR
theorem jG0 {v:Value}:conS st (.v v)=True:=iR
theorem qT8 {id m:Nat}:conS st (.asl id m)=zr st id m:=iR
def jL1 (neg:Bool) (c:Option (Option Nat×List T)) (p:Prop):Option Res:=match c with
 | some (_,xs)=>some ⟨p,if neg then .ub true (decide (xs.length=0)) else .ub (decide (xs.length=0)) true,[]⟩
 | none=>none
theorem qt9 {neg:Bool} {k:Nat} {xs:List T} {b:T}:extR (.nilq neg) st nid [.sl k xs,b]=some ⟨True,if neg then .ub true (decide (xs.length=0)) else .ub (decide (xs.length=0)) true,[]⟩:=iR
theorem ql4 {neg:Bool} {b:T}:extR (.nilq neg) st nid [.v (.slice none 0 0),b]=ret (.v (.bool (!neg))):=iR
theorem ql5 {neg:Bool} {i n:Nat} {b:T}:extR (.nilq neg) st nid [.asl i n,b]=jL1 neg (conO (TL.get st i)) (zr st i n):=by
 simp only[extR,zu7,jL1,zw2,qT8];generalize TL.get st i=o;rcases o with _ | _ | ⟨k1,xs1,fz1⟩ <;> rfl
theorem qO1 {neg:Bool} {k:Option Nat} {xs:List T} {p:Prop}:jL1 neg (some (k,xs)) p=some ⟨p,if neg then .ub true (decide (xs.length=0)) else .ub (decide (xs.length=0)) true,[]⟩:=iR
theorem ql6 {neg:Bool} {b:T}:extR (.pnil neg) st nid [.v (.pointer none),b]=ret (.v (.bool (!neg))):=iR
def jT4 (neg:Bool) (n:Nat):Option Ob→Option Res
 | some (.arr _ xs _)=>some ⟨xs.length=n,.v (.bool neg),[]⟩
 | _=>none
theorem ql7 {neg:Bool} {id n i j:Nat} {b:T}:extR (.pnil neg) st nid [.ptr id n i j,b]=jT4 neg n (TL.get st id):=by
 simp only[extR,zu8];generalize TL.get st id=o;rcases o with _ | _ | ⟨k1,xs1,fz1⟩ <;> rfl
theorem zh8 {neg:Bool} {n k:Nat} {xs:List T} {fz:Bool}:jT4 neg n (some (.arr k xs fz))=some ⟨xs.length=n,.v (.bool neg),[]⟩:=iR
theorem jG1 {k b:Nat} {z:T} {k1 k2:IntKind} {n m:Int}:mkR k b z st nid (.v (.int k1 n)) (.v (.int k2 m)) =
 some ⟨TL.get st nid=none∧0≤n∧n≤m∧b*m.toNat≤140737488355328∧m≤9223372036854775807∧z.cells.length=k∧jA [] z.cells,.asl nid n.toNat,[(nid,.arr k (List.replicate n.toNat z) false)]⟩:=iR
theorem zh9 {s:ByteArray}:qT3 true st (.v (.string s))=some (some 1,s.data.toList.map wi):=iR
theorem qO2 {y:T}:qT3 false st y=conT st y:=by simp [qT3]
def appE (k b:Nat) (st:Sto) (nid:Nat) (x:T) (ys:Option (Option Nat×List T)) (p:Prop):Option Res:=match ys with
 | some (k',ys)=>if (k'=none∨k'=some k) then
    match x with
    | .asl id m=>match TL.get st id with
      | some (.arr k0 xs fz)=>if k0=k then
         some ⟨xs.length=m∧p∧0<b∧(m+ys.length)*b≤140737488355328,.asl id (m+ys.length),[(id,.arr k (xs++ys) fz)]⟩ else none
      | _=>none
    | .v (.slice none 0 0)=>some ⟨TL.get st nid=none∧p∧0<b∧ys.length*b≤140737488355328,.asl nid ys.length,[(nid,.arr k ys false)]⟩
    | .vw id m lo len=>zu4 st nid k b id m lo len ys p
    | _=>none
   else none
 | none=>none
theorem jG2 {k b:Nat} {str:Bool} {x y:T}:appR k b str st nid x y=appE k b st nid x (qT3 str st y) (conS st y):=by
 unfold appR appE;cases qT3 str st y with
 | none=>rfl
 | some p=>obtain⟨k',ys⟩:=p;rfl
def appO (k b id m:Nat) (ys:List T) (p:Prop) (o:Option Ob):Option Res:=match o with
 | some (.arr k0 xs fz)=>if k0=k then some ⟨xs.length=m∧p∧0<b∧(m+ys.length)*b≤140737488355328,.asl id (m+ys.length),[(id,.arr k (xs++ys) fz)]⟩ else none
 | _=>none
theorem je7 {k b id m:Nat} {ys:List T} {p:Prop}:appE k b st nid (.asl id m) (some (some k,ys)) p=appO k b id m ys p (TL.get st id):=by
 simp only[appE,appO,or_true,if_true]
theorem zH2 {k b id m:Nat} {ys:List T} {p:Prop}:appE k b st nid (.asl id m) (some (none,ys)) p=appO k b id m ys p (TL.get st id):=by
 simp only[appE,appO,true_or,if_true]
def appW (nid k b id m lo len:Nat) (ys:List T) (p q:Prop) (o o2:Option Ob):Option Res:=match o with
 | some (.arr k0 xs fz)=>if k0=k then
    if (match o2 with | some (.full i n' _)=>i==id&&n'==m | _=>false)=true∧¬ (lo+len+ys.length≤m) then
     some ⟨xs.length=m∧q∧p∧m<lo+len+ys.length∧0<b∧(len+ys.length)*b≤140737488355328,.asl nid (len+ys.length),[(nid,.arr k ((xs.drop lo).take len++ys) false)]⟩
    else if fz=false then
     some ⟨xs.length=m∧p∧lo<m∧lo+len+ys.length≤m,.vw id m lo (len+ys.length),[(id,.arr k (xs.take (lo+len)++ys++xs.drop (lo+len+ys.length)) false)]⟩
    else none
   else none
 | _=>none
theorem je8 {k b id m lo len:Nat} {ys:List T} {p:Prop}:zu4 st nid k b id m lo len ys p=appW nid k b id m lo len ys p (TL.get st nid=none) (TL.get st id) (TL.get st (id+capK)):=by
 unfold zu4 appW zB4
 rfl
theorem jG3 {k b id m lo len:Nat} {ys:List T} {p:Prop}:appE k b st nid (.vw id m lo len) (some (some k,ys)) p=appW nid k b id m lo len ys p (TL.get st nid=none) (TL.get st id) (TL.get st (id+capK)):=by
 simp only[appE,or_true,if_true,je8]
theorem je9 {k b id m lo len:Nat} {ys:List T} {p:Prop}:appE k b st nid (.vw id m lo len) (some (none,ys)) p=appW nid k b id m lo len ys p (TL.get st nid=none) (TL.get st id) (TL.get st (id+capK)):=by
 simp only[appE,true_or,if_true,je8]
theorem zH3 {nid k b id m lo len:Nat} {xs ys:List T} {p q:Prop}:appW nid k b id m lo len ys p q (some (.arr k xs false)) none=some ⟨xs.length=m∧p∧lo<m∧lo+len+ys.length≤m,.vw id m lo (len+ys.length),[(id,.arr k (xs.take (lo+len)++ys++xs.drop (lo+len+ys.length)) false)]⟩:=by simp [appW]
theorem zi0 {nid k b id m lo len:Nat} {xs ys:List T} {g:Bool} {p q:Prop}:appW nid k b id m lo len ys p q (some (.arr k xs false)) (some (.full id m g)) =
 if lo+len+ys.length≤m then some ⟨xs.length=m∧p∧lo<m∧lo+len+ys.length≤m,.vw id m lo (len+ys.length),[(id,.arr k (xs.take (lo+len)++ys++xs.drop (lo+len+ys.length)) false)]⟩
 else some ⟨xs.length=m∧q∧p∧m<lo+len+ys.length∧0<b∧(len+ys.length)*b≤140737488355328,.asl nid (len+ys.length),[(nid,.arr k ((xs.drop lo).take len++ys) false)]⟩:=by
 simp only[appW,beq_self_eq_true,Bool.and_self,true_and,if_true];by_cases h:lo+len+ys.length≤m
 ·rw[Aj h,Aq (fun k=>k h)]
 ·rw[Aq h,Aj h]
theorem zH4 {k b id m:Nat} {xs ys:List T} {fz:Bool} {p:Prop}:appO k b id m ys p (some (.arr k xs fz))=some ⟨xs.length=m∧p∧0<b∧(m+ys.length)*b≤140737488355328,.asl id (m+ys.length),[(id,.arr k (xs++ys) fz)]⟩:=by simp [appO]
theorem jf0 {k b:Nat} {ys:List T} {p:Prop}:appE k b st nid (.v (.slice none 0 0)) (some (some k,ys)) p=some ⟨TL.get st nid=none∧p∧0<b∧ys.length*b≤140737488355328,.asl nid ys.length,[(nid,.arr k ys false)]⟩:=by simp [appE]
theorem zH5 {k b:Nat} {ys:List T} {p:Prop}:appE k b st nid (.v (.slice none 0 0)) (some (none,ys)) p=some ⟨TL.get st nid=none∧p∧0<b∧ys.length*b≤140737488355328,.asl nid ys.length,[(nid,.arr k ys false)]⟩:=by simp [appE]
theorem zH6:bndT none=some none:=iR
theorem jf1 {k:IntKind} {n:Int}:bndT (some (.v (.int k n)))=some (some n):=iR
def slS2 (x:T) (l h:Option (Option Int)):Option Res:=match l,h,x with
 | some l,some h,.v (.string s)=>some ⟨0≤lowT l∧lowT l≤zi s.size h∧zi s.size h≤s.size,.v (.string (s.extract (lowT l).toNat (zi s.size h).toNat)),[]⟩
 | _,_,_=>none
theorem jG4 {x:T} {lo hi:Option T}:slSR x lo hi=slS2 x (bndT lo) (bndT hi):=by
 unfold slSR slS2;cases bndT lo <;> cases bndT hi <;> cases x <;> first | rfl | (rename_i v;cases v <;> rfl)
theorem zH7 {s:ByteArray} {l h:Option Int}:slS2 (.v (.string s)) (some l) (some h)=some ⟨0≤lowT l∧lowT l≤zi s.size h∧zi s.size h≤s.size,.v (.string (s.extract (lowT l).toNat (zi s.size h).toNat)),[]⟩:=iR
def slV (k id m lo len:Nat) (l h:Option Int) (o:Option Ob):Option Res:=match o with
 | some (.arr k' xs _)=>if k'=k then some ⟨xs.length=m∧0≤lowT l∧lowT l≤zi len h∧lo+zi len h≤m,.vw id m (lo+(lowT l).toNat) ((zi len h).toNat-(lowT l).toNat),[]⟩ else none
 | _=>none
theorem jf2 {k id m lo len:Nat} {l h:Option Int} {xs:List T} {fz:Bool}:slV k id m lo len l h (some (.arr k xs fz))=some ⟨xs.length=m∧0≤lowT l∧lowT l≤zi len h∧lo+zi len h≤m,.vw id m (lo+(lowT l).toNat) ((zi len h).toNat-(lowT l).toNat),[]⟩:=by simp [slV]
def slO (k id m:Nat) (l h:Option Int) (o:Option Ob):Option Res:=match o with
 | some (.arr k' xs _)=>if k'=k then some ⟨xs.length=m∧qS5 xs∧0≤lowT l∧lowT l≤zi xs.length h∧zi xs.length h≤xs.length,.sl k (cutT (lowT l) (zi xs.length h) xs),[(id,.arr k xs true)]⟩ else none
 | _=>none
def slL2 (k':Nat) (st:Sto) (x:T) (l h:Option (Option Int)):Option Res:=match l,h,x with
 | some l,some h,.sl k xs=>if k=k' then some ⟨0≤lowT l∧lowT l≤zi xs.length h∧zi xs.length h≤xs.length,.sl k (cutT (lowT l) (zi xs.length h) xs),[]⟩ else none
 | some l,some h,.asl id m=>slO k' id m l h (TL.get st id)
 | some l,some h,.v (.slice none 0 0)=>some ⟨lowT l=0∧zi 0 h=0,.v (.slice none 0 0),[]⟩
 | some l,some h,.vw id m lo len=>slV k' id m lo len l h (TL.get st id)
 | _,_,_=>none
theorem jG5 {k':Nat} {x:T} {lo hi:Option T}:slLR k' st x lo hi=slL2 k' st x (bndT lo) (bndT hi):=by
 unfold slLR slL2;generalize bndT lo=l;generalize bndT hi=h;cases l with
 | none=>cases h <;> rfl
 | some l=>cases h with
   | none=>rfl
   | some h=>
     cases x with
     | v a=>
       cases a with
       | slice p n c=>cases p <;> cases n <;> cases c <;> rfl
       | _=>rfl
     | asl id m=>
       unfold slO;dsimp only;generalize TL.get st id=o;rcases o with _ | _ | ⟨k1,xs1,fz1⟩ | _ | _
       ·rfl
       ·rfl
       ·dsimp only;by_cases he:k1=k'
        ·subst he;simp
        ·simp [he]
       ·rfl
       ·rfl
     | _=>rfl
theorem jf3 {k:Nat} {xs:List T} {l h:Option Int}:slL2 k st (.sl k xs) (some l) (some h)=some ⟨0≤lowT l∧lowT l≤zi xs.length h∧zi xs.length h≤xs.length,.sl k (cutT (lowT l) (zi xs.length h) xs),[]⟩:=by simp [slL2]
theorem zH8 {k:Nat} {l h:Option Int}:slL2 k st (.v (.slice none 0 0)) (some l) (some h)=some ⟨lowT l=0∧zi 0 h=0,.v (.slice none 0 0),[]⟩:=iR
theorem zH9 {k id m:Nat} {l h:Option Int}:slL2 k st (.asl id m) (some l) (some h)=slO k id m l h (TL.get st id):=iR
theorem jf4 {k id m lo len:Nat} {l h:Option Int}:slL2 k st (.vw id m lo len) (some l) (some h)=slV k id m lo len l h (TL.get st id):=iR
theorem jf5 {k id m:Nat} {l h:Option Int} {xs:List T} {fz:Bool}:slO k id m l h (some (.arr k xs fz))=some ⟨xs.length=m∧qS5 xs∧0≤lowT l∧lowT l≤zi xs.length h∧zi xs.length h≤xs.length,.sl k (cutT (lowT l) (zi xs.length h) xs),[(id,.arr k xs true)]⟩:=by simp [slO]
theorem zI0:lowT none=0:=iR
theorem zI1 {n:Int}:lowT (some n)=n:=iR
theorem zi1 {m:Nat}:zi m none=m:=iR
theorem zi2 {m:Nat} {n:Int}:zi m (some n)=n:=iR
theorem zi3 {j:Nat} {cs:List T}:WR none j cs=cs.getD j .junk:=iR
theorem zi4 {n j:Nat} {cs:List T}:WR (some n) j cs = .agg ((cs.drop j).take n):=iR
theorem zi5 {j:Nat}:need none j=j+1:=iR
theorem zi6 {n j:Nat}:need (some n) j=j+n:=iR
theorem Kr {v:Value}:(T.v v).cells=[.v v]:=iR
theorem zI2 {k:Nat} {xs:List T}:(T.sl k xs).cells=[.sl k xs]:=iR
theorem zI3 {i n a b:Nat}:(T.vw i n a b).cells=[.vw i n a b]:=iR
theorem jf6 {i n a b:Nat} {j:Nat} {v:T}:repl (.vw i n a b) j v=v:=iR
theorem zi7 {i n a b:Nat} {v:T}:WG (.vw i n a b) v=(v.cells.length=1):=iR
theorem zi8 {i n:Nat}:(T.asl i n).cells=[.asl i n]:=iR
theorem zi9 {i n j k:Nat}:(T.ptr i n j k).cells=[.ptr i n j k]:=iR
theorem zI4 {cs:List T}:(T.ip cs).cells=[.ip cs]:=iR
theorem zj0 {f:FuncId} {cs:List T}:(T.clo f cs).cells=[.clo f cs]:=iR
theorem zj1 {cs:List T}:(T.agg cs).cells=cs:=iR
theorem zI5 {cs:List T} {j:Nat} {v:T}:repl (.agg cs) j v = .agg (cs.take j++v.cells++cs.drop (j+v.cells.length)):=iR
theorem jG6 {x:Value} {j:Nat} {v:T}:repl (.v x) j v=v:=iR
theorem jf7 {k:Nat} {xs:List T} {j:Nat} {v:T}:repl (.sl k xs) j v=v:=iR
theorem zI6 {i n:Nat} {j:Nat} {v:T}:repl (.asl i n) j v=v:=iR
theorem qO3 {cs:List T} {v:T}:WG (.agg cs) v=True:=iR
theorem zI7 {x:Value} {v:T}:WG (.v x) v=(v.cells.length=1):=iR
theorem zj2 {k:Nat} {xs:List T} {v:T}:WG (.sl k xs) v=(v.cells.length=1):=iR
theorem qO4 {i n:Nat} {v:T}:WG (.asl i n) v=(v.cells.length=1):=iR
theorem zj3:jA st []=True:=iR
theorem qO5 {c:T} {r:List T}:jA st (c::r)=(live st c∧jA st r):=iR
theorem jG7 {x:Value}:live st (.v x)=(x.oneCell'=true):=iR
theorem jf8 {k:Nat} {xs:List T}:live st (.sl k xs)=True:=iR
theorem jf9 {cs:List T}:live st (.ip cs)=True:=iR
theorem zI8 {f:FuncId} {cs:List T}:live st (.clo f cs)=True:=iR
theorem zI9 {i n:Nat}:live st (.asl i n)=vld (TL.get st i) n:=by
 unfold live vld;dsimp only;generalize TL.get st i=o;rcases o with _ | _ | ⟨k1,xs1,fz1⟩ <;> first | rfl | (cases fz1 <;> rfl)
theorem jg0 {i n j k:Nat}:live st (.vw i n j k)=vld (TL.get st i) n:=by
 unfold live vld;dsimp only;generalize TL.get st i=o;rcases o with _ | _ | ⟨k1,xs1,fz1⟩ <;> first | rfl | (cases fz1 <;> rfl)
theorem zJ0 {i n j k:Nat}:live st (.ptr i n j k)=vld (TL.get st i) n:=by
 unfold live vld;dsimp only;generalize TL.get st i=o;rcases o with _ | _ | ⟨k1,xs1,fz1⟩ <;> first | rfl | (cases fz1 <;> rfl)
theorem zj4:qs4 st []=True:=iR
theorem qO6 {x:T} {r:List T}:qs4 st (x::r)=(jA st x.cells∧qs4 st r):=iR
theorem jg1 {k:IntKind} {n:Int}:(Value.int k n).oneCell'=true:=iR
theorem zJ1 {b:Bool}:(Value.bool b).oneCell'=true:=iR
theorem jg2 {s:ByteArray}:(Value.string s).oneCell'=true:=iR
theorem zj5 {p:Option Addr} {a b:Nat}:(Value.slice p a b).oneCell'=true:=iR
theorem zJ2:stUp st []=st:=iR
theorem zj6 {i:Nat} {x:Ob} {r:List (Nat×Ob)}:stUp st ((i,x)::r)=put1 i x (stUp st r):=iR
theorem zJ3 {i:Nat} {x:Ob}:put1 i x []=[(i,x)]:=iR
theorem zj7 {i j:Nat} {x y:Ob} {r:Sto}:put1 i x ((j,y)::r)=if j=i then (i,x)::r else (j,y)::put1 i x r:=iR
theorem zj8 {x:T} {l:List T}:(x::l).getD 0 .junk=x:=iR
theorem zj9 {x:T} {l:List T} {n:Nat}:(x::l).getD (n+1) .junk=l.getD n .junk:=by simp [List.getD]
end
end Go.TL
