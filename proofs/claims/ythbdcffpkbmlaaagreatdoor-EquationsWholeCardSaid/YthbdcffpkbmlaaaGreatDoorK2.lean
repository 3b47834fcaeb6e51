/- A part of the proof: trees of Go values, short forms, contracts. -/
import Derived.Test.YthbdcffpkbmlaaaGreatDoorK1
namespace Go.TL
theorem Im.sl_inv {w:World} {A:Addr→Prop} {v:Value} {k:Nat} {xs:List T} (h:Im w A v (.sl k xs)) :
 ∃ (p:Option Addr) (cap:Nat) (us:List Value),v = .slice p xs.length cap∧xs.length≤cap∧(∀ x∈xs,x.cells.length=k)∧us.length=(flat xs).length∧
  (0<xs.length→p≠none)∧(∀ (j:Nat) (u:Value),us[j]?=some u→∃ a,p=some a∧A (a.add j)∧w.cell? (a.add j)=some u∧u.oneCell'=true)∧
  (∀ (j:Nat) (u:Value) (c:T),us[j]?=some u→(flat xs)[j]?=some c→Im w A u c):=by
 cases h with
 | sl p len cap k xs us h1 h2 h3 h4 h5 h6 h7=>subst h1;exact⟨p,cap,us,rfl,h2,h3,h4,h5,h6,h7⟩
theorem Im.sl_elem {w:World} {A:Addr→Prop} {a:Addr} {k:Nat} {xs:List T} {us:List Value} (hk:∀ x∈xs,x.cells.length=k) (hl:us.length=(flat xs).length)
 (h1:∀ (j:Nat) (u:Value),us[j]?=some u→A (a.add j)∧w.cell? (a.add j)=some u∧u.oneCell'=true) (h2:∀ (j:Nat) (u:Value) (c:T),us[j]?=some u→(flat xs)[j]?=some c→Im w A u c)
 {i:Nat} (hi:i<xs.length):Im w A (.pointer (some (a.add (i*k)))) (.ip (xs.getD i .junk).cells):=by
 have hkk:(xs.getD i .junk).cells.length=k:=hk _ (by simp [List.getD,hi]);have hfl:=qH hk;have hlex:i*k+k≤xs.length*k:=by rw[← Nat.succ_mul];exact CZ k oM
 refine .ip _ _ ((us.drop (i*k)).take k) (by rw[hkk];simp;omega) (fun j u hu=>?_) (fun j u c hu hc=>?_)
 ·rw[BQ] at hu;split at hu
  ·rw[Dx] at hu;rw[qr4];exact h1 _ u hu
  ·cases hu
 ·rw[BQ] at hu;split at hu
  ·rename_i hj;rw[Dx] at hu;refine h2 _ u c hu ?_;rw[Wb hk hi hj];exact hc
  ·cases hu
theorem ja {P:Program} {t:TypeId} {k:Nat} (h:ixT P t=some (none,k)):∃ el i,P.underlying t=some (.slice el)∧P.info? el=some i∧i.size=k:=by
 unfold ixT at h;split at h
 ·rename_i el hu;unfold szT at h;cases hi:P.info? el with
  | none=>simp [hi] at h
  | some i=>simp [hi] at h;exact⟨el,i,hu,hi,h⟩
 ·rename_i n el hu;unfold szT at h;cases hi:P.info? el with
  | none=>simp [hi] at h
  | some i=>simp [hi] at h
 ·cases h
theorem ze2 {P:Program} {t:TypeId} {k n:Nat} (h:ixT P t=some (some n,k)):∃ el i,P.underlying t=some (.array n el)∧P.info? el=some i∧i.size=k:=by
 unfold ixT at h;split at h
 ·rename_i el hu;unfold szT at h;cases hi:P.info? el with
  | none=>simp [hi] at h
  | some i=>simp [hi] at h
 ·rename_i n' el hu;unfold szT at h;cases hi:P.info? el with
  | none=>simp [hi] at h
  | some i=>simp [hi] at h;obtain⟨rfl,rfl⟩:=h;exact⟨el,i,hu,hi,rfl⟩
 ·cases h
def kB (P:Program) (st:Sto) (ty:TypeId) (x i:T):Option Res:=
 match ixT P ty,i,x with
 | some (none,k),.v (.int _ n),.sl k' xs=>if k'=k then some ⟨0≤n∧n<xs.length,.ip (xs.getD n.toNat .junk).cells,[]⟩ else none
 | some (none,k),.v (.int _ n),.asl id m=>match get st id with
   | some (.arr k' xs _)=>if k'=k then some ⟨xs.length=m∧0≤n∧n<m,.ptr id m n.toNat 0,[]⟩ else none
   | _=>none
 | some (none,k),.v (.int _ n),.vw id m lo len=>match get st id with
   | some (.arr k' xs _)=>if k'=k then some ⟨xs.length=m∧0≤n∧n<len,.ptr id m (lo+n.toNat) 0,[]⟩ else none
   | _=>none
 | some (some len,k),.v (.int _ n),.ptr id m i j=>some ⟨0≤n∧n<len∧zr st id m,.ptr id m i (j+n.toNat*k),[]⟩
 | some (some len,k),.v (.int _ n),.ip cs=>some ⟨0≤n∧n<len,.ip (cs.drop (n.toNat*k)),[]⟩
 | _,_,_=>none
section
variable {P:Program} {e:Env} {o:Oper} {s:St}
theorem qC7 {ty:TypeId} {x i:Operand} (ho:o.op = .indexAddr ty x i) {r:Res} (h:kB P s.st ty (Operand.t s x) (Operand.t s i)=some r) (hs:r.side):Does P e o s r.val r.wr:=by
 unfold kB at h;split at h
 ·rename_i k kd n k' xs hty hi hx;split at h
  ·rename_i hkk;subst hkk;injection h with h;subst h;obtain⟨h1,h2⟩:=hs;obtain⟨el,inf,g1,g2,g3⟩:=ja hty;refine Does.of_value fun ι act w hR=>?_;have hi0:=(hi ▸ hR.rp i).v_inv;obtain⟨p,cap,us,hv,c1,c2,c3,c4,c5,c6⟩:=(hx ▸ hR.rp x).im_sl.sl_inv;obtain⟨ad,rfl⟩:∃ ad,p=some ad:=by
    cases p with
    | none=>exact absurd rfl (c4 oM)
    | some ad=>exact⟨ad,rfl⟩
   have hn:n.toNat<xs.length:=by omega
   refine⟨_,?_,.im (Im.sl_elem (a:=ad) c2 c3 (fun j u hu=>by obtain⟨a',e',h'⟩:=c5 j u hu;injection e' with e';subst e';exact h') c6 hn)⟩;simp [execOp,ho,hv,hi0,Instr.indexAt,asIntOf,run_underlying g1,sizeOf,typeInfo,g2,g3,h1,h2]
  ·cases h
 ·rename_i k kd n id m hty hi hx;split at h
  ·rename_i k' xs fz hg;split at h
   ·rename_i hkk;subst hkk;injection h with h;subst h;obtain⟨h0,h1,h2⟩:=hs;obtain⟨el,inf,g1,g2,g3⟩:=ja hty;refine Does.of_value fun ι act w hR=>?_;have hi0:=(hi ▸ hR.rp i).v_inv;have hv:=(hx ▸ hR.rp x).asl_inv hg h0;have hob:=(hR.ob id _ hg).2;rcases hob with⟨_,hx0⟩ | ⟨b,cap,cur,E,g4,_⟩
    ·subst hx0;simp at h0;omega
    refine⟨.pointer (some ⟨b,n.toNat*k',none⟩),?_,?_⟩
    ·rw[g4] at hv;have hv:act.eval x = .slice (some ⟨b,0,none⟩) m cap:=hv;simp [execOp,ho,hv,hi0,Instr.indexAt,asIntOf,run_underlying g1,sizeOf,typeInfo,g2,g3,h1,h2,zt]
    ·refine .ptr _ _ _ _ _ (by rw[hg];simp) fun k2 xs2 fz2 hg2=>?_;rw[hg] at hg2;injection hg2 with hg2;injection hg2 with e1 e2 e3
     subst e1 e2 e3;exact⟨oM,fun _=>⟨b,cap,g4,sMp⟩⟩
   ·cases h
  ·cases h
 ·rename_i k kd n id m lo len hty hi hx;split at h
  ·rename_i k' xs fz hg;split at h
   ·rename_i hkk;subst hkk;injection h with h;subst h;obtain⟨h0,h1,h2⟩:=hs;obtain⟨el,inf,g1,g2,g3⟩:=ja hty;refine Does.of_value fun ι act w hR=>?_;have hi0:=(hi ▸ hR.rp i).v_inv;obtain⟨hl0,hv⟩:=(hx ▸ hR.rp x).vw_inv hg h0;have hob:=(hR.ob id _ hg).2;rcases hob with⟨_,hx0⟩ | ⟨b,cap,cur,E,g4,g5,g6,g7,_⟩
    ·subst hx0;simp at h0;omega
    rw[g4] at hv;obtain⟨p,hv,hp⟩:=hv;have hp:=hp oM;subst hp;refine⟨.pointer (some ⟨b,lo*k'+n.toNat*k',none⟩),?_,?_⟩
    ·simp [execOp,ho,hv,hi0,Instr.indexAt,asIntOf,run_underlying g1,sizeOf,typeInfo,g2,g3,h1,h2,zt]
    ·refine .ptr _ _ _ _ _ (by rw[hg];simp) fun k2 xs2 fz2 hg2=>?_;rw[hg] at hg2;injection hg2 with hg2;injection hg2 with e1 e2 e3
     subst e1 e2 e3;exact⟨oM,fun _=>⟨b,cap,g4,by simp [EY]⟩⟩
   ·cases h
  ·cases h
 ·rename_i len k kd n id m i' j hty hi hx;injection h with h;subst h;obtain⟨h1,h2,h3⟩:=hs;obtain⟨el,inf,g1,g2,g3⟩:=ze2 hty;obtain⟨k0,xs,fz,hg,hm⟩:=zp.1 h3;refine Does.of_value fun ι act w hR=>?_;have hi0:=(hi ▸ hR.rp i).v_inv;obtain⟨b,cap,hb,hv⟩:=(hx ▸ hR.rp x).ptr_inv hg hm;refine⟨.pointer (some ⟨b,i'*k0+(j+n.toNat*k),none⟩),?_,?_⟩
  ·simp [execOp,ho,hv,hi0,Instr.indexAt,Instr.sureAddr,asIntOf,run_underlying g1,sizeOf,typeInfo,g2,g3,h1,h2,zt,Nat.add_assoc]
  ·refine .ptr _ _ _ _ _ (by rw[hg];simp) fun k2 xs2 fz2 hg2=>?_;rw[hg] at hg2;injection hg2 with hg2;injection hg2 with e1 e2 e3
   subst e1 e2 e3;exact⟨oM,fun _=>⟨b,cap,hb,rfl⟩⟩
 ·rename_i len k kd n cs hty hi hx;injection h with h;subst h;obtain⟨h1,h2⟩:=hs;obtain⟨el,inf,g1,g2,g3⟩:=ze2 hty;refine Does.of_value fun ι act w hR=>?_;have hi0:=(hi ▸ hR.rp i).v_inv;obtain⟨ad,us,hv,hl,c1,c2⟩:=(hx ▸ hR.rp x).ip_inv;refine⟨_,?_,.im (Im.ip_drop hl c1 c2 (n.toNat*k))⟩;simp [execOp,ho,hv,hi0,Instr.indexAt,Instr.sureAddr,asIntOf,run_underlying g1,sizeOf,typeInfo,g2,g3,h1,h2]
 ·cases h
def ze3 (P:Program) (ty:TypeId) (x i:T):Option Res:=
 match P.underlying ty,x,i with
 | some .string,.v (.string s),.v (.int _ n)=>some ⟨0≤n∧n<s.size,.v (.int .u8 (s.data.toList.getD n.toNat 0).toNat),[]⟩
 | _,_,_=>none
theorem zO9 {ty:TypeId} {x i:Operand} (ho:o.op = .index ty x i) {r:Res} (h:ze3 P ty (Operand.t s x) (Operand.t s i)=some r) (hs:r.side):Does P e o s r.val r.wr:=by
 unfold ze3 at h;split at h
 ·rename_i str kd n hu hx hi;injection h with h;subst h;obtain⟨h1,h2⟩:=hs;refine Does.of_value fun ι act w hR=>?_;have hi0:=(hi ▸ hR.rp i).v_inv;have hx0:=(hx ▸ hR.rp x).v_inv;have hn:n.toNat<str.size:=by omega
  refine⟨_,?_,.im (.v _)⟩;have hb:str[n.toNat]?=some (str.data.toList.getD n.toNat 0):=by
   have hn':n.toNat<str.data.size:=hn;have e1:str[n.toNat]?=some (str[n.toNat]'hn):=by simp [getElem?_def,hn]
   rw[e1]
   congr 1
   show str.data[n.toNat]=_;simp only[List.getD,Array.getElem?_toList];rw[Eq hn']
   rfl
  simp [execOp,ho,hx0,hi0,Instr.index,asIntOf,run_underlying hu,h1,hb]
 ·cases h
def bndT:Option T→Option (Option (Int))
 | none=>some none
 | some (.v (.int _ n))=>some (some n)
 | _=>none
def imT0:T→Bool
 | .v _ | .sl .. | .ip .. | .junk | .ub ..=>true
 | _=>false
def ze4:List T→Bool
 | []=>true
 | x::r=>imT0 x&&ze4 r
def imT:T→Bool
 | .clo _ cs=>ze4 cs
 | x=>imT0 x
theorem zU4 {l:List T} (h:ze4 l=true):∀ x∈l,imT0 x=true:=by
 induction l with
 | nil=>simp
 | cons y r ih=>
   simp only[ze4,Bq] at h;intro x hx;rcases Ck.1 hx with rfl | hx
   ·exact h.1
   ·exact ih h.2 x hx
theorem Rp.imv0 {st:Sto} {ι:Iota} {w:World} {A:Addr→Prop} {v:Value} {c:T} (h:Rp st ι w A v c) (hi:imT0 c=true):Im w A v c:=by
 cases h with
 | im h=>exact h
 | _=>simp [imT0] at hi
theorem Rp.imv {st:Sto} {ι:Iota} {w:World} {A:Addr→Prop} {v:Value} {c:T} (h:Rp st ι w A v c) (hi:imT c=true):Im w A v c:=by
 cases h with
 | im h=>exact h
 | clo f us cs hl h=>exact .clo f us cs hl fun j u c hu hc=>(h j u c hu hc).imv0 (zU4 hi c (BX hc))
 | _=>simp [imT,imT0] at hi
def qS5 (xs:List T):Prop:=∀ x∈xs,∀ c∈x.cells,imT c=true
def lowT:Option Int→Int | none=>0 | some n=>n
def zi (len:Nat):Option Int→Int | none=>len | some n=>n
def cutT {α:Type} (l h:Int) (xs:List α):List α:=(xs.take h.toNat).drop l.toNat
def Kj (P:Program) (st:Sto) (ty:TypeId) (x:T) (lo hi:Option T):Option Res:=
 match bndT lo,bndT hi,x with
 | some l,some h,.v (.string s)=>match P.underlying ty with
   | some .string=>some ⟨0≤lowT l∧lowT l≤zi s.size h∧zi s.size h≤s.size,.v (.string (s.extract (lowT l).toNat (zi s.size h).toNat)),[]⟩
   | _=>none
 | some l,some h,.sl k xs=>match ixT P ty with
   | some (none,k')=>if k=k' then some ⟨0≤lowT l∧lowT l≤zi xs.length h∧zi xs.length h≤xs.length,.sl k (cutT (lowT l) (zi xs.length h) xs),[]⟩ else none
   | _=>none
 | some l,some h,.asl id m=>match ixT P ty,get st id with
   | some (none,k'),some (.arr k xs fz)=>if k=k' then some ⟨xs.length=m∧qS5 xs∧0≤lowT l∧lowT l≤zi xs.length h∧zi xs.length h≤xs.length,.sl k (cutT (lowT l) (zi xs.length h) xs),[(id,.arr k xs true)]⟩ else none
   | _,_=>none
 | some l,some h,.v (.slice none 0 0)=>match ixT P ty with
   | some (none,_)=>some ⟨lowT l=0∧zi 0 h=0,.v (.slice none 0 0),[]⟩
   | _=>none
 | some l,some h,.vw id m lo len=>match ixT P ty,get st id with
   | some (none,k'),some (.arr k xs fz)=>if k=k' then some ⟨xs.length=m∧0≤lowT l∧lowT l≤zi len h∧lo+zi len h≤m,.vw id m (lo+(lowT l).toNat) ((zi len h).toNat-(lowT l).toNat),[]⟩ else none
   | _,_=>none
 | _,_,_=>none
theorem ZE {k:Nat} {xs:List T} (hk:∀ x∈xs,x.cells.length=k) (n:Nat):flat (xs.take n)=(flat xs).take (n*k):=by
 induction xs generalizing n with
 | nil=>simp [flat]
 | cons x xs ih=>
   cases n with
   | zero=>simp [flat]
   | succ n=>
     have h1:=hk x sMp;have:=ih (fun y hy=>hk y (by simp [hy])) n;simp only[flat,List.take_succ_cons,Gq] at this ⊢
     rw[this,show (n+1)*k=x.cells.length+n*k by rw[EY,h1];omega,List.take_length_add_append]
theorem YY {k:Nat} {xs:List T} (hk:∀ x∈xs,x.cells.length=k) (n:Nat):flat (xs.drop n)=(flat xs).drop (n*k):=by
 induction xs generalizing n with
 | nil=>simp [flat]
 | cons x xs ih=>
   cases n with
   | zero=>simp [flat]
   | succ n=>
     have h1:=hk x sMp;have:=ih (fun y hy=>hk y (by simp [hy])) n;simp only[flat,List.drop_succ_cons,Gq] at this ⊢
     rw[this,show (n+1)*k=x.cells.length+n*k by rw[EY,h1];omega,List.drop_length_add_append]
theorem Im.sl_cut {w:World} {A:Addr→Prop} {p:Option Addr} {cap k:Nat} {xs:List T} {us:List Value} (c1:xs.length≤cap) (hk:∀ x∈xs,x.cells.length=k) (hl:us.length=(flat xs).length)
 (hp:0<xs.length→p≠none) (h1:∀ (j:Nat) (u:Value),us[j]?=some u→∃ a,p=some a∧A (a.add j)∧w.cell? (a.add j)=some u∧u.oneCell'=true) (h2:∀ (j:Nat) (u:Value) (c:T),us[j]?=some u→(flat xs)[j]?=some c→Im w A u c)
 {l h:Nat} (hlh:l≤h) (hh:h≤xs.length):Im w A (.slice (if cap=l then p else p.map (·.add (l*k))) (h-l) (cap-l)) (.sl k ((xs.take h).drop l)):=by
 have hk':∀ x∈(xs.take h).drop l,x.cells.length=k:=fun x hx=>hk x (EX (EW hx));have hlen:((xs.take h).drop l).length=h-l:=by simp;omega
 have hfl:flat ((xs.take h).drop l)=((flat xs).take (h*k)).drop (l*k):=by
  rw[YY (fun x hx=>hk x (EX hx)),ZE hk]
 refine .sl _ _ _ k _ ((us.take (h*k)).drop (l*k)) hlen oM hk' (by rw[hfl];simp [hl]) (fun hpos=>?_) (fun j u hu=>?_) (fun j u c hu hc=>?_)
 ·have:=hp oM;split <;> simp_all
 ·rw[Dx,BQ] at hu;split at hu
  ·rename_i hj;obtain⟨a,e1,e2,e3⟩:=h1 _ u hu;have hlk:l<h:=by
    apply AQ
    intro hn;have:h=l:=by omega
    subst this;omega
   refine⟨a.add (l*k),?_,?_,?_⟩
   ·rw[Aq oM,e1];rfl
   ·rw[qr4];exact e2
   ·rw[qr4];exact e3
  ·cases hu
 ·rw[hfl,Dx,BQ] at hc;rw[Dx,BQ] at hu;split at hu
  ·rename_i hj;rw[Aj hj] at hc;exact h2 _ u c hu hc
  ·cases hu
theorem yL {P:Program} (w:World) (k:IntKind) (n:Int) (y:Nat) (c:BoundsCode) (h0:0≤n) (h1:n≤y):(Instr.sliceBound (.int k n) y c).run P w = .ok n.toNat w:=by
 simp [Instr.sliceBound,asIntOf,h0,h1]
theorem zR {P:Program} {ι:Iota} {act:Act} {w:World} (hR:Rel e s ι act w) {lo hi:Option Operand} {l h:Option Int} (hl:bndT (lo.map (Operand.t s))=some l) (hh:bndT (hi.map (Operand.t s))=some h)
 (isS:Bool) (len cap:Nat) (hc:len≤cap) (h1:0≤lowT l) (h2:lowT l≤zi len h) (h3:zi len h≤cap) :
 (Instr.sliceBounds isS len cap (lo.map act.eval) (hi.map act.eval) none).run P w = .ok ((lowT l).toNat,(zi len h).toNat,cap) w:=by
 have hlo:∀ x n,lo=some x→l=some n→∃ k,act.eval x = .int k n:=by
  rintro x n rfl rfl;simp only[Ej] at hl;generalize hx:Operand.t s x=tx at hl;unfold bndT at hl;split at hl <;> simp at hl
  rename_i k m hm;simp at hm;subst hm hl;exact⟨_,(hx ▸ hR.rp x).v_inv⟩
 have hhi:∀ x n,hi=some x→h=some n→∃ k,act.eval x = .int k n:=by
  rintro x n rfl rfl;simp only[Ej] at hh;generalize hx:Operand.t s x=tx at hh;unfold bndT at hh;split at hh <;> simp at hh
  rename_i k m hm;simp at hm;subst hm hh;exact⟨_,(hx ▸ hR.rp x).v_inv⟩
 have hln:lo=none→l=none:=by rintro rfl;simp [bndT] at hl;exact hl.symm
 have hhn:hi=none→h=none:=by rintro rfl;simp [bndT] at hh;exact hh.symm
 have hls:∀ x,lo=some x→∃ n,l=some n:=by
  rintro x rfl;cases l with
  | none=>
    simp only[Ej] at hl;unfold bndT at hl;split at hl <;> simp at hl
    rename_i hm;simp at hm
  | some n=>exact⟨n,rfl⟩
 have hhs:∀ x,hi=some x→∃ n,h=some n:=by
  rintro x rfl;cases h with
  | none=>
    simp only[Ej] at hh;unfold bndT at hh;split at hh <;> simp at hh
    rename_i hm;simp at hm
  | some n=>exact⟨n,rfl⟩
 cases lo with
 | none=>
   have:=hln rfl;subst this;cases hi with
   | none=>
     have:=hhn rfl;subst this;simp [Instr.sliceBounds,lowT,zi]
   | some y=>
     obtain⟨n,rfl⟩:=hhs y rfl;obtain⟨k,hy⟩:=hhi y n rfl rfl;simp only[lowT,zi] at h1 h2 h3 ⊢
     have hb:=yL (P:=P) w k n cap (if isS then .sliceAcap else .sliceAlen) h2 oM;simp [Instr.sliceBounds,hy,hb]
 | some x=>
   obtain⟨m,rfl⟩:=hls x rfl;obtain⟨k,hx⟩:=hlo x m rfl rfl;cases hi with
   | none=>
     have:=hhn rfl;subst this;simp only[lowT,zi] at h1 h2 h3 ⊢
     have hb:=yL (P:=P) w k m len .sliceB h1 oM;simp [Instr.sliceBounds,hx,hb]
   | some y=>
     obtain⟨n,rfl⟩:=hhs y rfl;obtain⟨k',hy⟩:=hhi y n rfl rfl;simp only[lowT,zi] at h1 h2 h3 ⊢
     have hb:=yL (P:=P) w k' n cap (if isS then .sliceAcap else .sliceAlen) oM oM;have hb2:=yL (P:=P) w k m n.toNat .sliceB h1 oM;simp [Instr.sliceBounds,hy,hb,hx,hb2]
theorem zP0 {ty:TypeId} {x:Operand} {lo hi:Option Operand} (ho:o.op = .slice ty x lo hi none) {r:Res} (h:Kj P s.st ty (Operand.t s x) (lo.map (Operand.t s)) (hi.map (Operand.t s))=some r) (hs:r.side):Does P e o s r.val r.wr:=by
 unfold Kj at h;split at h
 ·rename_i l hh str hlo hhi hx;split at h
  ·rename_i hu;injection h with h;subst h;obtain⟨h1,h2,h3⟩:=hs;refine Does.of_value fun ι act w hR=>?_;have hx0:=(hx ▸ hR.rp x).v_inv;have hb:=zR (P:=P) hR hlo hhi false str.size str.size (BZ _) h1 h2 h3;refine⟨_,?_,.im (.v _)⟩;simp [execOp,ho,hx0,Instr.sliceAt,run_underlying hu,Instr.slice,hb]
  ·cases h
 ·rename_i l hh k xs hlo hhi hx;split at h
  ·rename_i k' hty;split at h
   ·rename_i hkk;subst hkk;injection h with h;subst h;obtain⟨h1,h2,h3⟩:=hs;obtain⟨el,inf,g1,g2,g3⟩:=ja hty;refine Does.of_value fun ι act w hR=>?_;obtain⟨p,cap,us,hv,c1,c2,c3,c4,c5,c6⟩:=(hx ▸ hR.rp x).im_sl.sl_inv;have hb:=zR (P:=P) hR hlo hhi true xs.length cap c1 h1 h2 oM;refine⟨_,?_,.im (Im.sl_cut (h:=(zi xs.length hh).toNat) (l:=(lowT l).toNat) c1 c2 c3 c4 c5 c6 oM oM)⟩;simp [execOp,ho,hv,Instr.sliceAt,run_underlying g1,Instr.slice,hb,sizeOf,typeInfo,g2,g3]
   ·cases h
  ·cases h
 ·rename_i l hh id m hlo hhi hx;split at h
  ·rename_i k' k xs fz hty hg;split at h
   ·rename_i hkk;subst hkk;injection h with h;subst h;obtain⟨h0,him,h1,h2,h3⟩:=hs;obtain⟨el,inf,g1,g2,g3⟩:=ja hty;refine Does.of_run fun ι act w hR=>?_;have hv:=(hx ▸ hR.rp x).asl_inv hg h0;obtain⟨hk,hob⟩:=hR.ob id _ hg;obtain⟨f1,f2⟩:=hR.freeze id k xs fz hg;have hob':=(f1.ob id _ (qz _ _ _)).2;have himc:∀ (j:Nat) (c:T),(flat xs)[j]?=some c→imT c=true:=fun j c hc=>by
     have:=BX hc;simp only[flat,Ek] at this;obtain⟨y,hy,hcy⟩:=this;exact him y hy c hcy
    rcases hob' with⟨g4,rfl⟩ | ⟨b,cap,cur,E,g4,g5,g6,g7,g8,g9⟩
    ·simp only[Cw] at h0 h1 h2 h3;subst h0;rw[g4] at hv;obtain⟨p,hv⟩:=hv;have hb:=zR (P:=P) hR hlo hhi true 0 0 (BZ _) h1 h2 h3;refine⟨_,w,ι,?_,f1,.im (.sl (p) 0 0 k _ [] (by simp [cutT]) (BZ _) (by simp [cutT]) (by simp [cutT,flat]) sMp sMp sMp)⟩;have e1:(lowT l).toNat=0:=by omega
     have e2:(zi 0 hh).toNat=0:=by omega
     simp [execOp,ho,hv,Instr.sliceAt,run_underlying g1,Instr.slice,hb,sizeOf,typeInfo,g2,g3,e1,e2]
    ·have hb:=zR (P:=P) hR hlo hhi true xs.length cap g7 h1 h2 oM;have hfl:=qH hk;have hle:xs.length*k≤cap*k:=CZ k g7;have hv':act.eval x = .slice (some ⟨b,0,none⟩) xs.length cap:=by rw[g4] at hv;rw[h0];exact hv
     refine⟨_,w,ι,?_,f1,.im (Im.sl_cut (p:=some ⟨b,0,none⟩) (us:=cur.toList.take (xs.length*k)) (h:=(zi xs.length hh).toNat) (l:=(lowT l).toNat) g7 hk (by rw[hfl];simp;omega) sMp ?_ ?_ oM oM)⟩
     ·simp [execOp,ho,hv',Instr.sliceAt,run_underlying g1,Instr.slice,hb,sizeOf,typeInfo,g2,g3]
     ·intro j u hu;rw[BQ] at hu;split at hu
      ·rename_i hj;refine⟨_,rfl,?_,?_,?_⟩
       ·rw[zt];refine .inr ⟨(hR.own id k xs fz b cap hg g4).symm,qg1 g5,fun id' k2 xs2 fz2 cap2 hg2 hi2=>?_⟩;have:=f1.inj id' id _ _ _ _ _ _ b cap2 cap hg2 (qz _ _ _) hi2 g4;subst this
        change get ((_,_)::_) _=_ at hg2
        rw[qz] at hg2;injection hg2 with hg2;injection hg2 with q1 q2 q3;subst q1 q2 q3;exact⟨rfl,by simp;omega⟩
       ·rw[zt,wD g5];simpa using hu
       ·obtain⟨c,hc⟩:∃ c,(flat xs)[j]?=some c:=⟨(flat xs)[j]'(by rw[hfl];exact hj),by simp [hfl,hj]⟩;exact (g9 j u c (by simpa using hu) hc).1
      ·cases hu
     ·intro j u c hu hc;rw[BQ] at hu;split at hu
      ·have:=g9 j u c (by simpa using hu) hc;have hic:=himc j c hc;exact this.2.imv hic
      ·cases hu
   ·cases h
  ·cases h
 ·rename_i l hh hlo hhi hx;split at h
  ·rename_i k' hty;injection h with h;subst h;obtain⟨h1,h2⟩:=hs;obtain⟨el,inf,g1,g2,g3⟩:=ja hty;refine Does.of_value fun ι act w hR=>?_;have hx0:=(hx ▸ hR.rp x).v_inv;have hb:=zR (P:=P) hR hlo hhi true 0 0 (BZ _) oM oM oM;rw[h1,h2] at hb;refine⟨.slice none 0 0,?_,.im (.v _)⟩;simp [execOp,ho,hx0,Instr.sliceAt,run_underlying g1,Instr.slice,hb,sizeOf,typeInfo,g2,g3]
  ·cases h
 ·rename_i l hh id m lo0 len hlo hhi hx;split at h
  ·rename_i k' k xs fz hty hg;split at h
   ·rename_i hkk;subst hkk;injection h with h;subst h;obtain⟨h0,h1,h2,h3⟩:=hs;obtain⟨el,inf,g1,g2,g3⟩:=ja hty;refine Does.of_value fun ι act w hR=>?_;obtain⟨hl0,hv⟩:=(hx ▸ hR.rp x).vw_inv hg h0;have hob:=(hR.ob id _ hg).2;rcases hob with⟨g4,hx0⟩ | ⟨b,cap,cur,E,g4,g5,g6,g7,_⟩
    ·subst hx0;simp only[Cw] at h0;subst h0;rw[g4] at hv;obtain⟨p,hv⟩:=hv;have hlen:len=0:=by omega
     subst hlen;have hb:=zR (P:=P) hR hlo hhi true 0 0 (BZ _) h1 h2 oM;have e1:(lowT l).toNat=0:=by omega
     have e2:(zi 0 hh).toNat=0:=by omega
     refine⟨.slice p 0 0,?_,.vw _ _ _ _ _ (by rw[hg];simp) fun k2 xs2 fz2 hg2=>?_⟩
     ·simp [execOp,ho,hv,Instr.sliceAt,run_underlying g1,Instr.slice,hb,sizeOf,typeInfo,g2,g3,e1,e2]
     ·exact⟨Nat.zero_le _,fun _=>⟨oM,by rw[g4];exact⟨p,rfl⟩⟩⟩
    ·rw[g4] at hv;obtain⟨p,hv,hp⟩:=hv;have hb:=zR (P:=P) hR hlo hhi true len (cap-lo0) oM h1 h2 oM;refine⟨.slice (if cap-lo0=(lowT l).toNat then p else p.map (·.add ((lowT l).toNat*k))) ((zi len hh).toNat-(lowT l).toNat) (cap-lo0-(lowT l).toNat),?_,.vw _ _ _ _ _ (by rw[hg];simp) fun k2 xs2 fz2 hg2=>?_⟩
     ·simp [execOp,ho,hv,Instr.sliceAt,run_underlying g1,Instr.slice,hb,sizeOf,typeInfo,g2,g3]
     ·rw[hg] at hg2;injection hg2 with hg2;injection hg2 with e1 e2 e3
      subst e1 e2 e3;refine⟨oM,fun _=>⟨oM,?_⟩⟩;rw[g4];refine⟨_,by rw[Nat.sub_sub],fun hlt=>?_⟩;rw[Aq oM,hp oM];simp [zt,EY]
   ·cases h
  ·cases h
 ·cases h
end
end Go.TL
namespace Go.TL
def wi (b:UInt8):T:=.v (.int .u8 b.toNat)
def WH:T→UInt8
 | .v (.int .u8 n)=>UInt8.ofNat n.toNat
 | _=>0
def yp:T→Bool
 | .v (.int .u8 _)=>true
 | _=>false
def zU5:T→Int
 | .v (.int _ n)=>n
 | _=>0
def conT (st:Sto) (x:T):Option (Option Nat×List T):=
 match x with
 | .sl k xs=>some (some k,xs)
 | .asl id m=>match get st id with
   | some (.arr k xs _)=>some (some k,xs)
   | _=>none
 | .v (.slice none 0 0)=>some (none,[])
 | .vw id _ lo len=>match get st id with
   | some (.arr k xs _)=>some (some k,(xs.drop lo).take len)
   | _=>none
 | _=>none
def conS (st:Sto) (x:T):Prop:=
 match x with
 | .asl id m=>zr st id m
 | .vw id m _ _=>zr st id m
 | _=>True
section
variable {P:Program} {e:Env} {o:Oper} {s:St}
theorem Rel.con {ι:Iota} {a:Act} {w:World} (hR:Rel e s ι a w) {v:Value} {x:T} (hv:Rp s.st ι w (Av e s.st ι w) v x) {k:Option Nat} {xs:List T} (h:conT s.st x=some (k,xs)) (hs:conS s.st x) :
 ∃ (p:Option Addr) (cap:Nat) (us:List Value),v = .slice p xs.length cap∧xs.length≤cap∧(∀ k',k=some k'→∀ y∈xs,y.cells.length=k')∧(k=none→xs=[])∧us.length=(flat xs).length∧
  (0<xs.length→p≠none)∧
  (∀ (j:Nat) (u:Value),us[j]?=some u→∃ ad,p=some ad∧w.cell? (ad.add j)=some u∧u.oneCell'=true)∧
  (∀ (j:Nat) (u:Value) (c:T),us[j]?=some u→(flat xs)[j]?=some c→Rp s.st ι w (Av e s.st ι w) u c):=by
 unfold conT at h;split at h
 ·injection h with h;injection h with h1 h2;subst h1 h2;obtain⟨p,cap,us,hv,c1,c2,c3,c4,c5,c6⟩:=hv.im_sl.sl_inv;refine⟨p,cap,us,hv,c1,?_,sMp,c3,c4,fun j u hu=>?_,fun j u c hu hc=>.im (c6 j u c hu hc)⟩
  ·intro k' hk';injection hk' with hk';subst hk';exact c2
  ·obtain⟨ad,e1,_,e2,e3⟩:=c5 j u hu;exact⟨ad,e1,e2,e3⟩
 ·rename_i id m;split at h
  ·rename_i k' xs' fz hg;injection h with h;injection h with h1 h2;subst h1 h2;obtain⟨k2,xs2,fz2,hg2,hm⟩:=zp.1 hs;rw[hg] at hg2;injection hg2 with hg2;injection hg2 with e1 e2 e3
   subst e1 e2 e3;have hv:=hv.asl_inv hg hm;obtain⟨hk,hob⟩:=hR.ob id _ hg;rcases hob with⟨g4,rfl⟩ | ⟨b,cap,cur,E,g4,g5,g6,g7,g8,g9⟩
   ·simp only[Cw] at hm;subst hm;rw[g4] at hv;obtain⟨p,hv⟩:=hv;exact⟨p,0,[],hv,BZ _,sMp,sMp,by simp [flat],sMp,sMp,sMp⟩
   ·have hfl:=qH hk;have hle:xs'.length*k'≤cap*k':=CZ k' g7;refine⟨some ⟨b,0,none⟩,cap,cur.toList.take (xs'.length*k'),by rw[g4] at hv;rw[hm];exact hv,g7,?_,sMp,by rw[hfl];simp;omega,sMp,fun j u hu=>?_,fun j u c hu hc=>?_⟩
    ·intro k'' hk'';injection hk'' with hk'';subst hk'';exact hk
    ·rw[BQ] at hu;split at hu
     ·rename_i hj;obtain⟨c,hc⟩:∃ c,(flat xs')[j]?=some c:=⟨(flat xs')[j]'(by rw[hfl];exact hj),by simp [hfl,hj]⟩;refine⟨_,rfl,?_,(g9 j u c (by simpa using hu) hc).1⟩;rw[zt,wD g5];simpa using hu
     ·cases hu
    ·rw[BQ] at hu;split at hu
     ·exact (g9 j u c (by simpa using hu) hc).2
     ·cases hu
  ·cases h
 ·injection h with h;injection h with h1 h2;subst h1 h2;have:=hv.v_inv;exact⟨none,0,[],this,BZ _,sMp,sMp,by simp [flat],sMp,sMp,sMp⟩
 ·rename_i id m lo len;split at h
  ·rename_i k' xs' fz hg;injection h with h;injection h with h1 h2;subst h1 h2;obtain⟨k2,xs2,fz2,hg2,hm⟩:=zp.1 hs;rw[hg] at hg2;injection hg2 with hg2;injection hg2 with e1 e2 e3
   subst e1 e2 e3;obtain⟨hle0,hvw⟩:=hv.vw_inv hg hm;clear hv;have hv:=hvw;clear hvw;obtain⟨hk,hob⟩:=hR.ob id _ hg;have hxl:((xs'.drop lo).take len).length=len:=by simp;omega
   have hk2:∀ y∈(xs'.drop lo).take len,y.cells.length=k':=fun y hy=>hk y (EW (EX hy));rw[hxl];rcases hob with⟨g4,rfl⟩ | ⟨b,cap,cur,E,g4,g5,g6,g7,g8,g9⟩
   ·simp only[Cw] at hm;subst hm;rw[g4] at hv;obtain⟨p,hv⟩:=hv;have:len=0:=by omega
    subst this;exact⟨p,0,[],hv,BZ _,sMp,sMp,by simp [flat],sMp,sMp,sMp⟩
   ·have hfl:=qH hk;have hle:xs'.length*k'≤cap*k':=CZ k' g7;have hle2:(lo+len)*k'≤xs'.length*k':=CZ k' oM;have hfl2:flat ((xs'.drop lo).take len)=((flat xs').drop (lo*k')).take (len*k'):=by
     rw[ZE (fun x hx=>hk x (EW hx)),YY hk]
    rw[g4] at hv;obtain⟨p,hv,hp⟩:=hv;rw[EY] at hle2;have hat:∀ (j:Nat) (u:Value),((cur.toList.drop (lo*k')).take (len*k'))[j]?=some u→j<len*k'∧cur[lo*k'+j]?=some u:=by
     intro j u hu;rw[BQ] at hu;split at hu
     ·rename_i hj;rw[Dx] at hu;exact⟨hj,by simpa using hu⟩
     ·cases hu
    refine⟨p,cap-lo,(cur.toList.drop (lo*k')).take (len*k'),hv,oM,?_,sMp,by rw[qH hk2,hxl];simp;omega,fun hpos=>by rw[hp oM];simp,fun j u hu=>?_,fun j u c hu hc=>?_⟩
    ·intro k'' hk'';injection hk'' with hk'';subst hk'';exact hk2
    ·obtain⟨hj,hu⟩:=hat j u hu;have hlen:0<len:=by
      rcases DQ len with h0 | h0
      ·subst h0;simp at hj
      ·exact h0
     obtain⟨c,hc⟩:∃ c,(flat xs')[lo*k'+j]?=some c:=⟨(flat xs')[lo*k'+j]'(by rw[hfl];omega),by simp [hfl]⟩;refine⟨_,hp oM,?_,(g9 _ u c hu hc).1⟩;rw[zt,wD g5];exact hu
    ·obtain⟨hj,hu⟩:=hat j u hu;rw[hfl2,BQ,Aj hj,Dx] at hc;exact (g9 _ u c hu hc).2
  ·cases h
 ·cases h
def lenT (P:Program) (st:Sto) (ty:TypeId) (x:T):Option Res:=
 match P.underlying ty,x with
 | some .string,.v (.string s)=>retI .i64 s.size
 | some (.slice _),.asl id m=>some ⟨zr st id m,.v (.int .i64 m),[]⟩
 | some (.slice _),.sl _ xs=>retI .i64 xs.length
 | some (.slice _),.v (.slice none 0 0)=>retI .i64 0
 | some (.slice _),.vw id m lo len=>some ⟨zr st id m,.v (.int .i64 len),[]⟩
 | some (.array n _),_=>retI .i64 n
 | _,_=>none
theorem jr4 {x:Operand} {ty:TypeId} {pos:Nat} (ho:o.op = .call { callee:=.builtin .len,args:=#[x],argTypes:=#[ty] }) {r:Res} (h:lenT P s.st ty (Operand.t s x)=some r) (hs:r.side):Does P e o s r.val r.wr:=by
 unfold lenT at h;split at h
 ·rename_i str hu hx;simp [retI,ret] at h;subst h;refine Does.of_value fun ι act w hR=>⟨_,?_,.im (.v _)⟩;have hv:=(hx ▸ hR.rp x).v_inv;simp [execOp,ho,resolve,invoke,builtin,Builtin.len_,hv,run_underlying hu,goInt]
 ·rename_i el id m hu hx;injection h with h;subst h;obtain⟨k,xs,fz,hg,hm⟩:=zp.1 hs;refine Does.of_value fun ι act w hR=>⟨_,?_,.im (.v _)⟩;have hv:=(hx ▸ hR.rp x).asl_inv hg hm;have:∃ p c,act.eval x = .slice p m c:=by
   rcases (hR.ob id _ hg).2 with⟨g4,h0⟩ | ⟨b,cap,_,_,g4,_⟩
   ·subst h0;simp at hm;subst hm;rw[g4] at hv;obtain⟨p,hv⟩:=hv;exact⟨_,_,hv⟩
   ·rw[g4] at hv;exact⟨_,_,hv⟩
  obtain⟨p,c,hv⟩:=this;simp [execOp,ho,resolve,invoke,builtin,Builtin.len_,hv,run_underlying hu,goInt]
 ·rename_i el k xs hu hx;simp [retI,ret] at h;subst h;refine Does.of_value fun ι act w hR=>⟨_,?_,.im (.v _)⟩;obtain⟨p,cap,us,hv,_⟩:=(hx ▸ hR.rp x).im_sl.sl_inv;simp [execOp,ho,resolve,invoke,builtin,Builtin.len_,hv,run_underlying hu,goInt]
 ·rename_i el hu hx;simp [retI,ret] at h;subst h;refine Does.of_value fun ι act w hR=>⟨_,?_,.im (.v _)⟩;have hv:=(hx ▸ hR.rp x).v_inv;simp [execOp,ho,resolve,invoke,builtin,Builtin.len_,hv,run_underlying hu,goInt]
 ·rename_i el id m lo len hu hx;injection h with h;subst h;obtain⟨k,xs,fz,hg,hm⟩:=zp.1 hs;refine Does.of_value fun ι act w hR=>⟨_,?_,.im (.v _)⟩;obtain⟨hle,hv⟩:=(hx ▸ hR.rp x).vw_inv hg hm;have:∃ p c,act.eval x = .slice p len c:=by
   rcases (hR.ob id _ hg).2 with⟨g4,h0⟩ | ⟨b,cap,_,_,g4,_⟩
   ·subst h0;simp at hm;subst hm;rw[g4] at hv;obtain⟨p,hv⟩:=hv;have:len=0:=by omega
    subst this;exact⟨_,_,hv⟩
   ·rw[g4] at hv;obtain⟨p,hv,_⟩:=hv;exact⟨_,_,hv⟩
  obtain⟨p,c,hv⟩:=this;simp [execOp,ho,resolve,invoke,builtin,Builtin.len_,hv,run_underlying hu,goInt]
 ·rename_i n el hu;simp [retI,ret] at h;subst h;refine Does.of_value fun ι act w hR=>⟨_,?_,.im (.v _)⟩;simp [execOp,ho,resolve,invoke,builtin,Builtin.len_,run_underlying hu,goInt]
 ·cases h
def zP1:List T→Option (List Int)
 | []=>some []
 | .v (.int .i64 n)::r=>(zP1 r).map (n::·)
 | _=>none
def minI (a b:Int):Int:=if b<a then b else a
def maxI (a b:Int):Int:=if b>a then b else a
def qn2 (f:Int→Int→Int) (xs:List T):Option Res:=
 match zP1 xs with
 | some (n::ns)=>retI .i64 (ns.foldl f n)
 | _=>none
theorem qg4 {ι:Iota} {act:Act} {w:World} (hR:Rel e s ι act w):∀ (args:List Operand) (ns:List Int),zP1 (args.map (Operand.t s))=some ns→args.map act.eval=ns.map (Value.int .i64)
 | [],ns,h=>by simp [zP1] at h;subst h;rfl
 | x::r,ns,h=>by
   simp only[List.map_cons] at h;generalize hx:Operand.t s x=tx at h;unfold zP1 at h;split at h
   ·rename_i heq;cases heq
   ·rename_i n r' heq;injection heq with h1 h2;subst h1 h2;cases hr:zP1 (r.map (Operand.t s)) with
    | none=>simp [hr] at h
    | some ms=>
      simp [hr] at h;subst h;have:=qg4 hR r ms hr;simp [this,(hx ▸ hR.rp x).v_inv]
   ·cases h
theorem qr7 {P:Program} {w:World}:∀ (ns:List Int) (n:Int),((ns.map (Value.int .i64)).foldlM Builtin.min2 (.int .i64 n)).run P w = .ok (.int .i64 (ns.foldl minI n)) w
 | [],n=>by simp
 | m::ns,n=>by
   simp only[List.map_cons,List.foldlM_cons,Sem.run_bind,Builtin.min2,Dw];have:=qr7 (P:=P) (w:=w) ns (minI n m);simpa [minI] using this
theorem qr8 {P:Program} {w:World}:∀ (ns:List Int) (n:Int),((ns.map (Value.int .i64)).foldlM Builtin.max2 (.int .i64 n)).run P w = .ok (.int .i64 (ns.foldl maxI n)) w
 | [],n=>by simp
 | m::ns,n=>by
   simp only[List.map_cons,List.foldlM_cons,Sem.run_bind,Builtin.max2,Dw];have:=qr8 (P:=P) (w:=w) ns (maxI n m);simpa [maxI] using this
theorem jr5 {args:Array Operand} {tys:Array TypeId} (ho:o.op = .call { callee:=.builtin .min,args:=args,argTypes:=tys }) {r:Res} (h:qn2 minI (args.toList.map (Operand.t s))=some r) (hs:r.side):Does P e o s r.val r.wr:=by
 unfold qn2 at h;split at h
 ·rename_i n ns hi;simp [retI,ret] at h;subst h;refine Does.of_value fun ι act w hR=>⟨_,?_,.im (.v _)⟩;have:=qg4 hR _ _ hi;have ha:(args.map act.eval).toList=(n::ns).map (Value.int .i64):=by rw[Array.toList_map];exact this
  simp only[execOp,ho,resolve,invoke,builtin,Builtin.min_,Sem.run_bind,Sem.run_pure,Result.andThen_ok,ha,List.map_cons,qr7]
 ·cases h
theorem jr6 {args:Array Operand} {tys:Array TypeId} (ho:o.op = .call { callee:=.builtin .max,args:=args,argTypes:=tys }) {r:Res} (h:qn2 maxI (args.toList.map (Operand.t s))=some r) (hs:r.side):Does P e o s r.val r.wr:=by
 unfold qn2 at h;split at h
 ·rename_i n ns hi;simp [retI,ret] at h;subst h;refine Does.of_value fun ι act w hR=>⟨_,?_,.im (.v _)⟩;have:=qg4 hR _ _ hi;have ha:(args.map act.eval).toList=(n::ns).map (Value.int .i64):=by rw[Array.toList_map];exact this
  simp only[execOp,ho,resolve,invoke,builtin,Builtin.max_,Sem.run_bind,Sem.run_pure,Result.andThen_ok,ha,List.map_cons,qr8]
 ·cases h
def isU8 (P:Program) (t:TypeId):Bool:=match P.underlying t with | some (.int .u8)=>true | _=>false
def qn3 (P:Program) (st:Sto) (src dst:TypeId) (x:T):Option Res:=
 match P.underlying src,P.underlying dst with
 | some _,some (.int k)=>match x with
   | .v (.int _ n)=>retI k (k.wrap n)
   | _=>none
 | some (.slice el),some .string=>match conT st x with
   | some (_,xs)=>if isU8 P el then some ⟨conS st x∧∀ y∈xs,yp y=true,.v (.string ⟨(xs.map WH).toArray⟩),[]⟩ else none
   | none=>none
 | some _,some .string=>match x with
   | .v (.string s)=>ret (.v (.string s))
   | _=>none
 | some _,some (.slice el)=>match x with
   | .v (.string s)=>if isU8 P el then ret (.sl 1 (s.data.toList.map wi)) else none
   | _=>none
 | _,_=>none
theorem zP2 (ns:List UInt8) (r:ByteArray):ns.foldl (fun r b=>r.push b) r=⟨r.data++ns.toArray⟩:=by
 induction ns generalizing r with
 | nil=>simp
 | cons b ns ih=>
   simp only[Dw];rw[ih];simp [ByteArray.push]
theorem qg5 {xs:List T} (h:∀ y∈xs,yp y=true):flat xs=xs:=by
 induction xs with
 | nil=>rfl
 | cons x xs ih=>
   have h1:=h x sMp;have h2:=ih (fun y hy=>h y (by simp [hy]));simp only[flat,Gq] at h2 ⊢
   rw[h2];cases x <;> first | rfl | (simp [yp] at h1;done)
theorem zu3 {α:Type} (a:Array α) (x:α) (f:α→α):(a.push x).modify a.size f=a.push (f x):=by
 apply Array.ext_getElem?
 intro i;rw[Array.getElem?_modify,Array.getElem?_push,Array.getElem?_push];by_cases h:i=a.size
 ·subst h;simp
 ·rw[Aq oM,Aq h,Aq h]
theorem jJ0 {P:Program} {src dst el:TypeId} {d:TypeDesc} (h1:P.underlying src=some d) (h2:P.underlying dst=some (.slice el)) (hu:P.underlying el=some (.int .u8)) (str:ByteArray) (w:World) :
 ∃ cap cur,str.size≤cap∧cur.toList.take str.size=str.data.toList.map (fun b=>Value.int .u8 b.toNat)∧(convert src dst (.string str)).run P w = .ok (.slice (some ⟨w.heap.size,0,none⟩) str.size cap) (w.drew.alloc (.cells cur el (cur.size,cur.size+1))):=by
 refine⟨grownCap w str.size 0 el,(str.data.map fun b=>Value.int .u8 b.toNat)++Array.replicate (grownCap w str.size 0 el-str.size) (.int .u8 0),grownCap_ge w _ _ _,?_,?_⟩
 ·simp
 ·have:(convert src dst (.string str)).run P w=(Conv.stringToBytes el str).run P w:=by
   cases d <;> simp [convert,run_underlying h1,run_underlying h2,run_underlying hu]
  rw[this];simp only[Conv.stringToBytes,choose,Sem.run_bind,markStringish,newRow,newObj,Go.shape,freeze];simp [Sem.run,grownCap,Question.forced,World.drew,World.alloc,World.shape?,World.freeze,zu3,-World.alloc_eq,-World.drew_eq]
theorem zU6 {src dst:TypeId} {x:Operand} (ho:o.op = .convert src dst x) {r:Res} (h:qn3 P s.st src dst (Operand.t s x)=some r) (hs:r.side):Does P e o s r.val r.wr:=by
 unfold qn3 at h;split at h
 ·rename_i d k h1 h2;split at h
  ·rename_i kd n hx;simp [retI,ret] at h;subst h;refine Does.of_value fun ι act w hR=>⟨_,?_,.im (.v _)⟩;have hv:=(hx ▸ hR.rp x).v_inv;simp [execOp,ho,convert,run_underlying h1,run_underlying h2,hv,Conv.intToInt]
  ·cases h
 ·rename_i el h1 h2;split at h
  ·rename_i kk xs hc;split at h
   ·rename_i hu8;have hu:P.underlying el=some (.int .u8):=by
     unfold isU8 at hu8;split at hu8
     ·rename_i hu;exact hu
     ·cases hu8
    injection h with h;subst h;obtain⟨hcs,hby⟩:=hs;refine Does.of_value fun ι act w hR=>⟨_,?_,.im (.v _)⟩;obtain⟨p,cap,us,hv,c1,c2,c2',c3,c4,c5,c6⟩:=hR.con (hR.rp x) hc hcs;rw[qg5 hby] at c3 c6;have hus:us=(xs.map zU5).map (Value.int .u8):=by
     apply List.ext_getElem?
     intro j;simp only[DY,Option.map_map];by_cases hj:j<us.length
     ·have hj':j<xs.length:=by omega
      have h6:=c6 j us[j] xs[j] (by simp [hj]) (by simp [hj']);have hb:=hby xs[j] sMp;rw[CK hj,CK hj'];simp only[Ej,Function.comp];generalize xs[j]=y at *
      cases y with
      | v x=>
        cases x with
        | int k n=>cases k <;> first | (simp [yp] at hb;done) | (rw[h6.v_inv];rfl)
        | _=>simp [yp] at hb
      | _=>simp [yp] at hb
     ·rw[List.getElem?_eq_none oM,List.getElem?_eq_none oM];rfl
    have hstr:∀ (ys:List T) (r:ByteArray),(ys.map zU5).foldl (fun r n=>r.push (UInt8.ofNat n.toNat)) r=(ys.map WH).foldl (fun r b=>r.push b) r∨¬ ∀ y∈ys,yp y=true:=by
     intro ys
     induction ys with
     | nil=>intro r;exact .inl rfl
     | cons y ys ih=>
       intro r;by_cases hy:∀ z∈y::ys,yp z=true
       ·left
        simp only[List.map_cons,Dw];have h1:UInt8.ofNat (zU5 y).toNat=WH y:=by
         have hb:=hy y sMp;cases y with
         | v x=>
           cases x with
           | int k n=>cases k <;> first | (simp [yp] at hb;done) | rfl
           | _=>simp [yp] at hb
         | _=>simp [yp] at hb
        rw[h1];rcases ih (r.push (WH y)) with h | h
        ·exact h
        ·exact absurd (fun z hz=>hy z (by simp [hz])) h
       ·exact .inr hy
    have hfold:(xs.map zU5).foldl (fun r n=>r.push (UInt8.ofNat n.toNat)) ByteArray.empty=⟨(xs.map WH).toArray⟩:=by
     rcases hstr xs ByteArray.empty with h | h
     ·rw[h,zP2];show ByteArray.mk (#[]++_)=_;rw[Array.empty_append]
     ·exact absurd hby h
    have hcv:=run_convert_bytes_string (P:=P) w src dst el p xs.length cap h1 hu h2;simp only[execOp,ho,hv,Sem.run_bind,hcv];cases p with
    | none=>
      have hx0:xs=[]:=by
       apply AQ
       intro hn;exact c4 (List.length_pos_iff.2 hn) rfl
      subst hx0;simp [Conv.bytesToString];rfl
    | some ad=>
      have hlc:(loadCells ad xs.length).run P w = .ok ((xs.map zU5).map (Value.int .u8)).toArray w:=by
       rw[← hus,← c3];exact run_loadCells_list w ad us fun j u hu=>by obtain⟨ad',e1,e2,_⟩:=c5 j u hu;injection e1 with e1;subst e1;exact e2
      rw[run_bytesToString w ad xs.length cap _ hlc,hfold];simp
   ·cases h
  ·cases h
 ·rename_i d hne h1 h2;split at h
  ·rename_i str hx;simp [ret] at h;subst h;refine Does.of_value fun ι act w hR=>⟨_,?_,.im (.v _)⟩;have hv:=(hx ▸ hR.rp x).v_inv;simp [execOp,ho,convert,run_underlying h1,run_underlying h2,hv]
  ·cases h
 ·rename_i d el h1 h2;split at h
  ·rename_i str hx;split at h
   ·rename_i hu8;have hu:P.underlying el=some (.int .u8):=by
     unfold isU8 at hu8;split at hu8
     ·rename_i hu;exact hu
     ·cases hu8
    simp [ret] at h;subst h;refine Does.of_run fun ι act w hR=>?_;have hv:=(hx ▸ hR.rp x).v_inv;obtain⟨cap,cur,hc,htk,hrun⟩:=jJ0 (P:=P) h1 h2 hu str w;have hR1:Rel e s ι act w.drew:=hR.heap rfl rfl rfl rfl;obtain⟨hR2,_⟩:=hR1.alloc (.cells cur el (cur.size,cur.size+1));refine⟨.slice (some ⟨w.heap.size,0,none⟩) str.size cap,_,ι,?_,hR2,?_⟩
    ·simp only[execOp,ho,hv,Sem.run_bind];rw[hrun];simp
    ·have hfl:flat (str.data.toList.map wi)=str.data.toList.map wi:=qg5 (fun y hy=>by
      obtain⟨b,_,rfl⟩:=Cj.1 hy;rfl)
     have hb:(w.drew.alloc (.cells cur el (cur.size,cur.size+1))).heap[w.heap.size]?=some (.cells cur el (cur.size,cur.size+1)):=heap_alloc_new w.drew _;refine .im (.sl (some ⟨w.heap.size,0,none⟩) str.size cap 1 _ (str.data.toList.map fun b=>Value.int .u8 b.toNat) (by rw[BY,Array.length_toList];rfl) hc ?_ (by rw[hfl];simp) sMp ?_ ?_)
     ·intro y hy;obtain⟨b,_,rfl⟩:=Cj.1 hy;rfl
     ·intro j u hu';refine⟨_,rfl,hR1.av_alloc _ _ (by rw[zt];rfl),?_,?_⟩
      ·rw[zt,wD hb];rw[← htk,BQ] at hu';split at hu'
       ·simpa using hu'
       ·cases hu'
      ·simp only[DY] at hu';cases hj:str.data.toList[j]? with
       | none=>simp [hj] at hu'
       | some b=>simp [hj] at hu';subst hu';rfl
     ·intro j u c hu' hc';rw[hfl] at hc';simp only[DY] at hu' hc';cases hj:str.data.toList[j]? with
      | none=>simp [hj] at hu'
      | some b=>simp [hj] at hu' hc';subst hu' hc';exact .v _
   ·cases h
  ·cases h
 ·cases h
end
end Go.TL
namespace Go.TL
def qS6 (d:TypeDesc):Prop:=d = .string∨∃ q,d = .slice q
section
variable {P:Program} {w:World}
theorem ze5 (t tx ty el:TypeId) (i:TypeInfo) (d:TypeDesc) (ht:P.underlying t=some (.slice el)) (hx:P.underlying tx=some d) (hd:qS6 d) (hi:P.info? el=some i)
 (b m cap n:Nat) (cur:Array Value) (hb:w.heap[b]?=some (.cells cur el (0,0))∨∃ E,w.heap[b]?=some (.cells cur E (0,0))) (y:Value) (news:List Value)
 (hL:∀ w':World,(Builtin.lenOf y).run P w' = .ok n w') (hY:∀ w':World,w'.heap=w.heap→(Builtin.firstCells i.size n y).run P w' = .ok news.toArray w')
 (hn:news.length=n*i.size) (h1:∀ u∈news,u.oneCell'=true) (hroom:m+n≤cap) (hfit:m*i.size+news.length≤cur.size) :
 (Builtin.append_ #[t,tx] ty #[.slice (some ⟨b,0,none⟩) m cap,y]).run P w =
   .ok (.slice (some ⟨b,0,none⟩) (m+n) cap) (w.setRow b (cur.toList.take (m*i.size)++news++cur.toList.drop (m*i.size+news.length)).toArray):=by
 obtain⟨E,hb⟩:∃ E,w.heap[b]?=some (.cells cur E (0,0)):=by
  rcases hb with hb | hb
  ·exact⟨_,hb⟩
  ·exact hb
 have hst:=run_storeCells_at P b (m*i.size) E news 0 cur w hb (by simpa using hfit) h1;simp only[Nat.add_zero] at hst;rcases hd with rfl | ⟨q,rfl⟩ <;>
 simp [Builtin.append_,run_underlying ht,run_underlying hx,sizeOf,typeInfo,hi,hL,hroom,hY,hst,zt]
theorem qS7 (t tx ty el:TypeId) (i:TypeInfo) (d:TypeDesc) (ht:P.underlying t=some (.slice el)) (hx:P.underlying tx=some d) (hd:qS6 d) (hi:P.info? el=some i)
 (b off m cap n:Nat) (cur:Array Value) (hb:∃ E,w.heap[b]?=some (.cells cur E (0,0))) (y:Value) (news:List Value)
 (hL:∀ w':World,(Builtin.lenOf y).run P w' = .ok n w') (hY:∀ w':World,w'.heap=w.heap→(Builtin.firstCells i.size n y).run P w' = .ok news.toArray w')
 (hn:news.length=n*i.size) (h1:∀ u∈news,u.oneCell'=true) (hroom:m+n≤cap) (hfit:off+m*i.size+news.length≤cur.size) :
 (Builtin.append_ #[t,tx] ty #[.slice (some ⟨b,off,none⟩) m cap,y]).run P w =
   .ok (.slice (some ⟨b,off,none⟩) (m+n) cap) (w.setRow b (cur.toList.take (off+m*i.size)++news++cur.toList.drop (off+m*i.size+news.length)).toArray):=by
 obtain⟨E,hb⟩:=hb;have hst:=run_storeCells_at P b (off+m*i.size) E news 0 cur w hb (by simpa using hfit) h1;simp only[Nat.add_zero] at hst;rcases hd with rfl | ⟨q,rfl⟩ <;>
 simp [Builtin.append_,run_underlying ht,run_underlying hx,sizeOf,typeInfo,hi,hL,hroom,hY,hst,zt]
theorem qk8 (t tx ty el:TypeId) (i:TypeInfo) (z:Value) (d:TypeDesc) (ht:P.underlying t=some (.slice el)) (hx:P.underlying tx=some d) (hd:qS6 d) (hi:P.info? el=some i) (hz:i.zero=some z)
 (p:Option Addr) (m cap n:Nat) (y:Value) (olds news:List Value)
 (hO:∀ w':World,w'.heap=w.heap→(Builtin.firstCells i.size m (.slice p m cap)).run P w' = .ok olds.toArray w')
 (hL:∀ w':World,(Builtin.lenOf y).run P w' = .ok n w') (hY:∀ w':World,w'.heap=w.heap→(Builtin.firstCells i.size n y).run P w' = .ok news.toArray w')
 (hg:cap<m+n) (h63:m+n≤9223372036854775807) (hby:0<i.bytes) (hfit:(m+n)*i.bytes≤140737488355328) :
 (Builtin.append_ #[t,tx] ty #[.slice p m cap,y]).run P w =
   .ok (.slice (some ⟨w.heap.size,0,none⟩) (m+n) (grownCap w (m+n) cap el))
    (w.drew.alloc (.cells (olds.toArray++news.toArray++Builtin.zeroCells z.cells (grownCap w (m+n) cap el-(m+n))) el)):=by
 have hO':=hO w.drew rfl;have hY':=hY w.drew rfl;have hn:¬ (m+n≤cap):=by omega
 have h63':¬ (9223372036854775807<((m:Int)+(n:Int))):=by omega
 have h48':¬ (281474976710656<Builtin.nextslicecap (m+n) cap*i.bytes):=by
  have:=growslice_fits (need:=m+n) (old:=cap) (bytes:=i.bytes) hg hfit;omega
 rcases hd with rfl | ⟨q,rfl⟩ <;>
 simp [Builtin.append_,run_underlying ht,run_underlying hx,sizeOf,typeInfo,zeroValue,hi,hz,hL,hn,h63',h48',Question.forced,hO',hY',newRow,grownCap]
 all_goals (congr 2;apply Array.ext';simp [Dj])
end
def byT (P:Program) (t:TypeId):Option Nat:=
 match P.underlying t with
 | some (.slice e)=>(P.info? e).map (·.bytes)
 | _=>none
def zrOk (P:Program) (t:TypeId):Bool:=
 match P.underlying t with
 | some (.slice e)=>match P.info? e with
   | some i=>match i.zero with
     | some z=>z.cells.size==i.size&&z.cells.all (fun u=>u.oneCell')
     | none=>false
   | none=>false
 | _=>false
def appY (P:Program) (st:Sto) (ty1:TypeId) (y:T):Option (Option Nat×List T):=
 match P.underlying ty1 with
 | some .string=>match y with
   | .v (.string s)=>some (some 1,s.data.toList.map wi)
   | _=>none
 | some (.slice _)=>conT st y
 | _=>none
def capK:Nat:=1073741824
def zB4 (st:Sto) (id m:Nat):Bool:=match get st (id+capK) with
 | some (.full i n' _)=>i==id&&n'==m
 | _=>false
def zu4 (st:Sto) (nid k b id m lo len:Nat) (ys:List T) (p:Prop):Option Res:=
 match get st id with
 | some (.arr k0 xs fz)=>if k0=k then
    if zB4 st id m=true∧¬ (lo+len+ys.length≤m) then
     some ⟨xs.length=m∧get st nid=none∧p∧m<lo+len+ys.length∧0<b∧(len+ys.length)*b≤140737488355328,.asl nid (len+ys.length),[(nid,.arr k ((xs.drop lo).take len++ys) false)]⟩
    else if fz=false then
     some ⟨xs.length=m∧p∧lo<m∧lo+len+ys.length≤m,.vw id m lo (len+ys.length),[(id,.arr k (xs.take (lo+len)++ys++xs.drop (lo+len+ys.length)) false)]⟩
    else none
   else none
 | _=>none
def qg6 (P:Program) (s:St) (nid:Nat) (ty0 ty1:TypeId) (x y:T):Option Res:=
 match ixT P ty0,byT P ty0,zrOk P ty0,appY P s.st ty1 y with
 | some (none,k),some by_,true,some (k',ys)=>
   if (k'=none∨k'=some k) then
    match x with
    | .asl id m=>match get s.st id with
      | some (.arr k0 xs fz)=>if k0=k then
         some ⟨xs.length=m∧conS s.st y∧0<by_∧(m+ys.length)*by_≤140737488355328,.asl id (m+ys.length),[(id,.arr k (xs++ys) fz)]⟩ else none
      | _=>none
    | .v (.slice none 0 0)=>some ⟨get s.st nid=none∧conS s.st y∧0<by_∧ys.length*by_≤140737488355328,.asl nid ys.length,[(nid,.arr k ys false)]⟩
    | .vw id m lo len=>zu4 s.st nid k by_ id m lo len ys (conS s.st y)
    | _=>none
   else none
 | _,_,_,_=>none
section
variable {P:Program} {e:Env} {o:Oper} {s:St}
theorem ke {w:World} (size n:Nat) (p:Option Addr) (cap:Nat) (us:List Value) (hl:us.length=n*size) (hp:0<n→p≠none)
 (h:∀ (j:Nat) (u:Value),us[j]?=some u→∃ ad,p=some ad∧w.cell? (ad.add j)=some u) (w':World) (hw:w'.heap=w.heap) :
 (Builtin.firstCells size n (.slice p n cap)).run P w' = .ok us.toArray w':=by
 cases p with
 | none=>
   have:n=0:=by
    apply AQ
    intro hn;exact hp oM rfl
   subst this;have:us=[]:=DK (by simpa using hl);subst this;simp [Builtin.firstCells]
 | some ad=>
   exact run_firstCells_some (P:=P) w' size n ad n cap us hl fun j u hu=>by
    obtain⟨ad',e1,e2⟩:=h j u hu;injection e1 with e1;subst e1;rw[World.cell?_of_block (w:=w) (by rw[hw])];exact e2
theorem YZ {w:World} (str:ByteArray):(Builtin.firstCells 1 str.size (.string str)).run P w = .ok ((str.data.toList.map fun b=>Value.int .u8 b.toNat)).toArray w:=by
 have h:str.extract 0 str.size=str:=by simp
 simp only[Builtin.firstCells,h];simp only[Sem.run_pure]
 congr 1
 apply Array.toList_inj.1
 simp
theorem Rel.appY {ι:Iota} {a:Act} {w:World} (hR:Rel e s ι a w) {ty1:TypeId} {y:Operand} {k':Option Nat} {ys:List T} {k:Nat} (hy:Go.TL.appY P s.st ty1 (Operand.t s y)=some (k',ys)) (hk:k'=none∨k'=some k) (hs:conS s.st (Operand.t s y)) :
 ∃ (d:TypeDesc) (us:List Value),P.underlying ty1=some d∧qS6 d∧(∀ x∈ys,x.cells.length=k)∧us.length=(flat ys).length∧us.length=ys.length*k∧
  (∀ w':World,(Builtin.lenOf (a.eval y)).run P w' = .ok ys.length w')∧(∀ w':World,w'.heap=w.heap→(Builtin.firstCells k ys.length (a.eval y)).run P w' = .ok us.toArray w')∧
  (∀ u∈us,u.oneCell'=true)∧(∀ (j:Nat) (u:Value) (c:T),us[j]?=some u→(flat ys)[j]?=some c→Rp s.st ι w (Av e s.st ι w) u c):=by
 unfold Go.TL.appY at hy;split at hy
 ·rename_i hu;split at hy
  ·rename_i str hx;injection hy with hy;injection hy with e1 e2;subst e1 e2;have hk1:k=1:=by
    rcases hk with hk | hk
    ·cases hk
    ·injection hk with hk;exact hk.symm
   subst hk1;have hv:=(hx ▸ hR.rp y).v_inv;have hfl:flat (str.data.toList.map wi)=str.data.toList.map wi:=qg5 (fun y hy=>by
    obtain⟨b,_,rfl⟩:=Cj.1 hy;rfl)
   have hlen:(str.data.toList.map wi).length=str.size:=by rw[BY,Array.length_toList];rfl
   refine⟨.string,str.data.toList.map fun b=>Value.int .u8 b.toNat,hu,.inl rfl,?_,by rw[hfl];simp,sMp,?_,?_,?_,?_⟩
   ·intro x hx;obtain⟨b,_,rfl⟩:=Cj.1 hx;rfl
   ·intro w';rw[hv,hlen];rfl
   ·intro w' _;rw[hv,hlen];exact YZ str
   ·intro u hu;obtain⟨b,_,rfl⟩:=Cj.1 hu;rfl
   ·intro j u c hu' hc';rw[hfl] at hc';simp only[DY] at hu' hc';cases hj:str.data.toList[j]? with
    | none=>simp [hj] at hu'
    | some b=>simp [hj] at hu' hc';subst hu' hc';exact .im (.v _)
  ·cases hy
 ·rename_i el hu;obtain⟨p,cap,us,hv,c1,c2,c2',c3,c4,c5,c6⟩:=hR.con (hR.rp y) hy hs;have hkk:∀ x∈ys,x.cells.length=k:=by
   rcases hk with hk | hk
   ·rw[c2' hk];simp
   ·exact c2 k hk
  have hfl:=qH hkk;refine⟨.slice el,us,hu,.inr ⟨_,rfl⟩,hkk,c3,by rw[c3,hfl],?_,?_,?_,c6⟩
  ·intro w';rw[hv];rfl
  ·intro w' hw';rw[hv];exact ke k ys.length p cap us (by rw[c3,hfl]) c4 (fun j u hu=>by obtain⟨ad,e1,e2,_⟩:=c5 j u hu;exact⟨ad,e1,e2⟩) w' hw'
  ·intro u hu;obtain⟨j,hj,rfl⟩:=List.mem_iff_getElem.1 hu;obtain⟨ad,_,_,e3⟩:=c5 j us[j] sMp;exact e3
 ·cases hy
theorem wj (xs ys:List T):flat (xs++ys)=flat xs++flat ys:=by simp [flat]
theorem yw {z:Array Value} {n:Nat} (h:z.all (fun u=>u.oneCell')=true):∀ (j:Nat) (u:Value),(Builtin.zeroCells z n)[j]?=some u→u.oneCell'=true:=by
 intro j u hu;unfold Builtin.zeroCells at hu;rw[Array.getElem?_map] at hu;by_cases hj:j<n*z.size
 ·have h0:0<z.size:=by
   apply Nat.pos_of_ne_zero
   intro h0;rw[h0] at hj;simp at hj
  have hmod:j % z.size<z.size:=Nat.mod_lt _ h0;simp [hj] at hu;rw[← hu,getElem!_pos z _ hmod];exact Array.all_eq_true.1 h _ hmod
 ·simp [hj] at hu
theorem Rel.appended {ι:Iota} {a:Act} {w:World} (hR:Rel e s ι a w) {ty0 ty1 ty:TypeId} {y:Operand} {k':Option Nat} {ys:List T} {k by_:Nat} (hix:ixT P ty0=some (none,k)) (hb:byT P ty0=some by_) (hz:zrOk P ty0=true)
 (hy:Go.TL.appY P s.st ty1 (Operand.t s y)=some (k',ys)) (hk:k'=none∨k'=some k) (hs:conS s.st (Operand.t s y)) (h0:0<by_)
 {id:Nat} {xs:List T} {fz:Bool} (hg:get s.st id=some (.arr k xs fz)) (hsz:(xs.length+ys.length)*by_≤140737488355328) {v0:Value} (hv0:slv (ι id) xs.length v0) :
 ∃ v' w' x',(Builtin.append_ #[ty0,ty1] ty #[v0,a.eval y]).run P w = .ok v' w'∧
  Rel e { s with st:=(id,.arr k (xs++ys) fz)::s.st } (upd ι id x') a w'∧slv x' (xs.length+ys.length) v':=by
 obtain⟨d,us,hu1,hd,hky,hul,huk,hL,hY,h1,hrp⟩:=hR.appY (k:=k) hy hk hs;obtain⟨el,inf,g1,g2,g3⟩:=ja hix;have hby:inf.bytes=by_:=by
  unfold byT at hb;rw[g1] at hb;simp [g2] at hb;exact hb
 obtain⟨z,hz1,hz2,hz3⟩:∃ z,inf.zero=some z∧z.cells.size=inf.size∧z.cells.all (fun u=>u.oneCell')=true:=by
  unfold zrOk at hz;rw[g1] at hz;simp only[g2] at hz;split at hz
  ·rename_i z hz';simp only[Bq,AY] at hz;exact⟨z,hz',hz.1,hz.2⟩
  ·cases hz
 subst hby g3;obtain⟨hkx,hob⟩:=hR.ob id _ hg;have hflx:=qH hkx;have hfly:=qH hky;have hkxy:∀ x∈xs++ys,x.cells.length=inf.size:=by
  intro x hx;rcases Dz.1 hx with hx | hx
  ·exact hkx x hx
  ·exact hky x hx
 have hbound:xs.length+ys.length≤140737488355328:=FZ (Nat.le_mul_of_pos_right _ h0) hsz;have grown:∀ (p:Option Addr) (cap:Nat) (olds:List Value),v0 = .slice p xs.length cap→cap<xs.length+ys.length→olds.length=xs.length*inf.size→
  (∀ w':World,w'.heap=w.heap→(Builtin.firstCells inf.size xs.length (.slice p xs.length cap)).run P w' = .ok olds.toArray w')→
  (∀ u∈olds,u.oneCell'=true)→
  (∀ (j:Nat) (u:Value) (c:T),olds[j]?=some u→(flat xs)[j]?=some c→u.oneCell'=true∧Rp s.st ι w (Av e s.st ι w) u c)→
  ∃ v' w' x',(Builtin.append_ #[ty0,ty1] ty #[v0,a.eval y]).run P w = .ok v' w'∧
   Rel e { s with st:=(id,.arr inf.size (xs++ys) fz)::s.st } (upd ι id x') a w'∧slv x' (xs.length+ys.length) v':=by
  intro p cap olds hp hcap hol hO hro1 hro;have hrun:=qk8 (P:=P) (w:=w) ty0 ty1 ty el inf z d g1 hu1 hd g2 hz1 p xs.length cap ys.length (a.eval y) olds us hO hL hY hcap oM h0 hsz;have hge:=grownCap_ge w (xs.length+ys.length) cap el;have hcm:grownCap w (xs.length+ys.length) cap el≤maxLen:=grownCap_le_maxLen w _ cap el (by simp only[maxLen];omega);refine⟨_,_,some (w.heap.size,grownCap w (xs.length+ys.length) cap el),by rw[hp];exact hrun,?_,rfl⟩
  let new:Array Value:=olds.toArray++us.toArray++Builtin.zeroCells z.cells (grownCap w (xs.length+ys.length) cap el-(xs.length+ys.length))
  have hR1:Rel e s ι a w.drew:=hR.heap rfl rfl rfl rfl;have hnew:new.size=grownCap w (xs.length+ys.length) cap el*inf.size:=by
   simp only[new,Array.size_append,List.size_toArray,size_zeroCells,hz2,hol,huk,← EY]
   congr 1;omega
  have hn1:∀ (j:Nat) (u:Value),new[j]?=some u→u.oneCell'=true:=by
   intro j u hu;have hm:=Array.mem_of_getElem? hu;simp only[new,Array.mem_append,List.mem_toArray] at hm;rcases hm with (hm | hm) | hm
   ·exact hro1 u hm
   ·exact h1 u hm
   ·obtain⟨i,hi,rfl⟩:=Array.getElem_of_mem hm;exact yw hz3 i _ (Eq hi)
  have ht:=hR1.turn id inf.size xs (xs++ys) fz fz hg (some (w.heap.size,grownCap w (xs.length+ys.length) cap el)) (w.drew.alloc (.cells new el)) sMp
   (fun hl=>by
     exfalso
     simp only[AW] at hl;have hy0:ys.length=0:=by omega
     rcases hob with⟨q1,q2⟩ | ⟨b',cap',cur,E,q4,q5,q6,q7,q8,q9⟩
     ·subst q2;simp at hcap;omega
     ·rw[q4] at hv0;have hv0:v0=_:=hv0;rw[hp] at hv0;simp only[Value.slice.injEq] at hv0;have:=hv0.2.2;omega)
   (fun h=>⟨h,List.prefix_append _ _⟩)
   ⟨rfl,rfl,rfl,sMp,fun k hk _=>RowKit.Below.heap_alloc w.drew _ k hk⟩
   (.inr ⟨_,_,rfl,BZ _⟩)
   (fun _ b c j u hi _ hc=>by
     have hb:=hR.blk hg hi;rw[World.cell?_of_block (w:=w) (RowKit.Below.heap_alloc w.drew _ b hb)];exact hc)
   (fun hm=>by
     refine⟨hkxy,.inr ⟨w.heap.size,_,new,el,qQ _ _ _,heap_alloc_new w.drew _,hnew,by simpa using hge,⟨hcm,hn1⟩,fun j u c hu hc=>?_⟩⟩
     suffices u.oneCell'=true∧Rp s.st ι w (Av e s.st ι w) u c from ⟨this.1,hm _ _ (Rp.mono (w:=w) (A:=Av e s.st ι w) (w':=w.drew) (A':=Av e s.st ι w.drew) (fun x hx=>⟨hx,fun u hu=>hu⟩) (Goes.refl _ _) this.2)⟩
     rw[wj] at hc;have hu':((olds++us)++(Builtin.zeroCells z.cells (grownCap w (xs.length+ys.length) cap el-(xs.length+ys.length))).toList)[j]?=some u:=by
      have:new.toList=(olds++us)++(Builtin.zeroCells z.cells (grownCap w (xs.length+ys.length) cap el-(xs.length+ys.length))).toList:=by simp [new]
      rw[← this];simpa using hu
     have hjl:j<(flat xs++flat ys).length:=(List.getElem?_eq_some_iff.1 hc).1;rw[AW,hflx,hfly] at hjl;rw[BK (by simp only[AW];omega)] at hu';by_cases hj:j<xs.length*inf.size
     ·rw[BK oM] at hu' hc;exact hro j u c hu' hc
     ·rw[BJ oM] at hu' hc;rw[hol] at hu';rw[hflx] at hc;exact⟨h1 u (BX hu'),hrp _ u c hu' hc⟩)
  exact ht.1
 rcases hob with⟨q1,q2⟩ | ⟨b,cap,cur,E,q4,q5,q6,q7,q8,q9⟩
 ·by_cases hy0:ys.length=0
  ·
    have hys:ys=[]:=DK hy0;subst q2 hys;have hus:us=[]:=DK (by simpa using huk);subst hus;have hYw:=hY w rfl;rw[q1] at hv0;obtain⟨p,rfl⟩:=hv0;have hrun:(Builtin.append_ #[ty0,ty1] ty #[.slice p 0 0,a.eval y]).run P w = .ok (.slice p 0 0) w:=by
     simp only[Cw] at hL hYw ⊢
     rcases hd with rfl | ⟨q,rfl⟩ <;> cases p <;>
     simp [Builtin.append_,run_underlying g1,run_underlying hu1,sizeOf,typeInfo,g2,hL,hYw,storeCells]
    refine⟨_,_,none,hrun,?_,p,rfl⟩;have hu:upd ι id none=ι:=by funext q;unfold upd;split <;> simp_all
    have ht:=hR.turn id inf.size [] ([]++[]) fz fz hg (ι id) w sMp (fun _=>rfl) (fun h=>⟨h,List.prefix_refl _⟩)
     ⟨rfl,rfl,rfl,BZ _,fun _ _ _=>rfl⟩ (.inl rfl) (fun _ _ _ _ _ _ _ h=>h) (fun hm=>⟨sMp,.inl ⟨by rw[qQ];exact q1,sMp⟩⟩)
    rw[q1] at ht;exact ht.1
  ·subst q2;rw[q1] at hv0;obtain⟨p,hv0⟩:=hv0;exact grown p 0 [] hv0 (by simp;omega) sMp (fun w' _=>by cases p <;> simp [Builtin.firstCells,loadCells,loadCellsFrom]) sMp sMp
 ·have hslv:v0 = .slice (some ⟨b,0,none⟩) xs.length cap:=by rw[q4] at hv0;exact hv0
  have hle:xs.length*inf.size≤cap*inf.size:=CZ _ q7;by_cases hroom:xs.length+ys.length≤cap
  ·have hfit:xs.length*inf.size+us.length≤cur.size:=by
    rw[huk,q6,← EY];exact CZ _ hroom
   have hrun:=ze5 (P:=P) (w:=w) ty0 ty1 ty el inf d g1 hu1 hd g2 b xs.length cap ys.length cur (.inr ⟨E,q5⟩) (a.eval y) us hL hY huk h1 hroom hfit
   let new:Array Value:=(cur.toList.take (xs.length*inf.size)++us++cur.toList.drop (xs.length*inf.size+us.length)).toArray
   have hnew:new.size=cur.size:=by
    simp only[new,List.size_toArray,AW,Cz,List.length_drop,Array.length_toList];omega
   have hheap:(w.setRow b new).heap[b]?=some (.cells new E (0,0)):=setRow_heap w b cur new E _ q5;have ht:=hR.turn id inf.size xs (xs++ys) fz fz hg (ι id) (w.setRow b new) sMp (fun _=>rfl) (fun h=>⟨h,List.prefix_append _ _⟩)
    ⟨rfl,rfl,rfl,by simp [World.setRow],fun c _ hc=>setRow_other w b c new (fun e=>hc (by simp [q4,e]))⟩ (.inl rfl)
    (fun _ b' c' j u hi hj hc=>by
      rw[q4] at hi;injection hi with hi;injection hi with e1 e2;subst e1 e2
      rw[wD hheap];rw[wD q5] at hc;have:new.toList[j]?=some u:=by
       simp only[new];rw[Dj,BK (by simp;omega),BQ,Aj oM];simpa using hc
      simpa using this)
    (fun hm=>by
      refine⟨hkxy,.inr ⟨b,cap,new,E,by rw[qQ];exact q4,hheap,by rw[hnew];exact q6,by simpa using hroom,⟨q8.1,qg3 q8.2 h1⟩,fun j u c hu hc=>?_⟩⟩
      suffices u.oneCell'=true∧Rp s.st ι w (Av e s.st ι w) u c from ⟨this.1,hm _ _ this.2⟩
      rw[wj] at hc;have hu':(cur.toList.take (xs.length*inf.size)++us++cur.toList.drop (xs.length*inf.size+us.length))[j]?=some u:=by simpa [new] using hu
      have hjl:j<(flat xs++flat ys).length:=(List.getElem?_eq_some_iff.1 hc).1;rw[AW,hflx,hfly] at hjl;have ht1:(cur.toList.take (xs.length*inf.size)).length=xs.length*inf.size:=by simp;omega
      rw[BK (by rw[AW,ht1];omega)] at hu';by_cases hj:j<xs.length*inf.size
      ·rw[BK oM] at hu' hc;rw[BQ,Aj hj] at hu';exact q9 j u c (by simpa using hu') hc
      ·rw[BJ oM] at hu' hc;rw[ht1] at hu';rw[hflx] at hc;exact⟨h1 u (BX hu'),hrp _ u c hu' hc⟩)
   exact⟨_,_,ι id,by rw[hslv];exact hrun,ht.1,by rw[q4];rfl⟩
  ·refine grown (some ⟨b,0,none⟩) cap (cur.toList.take (xs.length*inf.size)) hslv oM (by simp;omega) (fun w' hw'=>?_) (fun u hu=>?_) (fun j u c hu hc=>?_)
   ·exact ke inf.size xs.length _ cap _ (by simp;omega) sMp (fun j u hu=>⟨_,rfl,by
     rw[zt,wD q5];rw[BQ] at hu;split at hu
     ·simpa using hu
     ·cases hu⟩) w' hw'
   ·obtain⟨i,hi,rfl⟩:=CX (EX hu);exact q8.2 i _ (by simp at hi;simp [hi])
   ·rw[BQ] at hu;split at hu
    ·exact q9 j u c (by simpa using hu) hc
    ·cases hu
theorem Rel.splice {ι:Iota} {a:Act} {w:World} (hR:Rel e s ι a w) {id k:Nat} {xs:List T} (hg:get s.st id=some (.arr k xs false)) {at_:Nat} {ys:List T} (hky:∀ y∈ys,y.cells.length=k) (hat:at_+ys.length≤xs.length)
 {us:List Value} (hul:us.length=ys.length*k) (h1:∀ u∈us,u.oneCell'=true) (hrp:∀ (j:Nat) (u:Value) (c:T),us[j]?=some u→(flat ys)[j]?=some c→Rp s.st ι w (Av e s.st ι w) u c)
 {b cap:Nat} {cur:Array Value} {E:TypeId} (q4:ι id=some (b,cap)) (q5:w.heap[b]?=some (.cells cur E (0,0))) (q6:cur.size=cap*k) (q7:xs.length≤cap) (q8:cap≤maxLen∧∀ (j:Nat) (u:Value),cur[j]?=some u→u.oneCell'=true)
 (q9:∀ (j:Nat) (u:Value) (c:T),cur[j]?=some u→(flat xs)[j]?=some c→u.oneCell'=true∧Rp s.st ι w (Av e s.st ι w) u c) :
 Rel e { s with st:=(id,.arr k (xs.take at_++ys++xs.drop (at_+ys.length)) false)::s.st } ι a (w.setRow b (cur.toList.take (at_*k)++us++cur.toList.drop (at_*k+us.length)).toArray):=by
 have hkx:=(hR.ob id _ hg).1;have hflx:=qH hkx;have hfly:=qH hky;have hle:xs.length*k≤cap*k:=CZ _ q7;have hle2:(at_+ys.length)*k≤xs.length*k:=CZ _ hat;rw[EY] at hle2
 let new:Array Value:=(cur.toList.take (at_*k)++us++cur.toList.drop (at_*k+us.length)).toArray
 have hnew:new.size=cur.size:=by
  simp only[new,List.size_toArray,AW,Cz,List.length_drop,Array.length_toList];omega
 have hheap:(w.setRow b new).heap[b]?=some (.cells new E (0,0)):=setRow_heap w b cur new E _ q5;have hl:xs.length=(xs.take at_++ys++xs.drop (at_+ys.length)).length:=by simp;omega
 have hkn:∀ x∈xs.take at_++ys++xs.drop (at_+ys.length),x.cells.length=k:=by
  intro x hx;rcases Dz.1 hx with hx | hx
  ·rcases Dz.1 hx with hx | hx
   ·exact hkx x (EX hx)
   ·exact hky x hx
  ·exact hkx x (EW hx)
 have hu:upd ι id (ι id)=ι:=by
  funext i;unfold upd;split
  ·rename_i hi;rw[hi]
  ·rfl
 have ht:=hR.turn id k xs (xs.take at_++ys++xs.drop (at_+ys.length)) false false hg (ι id) (w.setRow b new) (Nat.le_of_eq hl) (fun _=>rfl) (fun h=>by cases h)
  ⟨rfl,rfl,rfl,by simp [World.setRow],fun c _ hc=>setRow_other w b c new (fun e=>hc (by simp [q4,e]))⟩ (.inl rfl)
  (fun h=>by cases h)
  (fun hm=>by
    refine⟨hkn,.inr ⟨b,cap,new,E,by rw[qQ];exact q4,hheap,by rw[hnew];exact q6,by rw[← hl];exact q7,⟨q8.1,qg3 q8.2 h1⟩,fun j u c hu hc=>?_⟩⟩
    suffices u.oneCell'=true∧Rp s.st ι w (Av e s.st ι w) u c from ⟨this.1,hm _ _ this.2⟩
    rw[wj,wj,ZE hkx,YY hkx] at hc;have hu':(cur.toList.take (at_*k)++us++cur.toList.drop (at_*k+us.length))[j]?=some u:=by simpa [new] using hu
    have ht1:(cur.toList.take (at_*k)).length=at_*k:=by simp;omega
    have ht2:((flat xs).take (at_*k)).length=at_*k:=by simp;omega
    by_cases hj:j<at_*k
    ·rw[Dj,BK oM,BQ,Aj hj] at hu';rw[Dj,BK oM,BQ,Aj hj] at hc;exact q9 j u c (by simpa using hu') hc
    ·by_cases hj2:j<at_*k+us.length
     ·rw[BK (by rw[AW,ht1];omega),BJ oM,ht1] at hu';rw[BK (by rw[AW,ht2];omega),BJ oM,ht2] at hc;exact⟨h1 u (BX hu'),hrp _ u c hu' hc⟩
     ·rw[BJ (by rw[AW,ht1];omega),AW,ht1,Dx,show at_*k+us.length+(j-(at_*k+us.length))=j by omega] at hu';rw[BJ (by rw[AW,ht2];omega),AW,ht2,Dx,EY,show at_*k+ys.length*k+(j-(at_*k+(flat ys).length))=j by omega] at hc;exact q9 j u c (by simpa using hu') hc)
 rw[hu] at ht;exact ht.1
theorem Rel.congr {s:St} {ι:Iota} {a:Act} {w:World} (h:Rel e s ι a w) {st':Sto} (hst:∀ i,get st' i=get s.st i):Rel e ⟨s.fr,st'⟩ ι a w:=by
 refine (h.go (st':=st') (ι':=ι) (w':=w) ⟨fun i hi=>by rw[hst];exact hi,fun i k1 x1 f1 hg _=>⟨k1,x1,f1,by rw[← hst];exact hg,rfl,BZ _,fun _=>rfl⟩,fun i es hg _=>⟨⟨es,by rw[← hst];exact hg⟩,rfl⟩⟩ (fun _ _ _ h=>h) ?_ ?_ ?_ ?_ (fun _ _ _=>rfl) (BZ _) rfl rfl rfl (fun i es hg=>⟨by rw[← hst];exact hg,rfl,fun _ _ _=>rfl⟩)).1
 ·rintro x (hx | ⟨h1,h2,h3⟩)
  ·exact .inl hx
  ·exact .inr ⟨h1,h2,fun i k1 x1 f1 cap' hg hi=>h3 i k1 x1 f1 cap' (by rw[← hst];exact hg) hi⟩
 ·intro i o' ho';exact .inl ⟨by rw[← hst];exact ho',rfl,fun _ _ _ _=>rfl⟩
 ·intro i i' k1 x1 f1 k2 x2 f2 b c c' g1 g2 e1 e2;rw[hst] at g1 g2;exact h.inj i i' _ _ _ _ _ _ b c c' g1 g2 e1 e2
 ·intro i k1 x1 f1 b c g1 e1;rw[hst] at g1;exact h.own i _ _ _ b c g1 e1
theorem zU7 {st:Sto} {nid:Nat} (hn:get st nid=none) (ob:Ob) {x:T} {r:Option Nat×List T} (h:conT st x=some r):conT ((nid,ob)::st) x=some r:=by
 unfold conT at h ⊢
 split at h
 ·exact h
 ·rename_i id m;have:nid≠id:=fun e=>by subst e;rw[hn] at h;cases h
  rw[qw _ _ this];exact h
 ·exact h
 ·rename_i id m lo len;have:nid≠id:=fun e=>by subst e;rw[hn] at h;cases h
  rw[qw _ _ this];exact h
 ·cases h
theorem zU8 {st:Sto} {nid:Nat} (hn:get st nid=none) (ob:Ob) {x:T} (h:conS st x):conS ((nid,ob)::st) x:=by
 unfold conS at h ⊢
 split at h
 ·rename_i id m;obtain⟨k,xs,fz,hg,hm⟩:=zp.1 h;have:nid≠id:=fun e=>by subst e;rw[hn] at hg;cases hg
  exact zp.2 ⟨k,xs,fz,by rw[qw _ _ this];exact hg,hm⟩
 ·rename_i id m _ _;obtain⟨k,xs,fz,hg,hm⟩:=zp.1 h;have:nid≠id:=fun e=>by subst e;rw[hn] at hg;cases hg
  exact zp.2 ⟨k,xs,fz,by rw[qw _ _ this];exact hg,hm⟩
 ·trivial
theorem zU9 {st:Sto} {nid:Nat} (hn:get st nid=none) (ob:Ob) {ty1:TypeId} {x:T} {r:Option Nat×List T} (h:appY P st ty1 x=some r):appY P ((nid,ob)::st) ty1 x=some r:=by
 unfold appY at h ⊢
 split at h
 ·exact h
 ·exact zU7 hn ob h
 ·cases h
theorem Rel.empty {ι:Iota} {act:Act} {w:World} (hR:Rel e s ι act w) {nid:Nat} (hn:get s.st nid=none) (k:Nat):Rel e ⟨s.fr,(nid,.arr k [] false)::s.st⟩ (upd ι nid none) act w:=by
 have hne:∀ i,get s.st i≠none→i≠nid:=fun i hi e'=>hi (e' ▸ hn);have hmm:∀ i es,get ((nid,Ob.arr k [] false)::s.st) i=some (.mp es)→i≠nid∧get s.st i=some (.mp es):=fun i es hg=>by
  by_cases hii:i=nid
  ·subst hii;rw[qz] at hg;injection hg with hg;cases hg
  ·rw[qw _ _ (Ne.symm hii)] at hg;exact⟨hii,hg⟩
 refine (hR.go (st':=(nid,.arr k [] false)::s.st) (ι':=upd ι nid none) (w':=w) ⟨fun i hi=>?_,fun i k1 x1 f1 hg hi=>?_,fun i es hg hi=>⟨⟨es,(hmm i es hg).2⟩,zc _ _ (hmm i es hg).1⟩⟩ (fun _ _ _ h=>h) ?_ ?_ ?_ ?_ (fun _ _ _=>rfl) (BZ _) rfl rfl rfl
  (fun i es hg=>⟨(hmm i es hg).2,zc _ _ (hmm i es hg).1,fun _ _ _=>rfl⟩)).1
 ·rw[qw _ _ (Ne.symm (hne i hi))];exact hi
 ·rw[qw _ _ (Ne.symm (hne i hi))] at hg;exact⟨k1,x1,f1,hg,rfl,BZ _,fun _=>zc _ _ (hne i hi)⟩
 ·rintro x (hx | ⟨h1,h2,h3⟩)
  ·exact .inl hx
  ·refine .inr ⟨h1,h2,fun i k1 x1 f1 cap' hg hi=>?_⟩;by_cases hii:i=nid
   ·subst hii;rw[qQ] at hi;cases hi
   ·rw[qw _ _ (Ne.symm hii)] at hg;rw[zc _ _ hii] at hi;exact h3 i k1 x1 f1 cap' hg hi
 ·intro i o' ho';by_cases hii:i=nid
  ·subst hii;rw[qz] at ho';injection ho' with ho';subst ho'
   exact .inr fun _=>⟨sMp,.inl ⟨qQ _ _ _,rfl⟩⟩
  ·rw[qw _ _ (Ne.symm hii)] at ho';exact .inl ⟨ho',zc _ _ hii,fun _ _ _ _=>rfl⟩
 ·intro i i' k1 x1 f1 k2 x2 f2 b c c' g1 g2 e1 e2;by_cases hii:i=nid
  ·subst hii;rw[qQ] at e1;cases e1
  ·by_cases hii':i'=nid
   ·subst hii';rw[qQ] at e2;cases e2
   ·rw[qw _ _ (Ne.symm hii)] at g1;rw[zc _ _ hii] at e1;rw[qw _ _ (Ne.symm hii')] at g2;rw[zc _ _ hii'] at e2;exact hR.inj i i' _ _ _ _ _ _ b c c' g1 g2 e1 e2
 ·intro i k1 x1 f1 b c g1 e1;by_cases hii:i=nid
  ·subst hii;rw[qQ] at e1;cases e1
  ·rw[qw _ _ (Ne.symm hii)] at g1;rw[zc _ _ hii] at e1;exact hR.own i _ _ _ b c g1 e1
theorem zu5 {x y:Operand} {ty0 ty1:TypeId} (ho:o.op = .call { callee:=.builtin .append,args:=#[x,y],argTypes:=#[ty0,ty1] }) (nid:Nat) {r:Res} (h:qg6 P s nid ty0 ty1 (Operand.t s x) (Operand.t s y)=some r) (hs:r.side):Does P e o s r.val r.wr:=by
 unfold qg6 at h;split at h
 ·rename_i k by_ k' ys hix hb hz hy;split at h
  ·rename_i hkk;split at h
   ·rename_i id m hx;split at h
    ·rename_i k0 xs fz hg;split at h
     ·rename_i hk0;subst hk0;injection h with h;subst h;obtain⟨hm,hcs,h0,hsz⟩:=hs;subst hm;refine Does.of_run fun ι act w hR=>?_;have hv:=(hx ▸ hR.rp x).asl_inv hg rfl;obtain⟨v',w',x',hrun,hR',hv'⟩:=hR.appended (ty:=o.type) hix hb hz hy hkk hcs h0 hg hsz hv;refine⟨v',w',_,?_,hR',?_⟩
      ·simp [execOp,ho,resolve,invoke,builtin,hrun]
      ·refine .asl id _ _ (by simp [stw,get]) fun k2 xs2 fz2 hg2=>?_;simp only[stw,BW,Cy] at hg2;rw[qz] at hg2;injection hg2 with hg2;injection hg2 with e1 e2 e3
       subst e1 e2 e3;exact⟨sMp,fun _=>by rw[qQ];exact hv'⟩
     ·cases h
    ·cases h
   ·rename_i hx;injection h with h;subst h;obtain⟨hn,hcs,h0,hsz⟩:=hs;refine Does.of_run fun ι act w hR=>?_;have hv:=(hx ▸ hR.rp x).v_inv;have hR0:=hR.empty hn k;obtain⟨v',w',x',hrun,hR',hv'⟩:=hR0.appended (id:=nid) (xs:=[]) (fz:=false) (ty:=o.type) hix hb hz (zU9 hn (.arr k [] false) hy) hkk (zU8 hn (.arr k [] false) hcs) h0 (qz _ _ _) (by simpa using hsz) (v0:=.slice none 0 0) (by rw[qQ];exact⟨none,rfl⟩);have hR2:=hR'.congr (st':=(nid,.arr k ys false)::s.st) (fun i=>by
     by_cases hi:nid=i
     ·subst hi;rw[qz,qz];rfl
     ·rw[qw _ _ hi,qw _ _ hi,qw _ _ hi])
    refine⟨v',w',_,?_,hR2,?_⟩
    ·simp [execOp,ho,resolve,invoke,builtin,hv,hrun]
    ·refine .asl nid _ _ (by simp [stw,get]) fun k2 xs2 fz2 hg2=>?_;simp only[stw,BW,Cy] at hg2;rw[qz] at hg2;injection hg2 with hg2;injection hg2 with e1 e2 e3
     subst e1 e2 e3;exact⟨sMp,fun _=>by rw[qQ];simpa using hv'⟩
   ·rename_i id m lo len hx;unfold zu4 at h;split at h
    ·rename_i k0 xs fz hg;split at h
     ·rename_i hk0;subst hk0;split at h
      ·rename_i hfu
       replace hfu:=hfu.1
       injection h with h;subst h;obtain⟨hm,hn,hcs,hgr,h0,hsz⟩:=hs;subst hm;obtain⟨g,hgf⟩:∃ g,get s.st (id+capK)=some (.full id xs.length g):=by
        unfold zB4 at hfu;split at hfu
        ·rename_i i n' g hgf;simp only[Bq,AY] at hfu;obtain⟨rfl,rfl⟩:=hfu;exact⟨g,hgf⟩
        ·cases hfu
       refine Does.of_run fun ι act w hR=>?_;have hvx:=hR.rp x;rw[hx] at hvx;obtain⟨hle,hv⟩:=hvx.vw_inv hg rfl;obtain⟨_,hf⟩:=hR.ob _ _ hgf;obtain⟨_,hf⟩:=hf _ xs fz hg;obtain⟨d,us,hu1,hd,hky,hul,huk,hL,hY,h1,hrp⟩:=hR.appY (k:=k0) hy hkk hcs;obtain⟨el,inf,g1,g2,g3⟩:=ja hix;have hby:inf.bytes=by_:=by
        unfold byT at hb;rw[g1] at hb;simp [g2] at hb;exact hb
       obtain⟨z,hz1,hz2,hz3⟩:∃ z,inf.zero=some z∧z.cells.size=inf.size∧z.cells.all (fun u=>u.oneCell')=true:=by
        unfold zrOk at hz;rw[g1] at hz;simp only[g2] at hz;split at hz
        ·rename_i z hz';simp only[Bq,AY] at hz;exact⟨z,hz',hz.1,hz.2⟩
        ·cases hz
       subst hby g3;obtain⟨hkx,hob⟩:=hR.ob id _ hg;obtain⟨p2,cap2,olds,hv2,c1,c2,c3,c4,c5,c6,c7⟩:=hR.con (x:=.vw id xs.length lo len) (v:=act.eval x) (k:=some inf.size) (xs:=(xs.drop lo).take len) hvx (by simp [conT,hg]) (zp.2 ⟨_,_,_,hg,rfl⟩);have hxl:((xs.drop lo).take len).length=len:=by simp;omega
       rw[hxl] at hv2;have hcap:cap2=xs.length-lo:=by
        rcases hob with⟨h1,h2⟩ | ⟨b,cap,cur,E,h1,_⟩
        ·subst h2;rw[h1] at hv;obtain⟨p,hv⟩:=hv;rw[hv] at hv2;injection hv2 with _ _ hv2;simp [← hv2]
        ·have:=hf rfl b cap h1;subst this;rw[h1] at hv;obtain⟨p,hv,_⟩:=hv;rw[hv] at hv2;injection hv2 with _ _ hv2;exact hv2.symm
       have hkl:∀ y∈(xs.drop lo).take len,y.cells.length=inf.size:=fun y hy=>hkx y (EW (EX hy));have hfl:=qH hkl;have hfly:=qH hky;rw[hxl] at hfl;have hbound:len+ys.length≤140737488355328:=FZ (Nat.le_mul_of_pos_right _ h0) hsz;have hrun:=qk8 (P:=P) (w:=w) ty0 ty1 o.type el inf z d g1 hu1 hd g2 hz1 p2 len cap2 ys.length (act.eval y) olds us
        (fun w' hw'=>ke inf.size len p2 cap2 olds (by rw[c4,hfl]) (fun h=>c5 (by rw[hxl];exact h)) (fun j u hu=>by obtain⟨ad,e1,e2,_⟩:=c6 j u hu;exact⟨ad,e1,e2⟩) w' hw')
        hL hY oM oM h0 hsz
       have hge:=grownCap_ge w (len+ys.length) cap2 el;have hcm:grownCap w (len+ys.length) cap2 el≤maxLen:=grownCap_le_maxLen w _ cap2 el (by simp only[maxLen];omega)
       let new:Array Value:=olds.toArray++us.toArray++Builtin.zeroCells z.cells (grownCap w (len+ys.length) cap2 el-(len+ys.length))
       have hR1:Rel e s ι act w.drew:=hR.heap rfl rfl rfl rfl;have hnew:new.size=grownCap w (len+ys.length) cap2 el*inf.size:=by
        simp only[new,Array.size_append,List.size_toArray,size_zeroCells,hz2,c4,hfl,huk,← EY]
        congr 1;omega
       have hn1:∀ (j:Nat) (u:Value),new[j]?=some u→u.oneCell'=true:=by
        intro j u hu;have hm:=Array.mem_of_getElem? hu;simp only[new,Array.mem_append,List.mem_toArray] at hm;rcases hm with (hm | hm) | hm
        ·obtain⟨q,hq,rfl⟩:=CX hm;obtain⟨_,_,_,e3⟩:=c6 q olds[q] sMp;exact e3
        ·exact h1 u hm
        ·obtain⟨q,hq,rfl⟩:=Array.getElem_of_mem hm;exact yw hz3 q _ (Eq hq)
       have hka:∀ y∈(xs.drop lo).take len++ys,y.cells.length=inf.size:=fun y hy=>by
        rcases Dz.1 hy with hy | hy
        ·exact hkl y hy
        ·exact hky y hy
       have hnw:=hR1.new nid hn inf.size ((xs.drop lo).take len++ys) false (grownCap w (len+ys.length) cap2 el) new el hka hnew (by rw[AW,hxl];exact hge) hcm hn1 (fun j u c hu hc=>by
        refine⟨hn1 j u hu,?_⟩;have hmono:∀ v t,Rp s.st ι w (Av e s.st ι w) v t→Rp s.st ι w.drew (Av e s.st ι w.drew) v t:=fun v t h=>Rp.mono (w:=w) (A:=Av e s.st ι w) (w':=w.drew) (A':=Av e s.st ι w.drew) (fun x hx=>⟨hx,fun u hu=>hu⟩) (Goes.refl _ _) h;rw[wj] at hc;have hu':((olds++us)++(Builtin.zeroCells z.cells (grownCap w (len+ys.length) cap2 el-(len+ys.length))).toList)[j]?=some u:=by
         have:new.toList=(olds++us)++(Builtin.zeroCells z.cells (grownCap w (len+ys.length) cap2 el-(len+ys.length))).toList:=by simp [new]
         rw[← this];simpa using hu
        have hjl:j<(flat ((xs.drop lo).take len)++flat ys).length:=(List.getElem?_eq_some_iff.1 hc).1;rw[AW,hfl,hfly] at hjl;rw[BK (by rw[AW,c4,hfl,huk];omega)] at hu';by_cases hj:j<len*inf.size
        ·rw[BK (by rw[c4,hfl];exact hj)] at hu';rw[BK (by rw[hfl];exact hj)] at hc;exact hmono _ _ (c7 j u c hu' hc)
        ·rw[BJ (by rw[c4,hfl];omega),c4,hfl] at hu';rw[BJ (by rw[hfl];omega),hfl] at hc;exact hmono _ _ (hrp _ u c hu' hc))
       obtain⟨w2,hw2⟩:∃ w2,w2=w.drew.alloc (.cells new el):=⟨_,rfl⟩;have hrun2:(Builtin.append_ #[ty0,ty1] o.type #[.slice p2 len cap2,act.eval y]).run P w = .ok (.slice (some ⟨w.heap.size,0,none⟩) (len+ys.length) (grownCap w (len+ys.length) cap2 el)) w2:=by rw[hw2];exact hrun
       have hnw1:=hnw.1;rw[← hw2] at hnw1;refine⟨.slice (some ⟨w.heap.size,0,none⟩) (len+ys.length) (grownCap w (len+ys.length) cap2 el),w2,_,?_,hnw1,?_⟩
       ·simp [execOp,ho,resolve,invoke,builtin,hv2,hrun2]
       ·refine .asl nid _ _ (by simp [stw,get]) fun k2 xs2 fz2 hg2=>?_;simp only[stw,BW,Cy] at hg2;rw[qz] at hg2;injection hg2 with hg2;injection hg2 with e1 e2 e3
        subst e1 e2 e3;refine⟨by simp;omega,fun _=>?_⟩;rw[qQ]
        rfl
      ·split at h
       ·rename_i hfz;subst hfz;injection h with h;subst h;obtain⟨hm,hcs,hlm,hfit⟩:=hs;subst hm;refine Does.of_run fun ι act w hR=>?_;obtain⟨hle,hv⟩:=(hx ▸ hR.rp x).vw_inv hg rfl;obtain⟨d,us,hu1,hd,hky,hul,huk,hL,hY,h1,hrp⟩:=hR.appY (k:=k0) hy hkk hcs;obtain⟨el,inf,g1,g2,g3⟩:=ja hix;obtain⟨hkx,hob⟩:=hR.ob id _ hg;rcases hob with⟨q1,q2⟩ | ⟨b,cap,cur,E,q4,q5,q6,q7,q8,q9⟩
        ·subst q2;simp at hlm
        rw[q4] at hv;obtain⟨p,hv,hp⟩:=hv;have hp:=hp oM;subst hp;subst g3;have hle1:xs.length*inf.size≤cap*inf.size:=CZ _ q7;have hle2:(lo+len+ys.length)*inf.size≤xs.length*inf.size:=CZ _ hfit;rw[EY,EY] at hle2;have hrun:=qS7 (P:=P) (w:=w) ty0 ty1 o.type el inf d g1 hu1 hd g2 b (lo*inf.size) len (cap-lo) ys.length cur ⟨E,q5⟩ (act.eval y) us hL hY huk h1 oM oM;have hR':=hR.splice hg (at_:=lo+len) hky hfit huk h1 hrp q4 q5 q6 q7 q8 q9;rw[EY] at hR';refine⟨.slice (some ⟨b,lo*inf.size,none⟩) (len+ys.length) (cap-lo),_,ι,?_,hR',?_⟩
        ·simp [execOp,ho,resolve,invoke,builtin,hv,hrun]
        ·refine .vw id _ _ _ _ (by simp [stw,get]) fun k2 xs2 fz2 hg2=>?_;simp only[stw,BW,Cy] at hg2;rw[qz] at hg2;injection hg2 with hg2;injection hg2 with e1 e2 e3
         subst e1 e2 e3;refine⟨by simp;omega,fun _=>⟨oM,?_⟩⟩;rw[q4];exact⟨_,rfl,fun _=>rfl⟩
       ·cases h
     ·cases h
    ·cases h
   ·cases h
  ·cases h
 ·cases h
end
end Go.TL
namespace Go.TL
section
variable {P:Program} {e:Env} {o:Oper} {s:St}
theorem kH (n k:Nat) (z:T) (hz:z.cells.length=k) (j:Nat) (hj:j<n*k):(flat (List.replicate n z))[j]?=z.cells[j % k]?:=by
 have hk:0<k:=by
  apply Nat.pos_of_ne_zero
  intro h0;subst h0;simp at hj
 have hall:∀ x∈List.replicate n z,x.cells.length=k:=by
  intro x hx;rw[(List.mem_replicate.1 hx).2];exact hz
 have h1:j / k<n:=(Nat.div_lt_iff_lt_mul hk).2 hj;have h2:=Wb hall (i:=j / k) (j:=j % k) (by simpa using h1) (Nat.mod_lt _ hk);have h3:j / k*k+j % k=j:=by rw[Nat.mul_comm];exact Nat.div_add_mod j k
 rw[h3] at h2;rw[h2];simp [List.getD,List.getElem?_replicate,h1]
theorem qa0 (v:Value):(ofV v).cells.length=v.cells.size∧∀ (j:Nat) (u:Value) (c:T),v.cells[j]?=some u→(ofV v).cells[j]?=some c→c = .v u:=by
 cases v
 case agg cs=>
  refine⟨by simp [ofV,T.cells,Value.cells],fun j u c hu hc=>?_⟩;simp only[ofV,T.cells,DY,Value.cells] at hu hc;rw[Array.getElem?_toList,hu] at hc;simpa using hc.symm
 all_goals
  refine⟨rfl,fun j u c hu hc=>?_⟩;simp only[ofV,T.cells,Value.cells] at hu hc;cases j with
  | zero=>simp at hu hc;rw[← hc,hu]
  | succ j=>simp at hu
def zP3 (P:Program) (s:St) (nid:Nat) (ty:TypeId) (l c:T):Option Res:=
 match P.underlying ty with
 | some (.slice el)=>match zrT P el,szT P el,byT P ty,l,c with
   | some z,some k,some by_,.v (.int _ n),.v (.int _ m)=>
     some ⟨get s.st nid=none∧0≤n∧n≤m∧by_*m.toNat≤140737488355328∧m≤9223372036854775807∧z.cells.length=k∧jA [] z.cells,.asl nid n.toNat,[(nid,.arr k (List.replicate n.toNat z) false)]⟩
   | _,_,_,_,_=>none
 | _=>none
theorem zV0 {ty:TypeId} {x y:Operand} (ho:o.op = .makeSlice ty x y) (nid:Nat) {r:Res} (h:zP3 P s nid ty (Operand.t s x) (Operand.t s y)=some r) (hs:r.side):Does P e o s r.val r.wr:=by
 unfold zP3 at h;split at h
 ·rename_i el hu;split at h
  ·rename_i z k by_ kn n km m hz hk hb hx hy;injection h with h;subst h;obtain⟨hn,h0,hnm,hby,hm,hzk,hzl⟩:=hs;refine Does.of_run fun ι act w hR=>?_;have hvx:=(hx ▸ hR.rp x).v_inv;have hvy:=(hy ▸ hR.rp y).v_inv;obtain⟨inf,hi,hisz⟩:∃ inf,P.info? el=some inf∧inf.size=k:=by
    unfold szT at hk;cases hi:P.info? el with
    | none=>simp [hi] at hk
    | some inf=>simp [hi] at hk;exact⟨inf,rfl,hk⟩
   obtain⟨zv,hzv,hzo⟩:∃ zv,inf.zero=some zv∧z=ofV zv:=by
    unfold zrT at hz;cases hq:inf.zero with
    | none=>simp [hi,hq] at hz
    | some zv=>simp [hi,hq] at hz;exact⟨zv,rfl,hz.symm⟩
   have hbytes:inf.bytes=by_:=by
    unfold byT at hb;rw[hu] at hb;simp only[hi,Ej,Option.some.injEq] at hb;exact hb
   subst hisz hzo hbytes;obtain⟨hc1,hc2⟩:=qa0 zv;have hzs:zv.cells.size=inf.size:=by rw[← hc1,hzk]
   have hr:=run_make (P:=P) w ty el inf zv hu hi hzv kn km n m h0 hnm (by
    have:((inf.bytes*m.toNat:Nat):Int)≤((140737488355328:Nat):Int):=Int.ofNat_le.2 hby;rw[Int.natCast_mul,Int.toNat_of_nonneg oM] at this;omega) hm
   let cur:=madeCells zv.cells (m.toNat*inf.size)
   have hcs:cur.size=m.toNat*inf.size:=by simp [cur,madeCells]
   have hnw:=hR.new nid hn inf.size (List.replicate n.toNat (ofV zv)) false m.toNat cur el
    (fun x hx=>by rw[(List.mem_replicate.1 hx).2];exact hzk) hcs (by rw[List.length_replicate];omega) (by simp only[maxLen];omega)
    (fun j u hu'=>by
      have hjm:j<m.toNat*inf.size:=by rw[← hcs];exact (Array.getElem?_eq_some_iff.1 hu').1
      have hk0:0<inf.size:=by
       apply Nat.pos_of_ne_zero
       intro h0;rw[h0] at hjm;simp at hjm
      have hmod:j % inf.size<zv.cells.size:=by rw[hzs];exact Nat.mod_lt _ hk0
      have hu2:zv.cells[j % inf.size]?=some u:=by
       simp only[cur,madeCells] at hu';rw[Array.getElem?_map] at hu';simp [hjm,hzs] at hu';rw[← hu',getElem!_pos zv.cells _ hmod];simp [hmod]
      obtain⟨c,hc⟩:∃ c,(ofV zv).cells[j % inf.size]?=some c:=⟨(ofV zv).cells[j % inf.size]'(by rw[hc1];exact hmod),CK _⟩;have hcc:=hc2 _ u c hu2 hc;subst hcc;exact Kh hzl _ (BX hc))
    (fun j u c hu' hc'=>by
      have hjl:j<n.toNat*inf.size:=by
       have:=(List.getElem?_eq_some_iff.1 hc').1;rw[qH (k:=inf.size) (fun x hx=>by rw[(List.mem_replicate.1 hx).2];exact hzk),List.length_replicate] at this;exact this
      rw[kH _ _ _ hzk j hjl] at hc';have hjm:j<m.toNat*inf.size:=EQ hjl (CZ _ oM);have hk0:0<inf.size:=by
       apply Nat.pos_of_ne_zero
       intro h0;rw[h0] at hjl;simp at hjl
      have hmod:j % inf.size<zv.cells.size:=by rw[hzs];exact Nat.mod_lt _ hk0
      have hu2:zv.cells[j % inf.size]?=some u:=by
       simp only[cur,madeCells] at hu';rw[Array.getElem?_map] at hu';simp [hjm,hzs] at hu';rw[← hu',getElem!_pos zv.cells _ hmod];simp [hmod]
      have hcc:=hc2 _ u c hu2 hc';subst hcc;refine⟨?_,.im (.v _)⟩;have:=Kh hzl _ (BX hc');exact this)
   refine⟨.slice (some ⟨w.heap.size,0,none⟩) n.toNat m.toNat,_,_,?_,hnw.1,?_⟩
   ·simp only[execOp,ho,hvx,hvy];simp [hr,cur]
   ·refine .asl nid _ _ (by simp [stw,get]) fun k2 xs2 fz2 hg2=>?_;simp only[stw,BW,Cy] at hg2;rw[qz] at hg2;injection hg2 with hg2;injection hg2 with e1 e2 e3
    subst e1 e2 e3;exact⟨sMp,fun _=>by rw[qQ];rfl⟩
  ·cases h
 ·cases h
def qC8 (place:Nat→Option (Nat×Nat)) (cells:List T):List (Nat×T)→Option (List T)
 | []=>some cells
 | (i,x)::r=>
   match place i with
   | none=>none
   | some (off,n)=>if x.cells.length=n∧off+n≤cells.length then qC8 place (cells.take off++x.cells++cells.drop (off+n)) r else none
def plT (P:Program) (t:TypeId) (i:Nat):Option (Nat×Nat):=
 match P.underlying t with
 | some (.struct fs)=>match fs[i]? with
   | some f=>(szT P f.type).map fun n=>(f.offset,n)
   | none=>none
 | some (.array _ e)=>(szT P e).map fun n=>(i*n,n)
 | _=>none
def fsOk (P:Program) (t:TypeId):Bool:=
 match P.underlying t with
 | some (.struct fs)=>fs.toList.all fun f=>(szT P f.type).isSome
 | some (.array _ e)=>(szT P e).isSome
 | _=>false
def zB (s:St) (parts:Array (Nat×Operand)):List (Nat×T):=parts.toList.map fun p=>(p.1,Operand.t s p.2)
def kI (st:Sto) (l:List (Nat×T)):Prop:=match l with | []=>True | p::r=>jA st p.2.cells∧kI st r
def ze6 (P:Program) (s:St) (t:TypeId) (parts:Array (Nat×Operand)):Option Res:=
 match zrT P t,fsOk P t with
 | some z,true=>match qC8 (plT P t) z.cells (zB s parts) with
   | some cs=>some ⟨kI s.st (zB s parts),.agg cs,[]⟩
   | none=>none
 | _,_=>none
theorem jr7 (cs:List Value) (off:Nat) (vs:List Value) (h:off+vs.length≤cs.length) :
 (vs.toArray.zipIdx.foldl (fun (acc:Array Value) (p:Value×Nat)=>acc.setIfInBounds (off+p.2) p.1) cs.toArray)=(cs.take off++vs++cs.drop (off+vs.length)).toArray:=by
 have key:∀ (vs:List Value) (k:Nat) (cs:List Value),off+k+vs.length≤cs.length→
  (vs.zipIdx k).foldl (fun (acc:Array Value) (p:Value×Nat)=>acc.setIfInBounds (off+p.2) p.1) cs.toArray=(cs.take (off+k)++vs++cs.drop (off+k+vs.length)).toArray:=by
  intro vs
  induction vs with
  | nil=>intro k cs _;simp
  | cons v vs ih=>
    intro k cs hl;simp only[List.zipIdx_cons,Dw,List.setIfInBounds_toArray];simp only[CJ] at hl;rw[ih (k+1) (cs.set (off+k) v) (by simp;omega)]
    congr 1
    simp only[CJ];rw[List.drop_set_of_lt oM,show off+(k+1)=off+k+1 by omega,List.take_succ_eq_append_getElem (by simp;omega)];simp [List.take_set_of_le,show off+k+1+vs.length=off+k+(vs.length+1) by omega]
 have:=key vs 0 cs oM;simpa [← Array.foldl_toList] using this
theorem qg7 {st:Sto} {ι:Iota} {w:World} {A:Addr→Prop} {place:Nat→Option (Nat×Nat)} :
 ∀ (parts:List (Nat×T)) (vparts:List (Nat×Value)) (cells:List T) (vcells:List Value) (cs:List T),vparts.length=parts.length→
  (∀ (j:Nat) (p:Nat×T) (q:Nat×Value),parts[j]?=some p→vparts[j]?=some q→p.1=q.1∧Rp st ι w A q.2 p.2)→kI st parts→
  vcells.length=cells.length→(∀ (j:Nat) (u:Value) (c:T),vcells[j]?=some u→cells[j]?=some c→Rp st ι w A u c)→qC8 place cells parts=some cs→
  ∃ us:List Value,Instr.fill place vcells.toArray vparts=some us.toArray∧us.length=cs.length∧∀ (j:Nat) (u:Value) (c:T),us[j]?=some u→cs[j]?=some c→Rp st ι w A u c
 | [],vparts,cells,vcells,cs,hl,hp,hlv,hvl,hv,hf=>by
   have:vparts=[]:=DK hl;subst this;simp only[qC8,Option.some.injEq] at hf;subst hf;exact⟨vcells,rfl,hvl,hv⟩
 | (i,x)::r,vparts,cells,vcells,cs,hl,hp,hlv,hvl,hv,hf=>by
   cases vparts with
   | nil=>simp at hl
   | cons q vr=>
     obtain⟨h1,h2⟩:=hp 0 (i,x) q rfl rfl;obtain⟨qi,qv⟩:=q;simp only at h1 h2;subst h1;obtain⟨c1,c2,c3⟩:=qS0 h2 hlv.1;simp only[qC8] at hf;split at hf
     ·cases hf
     ·rename_i off n hpl;split at hf
      ·rename_i hn;obtain⟨hn1,hn2⟩:=hn;have hvn:qv.cells.toList.length=n:=by rw[← hn1,← c1];simp
       have ih:=qg7 r vr (cells.take off++x.cells++cells.drop (off+n)) (vcells.take off++qv.cells.toList++vcells.drop (off+n)) cs (by simpa using hl)
        (fun j p q hp' hq'=>hp (j+1) p q (by simpa using hp') (by simpa using hq')) hlv.2
        (by simp [hvl];omega)
        (fun j u c hu hc=>by
          have e1:(cells.take off).length=off:=by simp;omega
          have e2:(vcells.take off).length=off:=by simp;omega
          by_cases j1:j<off
          ·rw[Dj,BK oM,BQ,Aj j1] at hu hc;exact hv j u c hu hc
          ·rw[Dj,BJ oM,e2] at hu;rw[Dj,BJ oM,e1] at hc;by_cases j2:j-off<n
           ·rw[BK oM] at hu hc;exact c3 _ u c hu hc
           ·rw[BJ oM,Dx,hvn] at hu;rw[BJ oM,Dx,hn1] at hc;exact hv _ u c hu hc) hf
       obtain⟨us,f1,f2,f3⟩:=ih;refine⟨us,?_,f2,f3⟩;have hsz:qv.cells.size=n:=by simpa using hvn
       simp only[Instr.fill,hpl];rw[Aq (by simp [hsz,hvl];omega)];have:=jr7 vcells off qv.cells.toList (by rw[hvn,hvl];exact hn2);rw[hvn] at this;rw[Array.toArray_toList] at this;rw[← f1]
       congr 1
      ·cases hf
theorem zP4 {t:TypeId} {parts:Array (Nat×Operand)} (ho:o.op = .build t parts) {r:Res} (h:ze6 P s t parts=some r) (hs:r.side):Does P e o s r.val r.wr:=by
 unfold ze6 at h;split at h
 ·rename_i z hz hok;split at h
  ·rename_i cs hf;injection h with h;subst h;refine Does.of_value fun ι act w hR=>?_;obtain⟨zv,hzv,rfl⟩:=Ki hz w;obtain⟨hc1,hc2⟩:=qa0 zv;have hfs:=qg7 (st:=s.st) (ι:=ι) (w:=w) (A:=Av e s.st ι w) (zB s parts) (parts.toList.map fun p=>(p.1,act.eval p.2)) (ofV zv).cells zv.cells.toList cs (by simp [zB])
    (fun j p q hp hq=>by
      simp only[zB,DY] at hp hq;cases hj:parts.toList[j]? with
      | none=>simp [hj] at hp
      | some x=>simp [hj] at hp hq;subst hp hq;exact⟨rfl,hR.rp x.2⟩) hs (by rw[hc1];simp)
    (fun j u c hu hc=>by
      have:=hc2 j u c (by simpa using hu) hc;subst this;exact .im (.v _)) hf
   obtain⟨us,f1,f2,f3⟩:=hfs;refine⟨.agg us.toArray,?_,.agg us cs f2 f3⟩;rw[Array.toArray_toList] at f1;unfold fsOk at hok;split at hok
   ·rename_i fs hu;have hsome:∀ f∈fs.toList,∃ i,P.info? f.type=some i:=by
     intro f hf';have:=Bk.1 hok f hf';unfold szT at this;cases hi:P.info? f.type with
     | none=>simp [hi] at this
     | some i=>exact⟨i,rfl⟩
    have hmap:∀ (l:List Field),(∀ f∈l,∃ i,P.info? f.type=some i)→
     (l.mapM fun f=>Prod.mk f.offset <$> sizeOf f.type:Sem (List (Nat×Nat))).run P w = .ok (l.map fun f=>(f.offset,((P.info? f.type).map (·.size)).getD 0)) w:=by
     intro l
     induction l with
     | nil=>intro _;simp
     | cons f l ih=>
       intro hl;obtain⟨i,hi⟩:=hl f sMp;have:=ih (fun g hg=>hl g (by simp [hg]));simp [List.mapM_cons,sizeOf,typeInfo,hi] at this ⊢
       simp [this]
    have hplace:(fun i=>(fs.map fun f=>(f.offset,((P.info? f.type).map (·.size)).getD 0))[i]?)=plT P t:=by
     funext i
     unfold plT;rw[hu];simp only[Array.getElem?_map];cases hq:fs[i]? with
     | none=>simp
     | some f=>
       obtain⟨inf,hi⟩:=hsome f (by
        have:=Array.mem_of_getElem? hq;simpa using this)
       simp [szT,hi]
    have hm:=hmap fs.toList hsome;have hmA:(fs.mapM fun f=>Prod.mk f.offset <$> sizeOf f.type:Sem (Array (Nat×Nat))).run P w = .ok (fs.map fun f=>(f.offset,((P.info? f.type).map (·.size)).getD 0)) w:=by
     rw[Array.mapM_eq_mapM_toList,← bind_pure_comp];simp only[Sem.run_bind,hm,Result.andThen_ok,Sem.run_pure]
     congr 1
     rw[← Array.toList_map]
    simp [execOp,ho,Instr.build,hzv,run_underlying hu,hmA];simp only[← Array.getElem?_map,hplace,f1];simp
   ·rename_i n el hu;obtain⟨inf,hi⟩:∃ i,P.info? el=some i:=by
     unfold szT at hok;cases hi:P.info? el with
     | none=>simp [hi] at hok
     | some i=>exact⟨i,rfl⟩
    have hplace:(fun i=>some (i*inf.size,inf.size))=plT P t:=by
     funext i
     unfold plT;rw[hu];simp [szT,hi]
    simp only[execOp,ho,Instr.build,Sem.run_bind,hzv,Result.andThen_ok,run_underlying hu,sizeOf,typeInfo];simp [hi,hplace,f1]
   ·cases hok
  ·cases h
 ·cases h
def JQ (k:Nat):List T→Prop
 | []=>True
 | x::r=>x.cells.length=k∧JQ k r
theorem zP5 {k:Nat} {xs:List T} (h:JQ k xs):∀ x∈xs,x.cells.length=k:=by
 induction xs with
 | nil=>simp
 | cons x r ih=>
   intro y hy;rcases Ck.1 hy with rfl | hy
   ·exact h.1
   ·exact ih h.2 y hy
def qr9:Nat→List (Nat×Operand)→Bool
 | _,[]=>true
 | i,(j,_)::r=>i==j&&qr9 (i+1) r
def yM (P:Program) (s:St) (nid:Nat) (t:TypeId) (len:Nat) (parts:Array (Nat×Operand)):Option Res:=
 match ixT P t,zrOk P t,qr9 0 parts.toList with
 | some (none,k),true,true=>if parts.size=len∧len*k≤16777216∧len≤16777216 then
    some ⟨get s.st nid=none∧kI s.st (zB s parts)∧JQ k ((zB s parts).map (·.2)),.asl nid len,[(nid,.arr k ((zB s parts).map (·.2)) false)]⟩ else none
 | _,_,_=>none
theorem qs0:∀ (l:List (Nat×Operand)) (i j:Nat) (p:Nat×Operand),qr9 i l=true→l[j]?=some p→p.1=i+j
 | [],_,_,_,_,h=>by simp at h
 | (a,b)::r,i,j,p,h,hj=>by
   simp only[qr9,Bq,AY] at h;cases j with
   | zero=>simp at hj;subst hj;exact h.1.symm
   | succ j=>
     have:=qs0 r (i+1) j p h.2 (by simpa using hj);omega
theorem qs1 (k:Nat):∀ (parts:List (Nat×T)) (i:Nat) (pre rest:List T),(∀ (j:Nat) (p:Nat×T),parts[j]?=some p→p.1=i+j)→JQ k (parts.map (·.2))→pre.length=i*k→rest.length=parts.length*k→
 qC8 (fun i=>some (i*k,k)) (pre++rest) parts=some (pre++flat (parts.map (·.2)))
 | [],i,pre,rest,_,_,hp,hr=>by
   have:rest=[]:=DK (by simpa using hr);subst this;simp [qC8,flat]
 | (a,x)::r,i,pre,rest,ho,hl,hp,hr=>by
   have ha:a=i:=ho 0 (a,x) rfl;subst ha;obtain⟨h1,h2⟩:=hl;have hrl:rest.length=k+r.length*k:=by rw[hr,CJ,EY];omega
   simp only[qC8];rw[Aj ⟨h1,by simp [hp];omega⟩];have e1:(pre++rest).take (a*k)=pre:=by rw[← hp];simp
   have e2:(pre++rest).drop (a*k+k)=rest.drop k:=by rw[← hp,List.drop_length_add_append]
   rw[e1,e2];have ih:=qs1 k r (a+1) (pre++x.cells) (rest.drop k) (fun j p hj=>by have:=ho (j+1) p (by simpa using hj);omega) h2 (by simp [hp,h1,EY]) (by simp;omega);rw[ih];simp [flat]
theorem qs2 {t:TypeId} {len:Nat} {parts:Array (Nat×Operand)} (ho:o.op = .buildSlice t len parts) (nid:Nat) {r:Res} (h:yM P s nid t len parts=some r) (hs:r.side):Does P e o s r.val r.wr:=by
 unfold yM at h;split at h
 ·rename_i k hix hz hord;split at h
  ·rename_i hlen;obtain⟨hlen,hbig,hbig2⟩:=hlen;injection h with h;subst h;obtain⟨hn,hlv,hla⟩:=hs;obtain⟨el,inf,g1,g2,g3⟩:=ja hix;obtain⟨z,hz1,hz2⟩:∃ z,inf.zero=some z∧z.cells.size=inf.size:=by
    unfold zrOk at hz;rw[g1] at hz;simp [g2] at hz;split at hz
    ·rename_i z hz';exact⟨z,hz',(by simpa using hz:_∧_).1⟩
    ·cases hz
   subst g3;refine Does.of_run fun ι act w hR=>?_
   let zs:Array Value:=if len*inf.size=0 then #[] else z.cells
   let init:Array Value:=(Array.range (len*inf.size)).map (zs[· % zs.size]!)
   have hinit:init.size=len*inf.size:=by simp [init]
   have hpl:(zB s parts).length=len:=by simp [zB,hlen]
   have hft:=qs1 inf.size (zB s parts) 0 [] (List.replicate (len*inf.size) .junk)
    (fun j p hj=>by
      simp only[zB,DY] at hj;cases hq:parts.toList[j]? with
      | none=>simp [hq] at hj
      | some q=>simp [hq] at hj;subst hj;exact qs0 _ _ _ _ hord hq) hla sMp (by rw[List.length_replicate,hpl])
   simp only[Cy] at hft;have hfs:=qg7 (st:=s.st) (ι:=ι) (w:=w) (A:=Av e s.st ι w) (zB s parts) (parts.toList.map fun p=>(p.1,act.eval p.2)) (List.replicate (len*inf.size) .junk) init.toList _ (by simp [zB])
    (fun j p q hp hq=>by
      simp only[zB,DY] at hp hq;cases hj:parts.toList[j]? with
      | none=>simp [hj] at hp
      | some x=>simp [hj] at hp hq;subst hp hq;exact⟨rfl,hR.rp x.2⟩) hlv (by simp [hinit])
    (fun j u c hu hc=>by
      rw[List.getElem?_replicate] at hc;split at hc
      ·injection hc with hc;subst hc;exact .im (.junk _)
      ·cases hc) hft
   obtain⟨us,f1,f2,f3⟩:=hfs;rw[Array.toArray_toList] at f1;have hlam:=zP5 hla;have hfl:=qH hlam;have hml:((zB s parts).map (·.2)).length=len:=by rw[BY,hpl]
   have hone:∀ (j:Nat) (u:Value) (c:T),us[j]?=some u→(flat ((zB s parts).map (·.2)))[j]?=some c→u.oneCell'=true:=by
    intro j u c hu hc;have hmem:=BX hc;simp only[flat,Ek,Cj] at hmem;obtain⟨y,⟨p,hp,rfl⟩,hcy⟩:=hmem;have hal:∀ (l:List (Nat×T)),kI s.st l→∀ p∈l,jA s.st p.2.cells:=by
     intro l
     induction l with
     | nil=>simp
     | cons q l ih=>
       intro h p hp;rcases Ck.1 hp with rfl | hp
       ·exact h.1
       ·exact ih h.2 p hp
    exact qg2 (f3 j u c hu hc) (Kh (hal _ hlv p hp) _ hcy)
   have hnw:=hR.new nid hn inf.size ((zB s parts).map (·.2)) false len us.toArray el hlam (by rw[List.size_toArray,f2,hfl,hml]) oM (by simp only[maxLen];omega)
    (fun j u hu=>by
      have hj:j<(flat ((zB s parts).map (·.2))).length:=by
       rw[← f2];have:=(Array.getElem?_eq_some_iff.1 hu).1;simpa using this
      exact hone j u _ (by simpa using hu) (CK hj))
    (fun j u c hu hc=>⟨hone j u c (by simpa using hu) hc,f3 j u c (by simpa using hu) hc⟩)
   refine⟨.slice (some ⟨w.heap.size,0,none⟩) len len,_,_,?_,hnw.1,?_⟩
   ·have hb:¬ (16777216<len*inf.size):=by omega
    simp only[execOp,ho,Instr.buildSlice];by_cases hz0:len*inf.size=0
    ·have:init=#[]:=Array.eq_empty_of_size_eq_zero (by rw[hinit,hz0]);rw[this] at f1;have hr0:Array.map (fun (_:Nat)=>(default:Value)) (Array.range 0)=#[]:=by apply Array.eq_empty_of_size_eq_zero;simp
     simp [run_underlying g1,sizeOf,typeInfo,g2,hz0,hr0,f1,newRow]
    ·have hin:init=(Array.range (len*inf.size)).map (z.cells[· % z.cells.size]!):=by simp [init,zs,hz0]
     rw[hin] at f1;simp [run_underlying g1,sizeOf,typeInfo,g2,hz0,hb,zeroValue,hz1,f1,newRow]
   ·refine .asl nid _ _ (by simp [stw,get]) fun k2 xs2 fz2 hg2=>?_;simp only[stw,BW,Cy] at hg2;rw[qz] at hg2;injection hg2 with hg2;injection hg2 with e1 e2 e3
    subst e1 e2 e3;exact⟨oM,fun _=>by rw[qQ];rfl⟩
  ·cases h
 ·cases h
end
end Go.TL
