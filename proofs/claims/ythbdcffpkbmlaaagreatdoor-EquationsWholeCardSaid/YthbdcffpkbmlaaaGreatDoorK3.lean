/- A part of the proof: ZzAll ZzMp ZzExt. -/
import Derived.MapKept
import GoSem.Builtin.Cap
import Derived.Test.YthbdcffpkbmlaaaGreatDoorK2
namespace Go.TL
def qq2 (P:Program) (s:St) (nid:Nat) (b:Builtin) (args:List T) (tys:List TypeId):Option Res:=
 match b,args,tys with
 | .len,[x],[ty]=>lenT P s.st ty x
 | .append,[x,y],[ty0,ty1]=>qg6 P s nid ty0 ty1 x y
 | .min,args,_=>qn2 minI args
 | .max,args,_=>qn2 maxI args
 | _,_,_=>none
def opT0 (P:Program) (s:St) (nid:Nat) (o:Oper):Option Res:=
 match o.op with
 | .move x=>ret (Operand.t s x)
 | .assign x=>ret (Operand.t s x)
 | .pick c a b=>zU2 (Operand.t s c) (Operand.t s a) (Operand.t s b)
 | .alloc t=>zd7 P s nid t
 | .box _ x=>some (boxT s nid (Operand.t s x))
 | .build t parts=>ze6 P s t parts
 | .buildSlice t len parts=>yM P s nid t len parts
 | .load t x=>qr5 P s t (Operand.t s x)
 | .store t x y=>zd8 P s t (Operand.t s x) (Operand.t s y)
 | .nilCheck x=>kG s.st (Operand.t s x)
 | .binOp op ty x y _=>binT P op ty (Operand.t s x) (Operand.t s y)
 | .unOp op _ x=>unT op (Operand.t s x)
 | .convert src dst x=>qn3 P s.st src dst (Operand.t s x)
 | .makeFunc fn first caps=>YX fn first (caps.toList.map (Operand.t s))
 | .makeSlice ty x y=>zP3 P s nid ty (Operand.t s x) (Operand.t s y)
 | .slice ty x lo hi none=>Kj P s.st ty (Operand.t s x) (lo.map (Operand.t s)) (hi.map (Operand.t s))
 | .fieldAddr ty x f=>yG P s.st ty (Operand.t s x) f
 | .field ty x f=>ze1 P ty (Operand.t s x) f
 | .indexAddr ty x i=>kB P s.st ty (Operand.t s x) (Operand.t s i)
 | .index ty x i=>ze3 P ty (Operand.t s x) (Operand.t s i)
 | .extract x i=>yv (Operand.t s x) i
 | .call { callee:=.builtin b,args,argTypes }=>qq2 P s nid b (args.toList.map (Operand.t s)) argTypes.toList
 | _=>none
section
variable {P:Program} {e:Env} {o:Oper} {s:St}
theorem qM3 {α:Type} {a:Array α} {x y:α} (h:a.toList=[x,y]):a=#[x,y]:=by apply Array.toList_inj.1;simpa using h
theorem qM4 {α:Type} {a:Array α} {x:α} (h:a.toList=[x]):a=#[x]:=by apply Array.toList_inj.1;simpa using h
theorem jJ1 {α β:Type} {f:α→β} {l:List α} {x:β} (h:l.map f=[x]):∃ a,l=[a]∧f a=x:=by
 cases l with
 | nil=>simp at h
 | cons a l=>cases l with
   | nil=>simp at h;exact⟨a,rfl,h⟩
   | cons b l=>simp at h
theorem zV1 {α β:Type} {f:α→β} {l:List α} {x y:β} (h:l.map f=[x,y]):∃ a b,l=[a,b]∧f a=x∧f b=y:=by
 cases l with
 | nil=>simp at h
 | cons a l=>cases l with
   | nil=>simp at h
   | cons b l=>cases l with
     | nil=>simp at h;exact⟨a,b,rfl,h.1,h.2⟩
     | cons c l=>simp at h
theorem zV2 (nid:Nat) {r:Res} (h:opT0 P s nid o=some r) (hs:r.side):Does P e o s r.val r.wr:=by
 unfold opT0 at h;split at h
 ·rename_i ho;simp [ret] at h;subst h;exact zd9 (.inl ho)
 ·rename_i ho;simp [ret] at h;subst h;exact zd9 (.inr ho)
 ·rename_i ho;exact zU3 ho h hs
 ·rename_i ho;exact zO4 ho nid h hs
 ·rename_i ho;injection h with h;subst h;exact jr1 ho nid hs
 ·rename_i ho;exact zP4 ho h hs
 ·rename_i ho;exact qs2 ho nid h hs
 ·rename_i ho;exact zT9 ho h hs
 ·rename_i ho;exact zO6 ho h hs
 ·rename_i ho;exact qS3 ho h hs
 ·rename_i ho;exact jr3 ho h hs
 ·rename_i ho;exact jI9 ho h hs
 ·rename_i ho;exact zU6 ho h hs
 ·rename_i ho;exact qS2 ho h hs
 ·rename_i ho;exact zV0 ho nid h hs
 ·rename_i ho;exact zP0 ho h hs
 ·rename_i ho;exact qC6 ho h hs
 ·rename_i ho;exact zO8 ho h hs
 ·rename_i ho;exact qC7 ho h hs
 ·rename_i ho;exact zO9 ho h hs
 ·rename_i ho;exact ze0 ho h hs
 ·rename_i b args tys ho;unfold qq2 at h;split at h
  ·rename_i x ty h1 h2;obtain⟨a,ha,rfl⟩:=jJ1 h1;have e1:=qM4 ha;have e2:=qM4 h2;subst e1 e2;exact jr4 (pos:=0) ho h hs
  ·rename_i x y t0 t1 h1 h2;obtain⟨a,b,ha,rfl,rfl⟩:=zV1 h1;have e1:=qM3 ha;have e2:=qM3 h2;subst e1 e2;exact zu5 ho nid h hs
  ·exact jr5 ho h hs
  ·exact jr6 ho h hs
  ·cases h
 ·cases h
end
def ids:T→List Nat
 | .asl id _=>[id]
 | .ptr id _ _ _=>[id]
 | .vw id _ _ _=>[id,id+1073741824]
 | .mp id=>[id]
 | .agg cs=>cs.flatMap fun | .asl id _=>[id] | .ptr id _ _ _=>[id] | .vw id _ _ _=>[id,id+1073741824] | .mp id=>[id] | _=>[]
 | _=>[]
def we (I:List Nat) (st st':Sto):Prop:=∀ id∈I,get st id=get st' id
section
variable {P:Program} {s s':St} {st st':Sto}
theorem we.mono {I J:List Nat} (h:we J st st') (hi:∀ id∈I,id∈J):we I st st':=fun id hid=>h id (hi id hid)
theorem jB {id n:Nat} (h:get st id=get st' id):zr st id n=zr st' id n:=by unfold zr;rw[h]
theorem zB5 {c:T} (h:we (ids c) st st'):live st c=live st' c:=by
 cases c <;> simp only[live]
 case asl id n=>rw[h id (by simp [ids])]
 case ptr id n i j=>rw[h id (by simp [ids])]
 case vw id n i j=>rw[h id (by simp [ids])]
theorem zV3 {cs:List T} (h:∀ c∈cs,live st c=live st' c):jA st cs=jA st' cs:=by
 induction cs with
 | nil=>rfl
 | cons c r ih=>simp only[jA];rw[h c sMp,ih fun d hd=>h d (by simp [hd])]
theorem jr8 {cs:List T} {c:T} (hc:c∈cs) (hn:∀ ds,c≠.agg ds):∀ id∈ids c,id∈ids (.agg cs):=by
 intro id hid;simp only[ids,Ek];refine⟨c,hc,?_⟩;cases c <;> simp_all [ids]
theorem zB6 (st:Sto) (ds:List T):live st (.agg ds)=False:=by simp [live]
theorem Wc {x:T} (h:we (ids x) st st'):jA st x.cells=jA st' x.cells:=by
 refine zV3 fun c hc=>?_;cases x with
 | agg cs=>
   simp only[T.cells] at hc;by_cases hn:∃ ds,c = .agg ds
   ·obtain⟨ds,rfl⟩:=hn;rw[zB6,zB6]
   ·exact zB5 (h.mono (jr8 hc fun ds e=>hn ⟨ds,e⟩))
 | _=>
   simp only[T.cells,Ck,List.not_mem_nil,or_false] at hc;subst hc;exact zB5 h
theorem Wd {x:T} (h:we (ids x) st st'):conT st x=conT st' x:=by
 cases x <;> try rfl
 case asl id n=>simp only[conT];rw[h id (by simp [ids])]
 case vw id n lo len=>simp only[conT];rw[h id (by simp [ids])]
 case v x=>
  cases x <;> try rfl
  rename_i p l c;cases p <;> cases l <;> cases c <;> rfl
theorem We {x:T} (h:we (ids x) st st'):conS st x=conS st' x:=by
 cases x <;> simp only[conS]
 case asl id n=>exact jB (h id (by simp [ids]))
 case vw id n lo len=>exact jB (h id (by simp [ids]))
theorem qs3 {l:List (Nat×T)} (h:∀ p∈l,we (ids p.2) st st'):kI st l=kI st' l:=by
 induction l with
 | nil=>rfl
 | cons p r ih=>
   simp only[kI];rw[Wc (h p sMp),ih fun q hq=>h q (by simp [hq])]
theorem jr9 {nid:Nat} {o:Oper} (hT:∀ x∈o.op.operands.toList,Operand.t s x=Operand.t s' x) (hI:∀ x∈o.op.operands.toList,we (ids (Operand.t s x)) s.st s'.st) (hN:get s.st nid=get s'.st nid) :
 opT0 P s nid o=opT0 P s' nid o:=by
 unfold opT0;split <;> rename_i ho <;> simp only[ho,Op.operands] at hT hI
 case h_1 x=>rw[hT x sMp]
 case h_2 x=>rw[hT x sMp]
 case h_3 c a b=>rw[hT c sMp,hT a sMp,hT b sMp]
 case h_4 t=>
  unfold zd7;cases hz:zrT P t with
  | none=>rfl
  | some z=>
    simp only[Ej,boxT,hN];have:jA s.st z.cells=jA s'.st z.cells:=by
     refine Wc fun id hid=>?_
     exfalso
     unfold zrT at hz;cases hq:(P.info? t).bind (·.zero) with
     | none=>simp [hq] at hz
     | some v=>
       simp [hq] at hz;subst hz;cases v
       case agg cs=>
        simp only[ofV,ids,Ek,Cj] at hid;obtain⟨c,⟨a,_,rfl⟩,hid⟩:=hid;cases hid
       all_goals (simp [ofV,ids] at hid)
    rw[this]
 case h_5 t x=>
  have h1:=hT x sMp;have h2:=hI x sMp;simp only[boxT,hN];rw[Wc h2,h1]
 case h_6 t parts=>
  have hp:zB s parts=zB s' parts:=by
   unfold zB;refine Ew fun p hp=>?_;rw[hT p.2 (by simp;exact⟨p.1,by simpa using hp⟩)]
  have hl:kI s.st (zB s parts)=kI s'.st (zB s parts):=qs3 fun p hp=>by
   simp only[zB,Cj] at hp;obtain⟨q,hq,rfl⟩:=hp;exact hI q.2 (by simp;exact⟨q.1,by simpa using hq⟩)
  unfold ze6;rw[hl,hp]
 case h_7 t len parts=>
  have hp:zB s parts=zB s' parts:=by
   unfold zB;refine Ew fun p hp=>?_;rw[hT p.2 (by simp;exact⟨p.1,by simpa using hp⟩)]
  have hl:kI s.st (zB s parts)=kI s'.st (zB s parts):=qs3 fun p hp=>by
   simp only[zB,Cj] at hp;obtain⟨q,hq,rfl⟩:=hp;exact hI q.2 (by simp;exact⟨q.1,by simpa using hq⟩)
  unfold yM;rw[hl,hp,hN]
 case h_8 t x=>
  have h1:=hT x sMp;have h2:=hI x sMp;rw[← h1];generalize Operand.t s x=tx at *
  unfold qr5;cases hl:ldT P t <;> cases tx <;> try rfl
  case some.ptr l id m i j=>simp only[h2 id (by simp [ids])]
 case h_9 t x y=>
  have h1:=hT x sMp;have h2:=hI x sMp;have h3:=hT y sMp;have h4:=hI y sMp;rw[← h1,← h3];generalize Operand.t s x=tx at *
  generalize Operand.t s y=ty at *
  unfold zd8;rw[Wc h4];cases hz:szT P t <;> cases tx <;> try rfl
  case some.ptr l id m i j=>simp only[h2 id (by simp [ids])]
 case h_10 x=>
  have h1:=hT x sMp;have h2:=hI x sMp;rw[← h1];generalize Operand.t s x=tx at *
  unfold kG;cases tx <;> try rfl
  case ptr id m i j=>simp only[jB (h2 id (by simp [ids]))]
 case h_11 op ty x y ty2=>rw[hT x sMp,hT y sMp]
 case h_12 op ty x=>rw[hT x sMp]
 case h_13 src dst x=>
  have h1:=hT x sMp;have h2:=hI x sMp;rw[← h1];unfold qn3;rw[Wd h2,We h2]
 case h_14 fn first caps=>
  congr 1
  exact Ew fun x hx=>hT x (by simp at hx ⊢;exact .inr hx)
 case h_15 ty x y=>
  rw[← hT x sMp,← hT y sMp];unfold zP3;rw[hN]
 case h_16 ty x lo hi=>
  have h1:=hT x sMp;have h2:=hI x sMp;have hlo:lo.map (Operand.t s)=lo.map (Operand.t s'):=by
   cases lo with
   | none=>rfl
   | some l=>simp [hT l sMp]
  have hhi:hi.map (Operand.t s)=hi.map (Operand.t s'):=by
   cases hi with
   | none=>rfl
   | some l=>simp [hT l sMp]
  rw[← h1,← hlo,← hhi];generalize Operand.t s x=tx at *
  unfold Kj;cases hb1:bndT (lo.map (Operand.t s)) <;> cases hb2:bndT (hi.map (Operand.t s)) <;> cases tx <;> try rfl
  case some.some.asl a b id m=>simp only[h2 id (by simp [ids])]
  case some.some.vw a b id m lo len=>simp only[h2 id (by simp [ids])]
  case some.some.v a b x=>
   cases x <;> try rfl
   rename_i p l c;cases p <;> cases l <;> cases c <;> rfl
 case h_17 ty x f=>
  have h1:=hT x sMp;have h2:=hI x sMp;rw[← h1];generalize Operand.t s x=tx at *
  unfold yG;rcases hf:fdT P ty f with _ | ⟨a,b,c⟩ <;> cases tx <;> try rfl
  case some.ptr id m i j=>simp only[jB (h2 id (by simp [ids]))]
 case h_18 ty x f=>rw[hT x sMp]
 case h_19 ty x i=>
  have h1:=hT x sMp;have h2:=hI x sMp;have h3:=hT i sMp;rw[← h1,← h3];generalize Operand.t s x=tx at *
  unfold kB;rcases hf:ixT P ty with _ | ⟨_ | len,k⟩
  ·cases tx <;> rfl
  ·generalize Operand.t s i=ti;cases ti
   case v y=>
    cases y
    case int kd n=>
     cases tx <;> try rfl
     case asl id m=>simp only[h2 id (by simp [ids])]
     case vw id m lo len=>simp only[h2 id (by simp [ids])]
    all_goals (cases tx <;> rfl)
   all_goals (cases tx <;> rfl)
  ·generalize Operand.t s i=ti;cases ti
   case v y=>
    cases y
    case int kd n=>
     cases tx <;> try rfl
     case ptr id m i j=>simp only[jB (h2 id (by simp [ids]))]
    all_goals (cases tx <;> rfl)
   all_goals (cases tx <;> rfl)
 case h_20 ty x i=>rw[hT x sMp,hT i sMp]
 case h_21 x i=>rw[hT x sMp]
 case h_22 b args tys=>
  simp only[Call.operands] at hT hI;have ha:args.toList.map (Operand.t s)=args.toList.map (Operand.t s'):=Ew fun x hx=>hT x (by simpa using hx);rw[← ha];have hA:∀ t∈args.toList.map (Operand.t s),we (ids t) s.st s'.st:=by
   intro t ht;obtain⟨x,hx,rfl⟩:=Cj.1 ht;exact hI x (by simpa using hx)
  generalize args.toList.map (Operand.t s)=ta at *
  unfold qq2;split
  ·rename_i x ty h;have h2:=hA x sMp;unfold lenT;rcases P.underlying ty with _ | d
   ·cases x <;> rfl
   ·cases x
    case asl id m=>
     cases d <;> try rfl
     simp only[jB (h2 id (by simp [ids]))]
    case vw id m lo len=>
     cases d <;> try rfl
     simp only[jB (h2 id (by simp [ids]))]
    case v y=>
     cases y
     case slice p l c=>cases p <;> cases l <;> cases c <;> cases d <;> rfl
     all_goals (cases d <;> rfl)
    all_goals (cases d <;> rfl)
  ·rename_i x y t0 t1 h;have h2:=hA x sMp;have h3:=hA y sMp;have h4:appY P s.st t1 y=appY P s'.st t1 y:=by unfold appY;rw[Wd h3]
   unfold qg6;rw[h4,We h3,hN];generalize ixT P t0=a1;generalize byT P t0=a2;generalize zrOk P t0=a3;generalize appY P s'.st t1 y=a4;rcases a1 with _ | ⟨_ | n,k⟩ <;> rcases a2 with _ | b <;> rcases a3 with _ | _ <;> rcases a4 with _ | ⟨k',ys⟩ <;> try rfl
   simp only;split
   ·cases x <;> try rfl
    case asl id m=>simp only[h2 id (by simp [ids])]
    case vw id m lo len=>unfold zu4 zB4;simp only[h2 id (by simp [ids]),h2 (id+capK) (by simp [ids,capK]),hN]
    case v y=>
     cases y <;> try rfl
     case slice p l c=>cases p <;> cases l <;> cases c <;> rfl
   ·rfl
  ·rfl
  ·rfl
  ·rfl
 case h_23=>rfl
end
end Go.TL
namespace Go.TL
inductive MT where
 | ii
 | ib
 | si
 | sb
 deriving DecidableEq
def MT.kd:MT→TypeDesc
 | .ii | .ib=>.int .i64
 | .si | .sb=>.string
def MT.zv:MT→Value
 | .ii | .si=>.int .i64 0
 | .ib | .sb=>.bool false
def MT.em:MT→Es
 | .ii=>.ii []
 | .ib=>.ib []
 | .si=>.si []
 | .sb=>.sb []
def mtOf (P:Program) (t:TypeId):Option MT:=
 match P.underlying t with
 | some (.map kt et)=>match P.underlying kt,(P.info? et).bind (·.zero) with
   | some (.int .i64),some (.int .i64 n)=>if n=0 then some .ii else none
   | some (.int .i64),some (.bool b)=>if b=false then some .ib else none
   | some .string,some (.int .i64 n)=>if n=0 then some .si else none
   | some .string,some (.bool b)=>if b=false then some .sb else none
   | _,_=>none
 | _=>none
theorem zB7 {P:Program} {t:TypeId} {m:MT} (h:mtOf P t=some m):∃ kt et inf,P.underlying t=some (.map kt et)∧P.underlying kt=some m.kd∧P.info? et=some inf∧inf.zero=some m.zv:=by
 unfold mtOf at h;split at h
 ·rename_i kt et hu;have hb:∀ {v:Value},(P.info? et).bind (·.zero)=some v→∃ inf,P.info? et=some inf∧inf.zero=some v:=by
   intro v hv;cases hi:P.info? et with
   | none=>rw[hi] at hv;cases hv
   | some inf=>rw[hi] at hv;exact⟨inf,rfl,hv⟩
  split at h
  ·rename_i n hk hz;split at h
   ·rename_i hn;injection h with h;subst h hn
    obtain⟨inf,h1,h2⟩:=hb hz;exact⟨kt,et,inf,hu,hk,h1,h2⟩
   ·cases h
  ·rename_i n hk hz;split at h
   ·rename_i hn;injection h with h;subst h hn
    obtain⟨inf,h1,h2⟩:=hb hz;exact⟨kt,et,inf,hu,hk,h1,h2⟩
   ·cases h
  ·rename_i n hk hz;split at h
   ·rename_i hn;injection h with h;subst h hn
    obtain⟨inf,h1,h2⟩:=hb hz;exact⟨kt,et,inf,hu,hk,h1,h2⟩
   ·cases h
  ·rename_i n hk hz;split at h
   ·rename_i hn;injection h with h;subst h hn
    obtain⟨inf,h1,h2⟩:=hb hz;exact⟨kt,et,inf,hu,hk,h1,h2⟩
   ·cases h
  ·cases h
 ·cases h
def look {K V:Type} (eq:K→K→Bool) (k:K):List (K×V)→Option V
 | []=>none
 | (k',v)::r=>if eq k k'=true then some v else look eq k r
def asg {K V:Type} (eq:K→K→Bool) (k:K) (v:V):List (K×V)→List (K×V)
 | []=>[(k,v)]
 | (k',w)::r=>if eq k k'=true then (k,v)::r else (k',w)::asg eq k v r
def eqI (a b:Int):Bool:=a==b
def eqS (a b:ByteArray):Bool:=a.toList==b.toList
def getM:Es→T→Option (MT×T×Bool)
 | .ii l,.v (.int .i64 k)=>some (.ii,.v (.int .i64 ((look eqI k l).getD 0)),(look eqI k l).isSome)
 | .ib l,.v (.int .i64 k)=>some (.ib,.v (.bool ((look eqI k l).getD false)),(look eqI k l).isSome)
 | .si l,.v (.string k)=>some (.si,.v (.int .i64 ((look eqS k l).getD 0)),(look eqS k l).isSome)
 | .sb l,.v (.string k)=>some (.sb,.v (.bool ((look eqS k l).getD false)),(look eqS k l).isSome)
 | _,_=>none
def putM:Es→T→T→Option (MT×Es)
 | .ii l,.v (.int .i64 k),.v (.int .i64 x)=>some (.ii,.ii (asg eqI k x l))
 | .ib l,.v (.int .i64 k),.v (.bool x)=>some (.ib,.ib (asg eqI k x l))
 | .si l,.v (.string k),.v (.int .i64 x)=>some (.si,.si (asg eqS k x l))
 | .sb l,.v (.string k),.v (.bool x)=>some (.sb,.sb (asg eqS k x l))
 | _,_,_=>none
section
variable {K V:Type} {mkK:K→Value} {mkV:V→Value} {eq:K→K→Bool} {d:TypeDesc}
theorem Kk (hs:∀ a b,Instr.sameNow d (mkK a) (mkK b)=some (eq a b)) (k:K):∀ (l:List (K×V)) (ents:List MapEntry) (i:Nat),ents.map (fun e=>(e.key,e.val))=l.map (fun p=>(mkK p.1,mkV p.2))→
 (look eq k l=none∧Instr.findNow d (mkK k) ents i=some none∧∀ x,asg eq k x l=l++[(k,x)])∨
 ∃ j v e k',look eq k l=some v∧Instr.findNow d (mkK k) ents i=some (some (i+j,mkV v))∧ents[j]?=some e∧e.key=mkK k'∧eq k k'=true∧∀ x,asg eq k x l=l.take j++(k,x)::l.drop (j+1)
 | [],[],i,h=>.inl ⟨rfl,rfl,fun x=>rfl⟩
 | [],_::_,i,h=>by cases h
 | _::_,[],i,h=>by cases h
 | (k',v)::l,e::ents,i,h=>by
   simp only[List.map_cons,List.cons.injEq,Prod.mk.injEq] at h;obtain⟨⟨h1,h2⟩,h3⟩:=h;cases he:eq k k' with
   | true=>exact .inr ⟨0,v,e,k',by simp [look,he],by simp [Instr.findNow,h1,hs,he,h2],rfl,h1,he,fun x=>by simp [asg,he]⟩
   | false=>
     rcases Kk hs k l ents (i+1) h3 with⟨g1,g2,g3⟩ | ⟨j,v',e',k2,g1,g2,g3,g4,g5,g6⟩
     ·exact .inl ⟨by simp [look,he,g1],by simp [Instr.findNow,h1,hs,he,g2],fun x=>by simp [asg,he,g3]⟩
     ·exact .inr ⟨j+1,v',e',k2,by simp [look,he,g1],by simp [Instr.findNow,h1,hs,he,g2];omega,by simpa using g3,g4,g5,fun x=>by simp [asg,he,g6]⟩
end
section
variable {P:Program} {e:Env} {o:Oper} {s:St}
theorem Rel.newmap {ι:Iota} {a:Act} {w:World} (h:Rel e s ι a w) (id:Nat) (hid:get s.st id=none) (es:Es) (ents:Array MapEntry) (clock:Nat) (hc:ents.toList.map (fun x=>(x.key,x.val))=es.vals) :
 Rel e { s with st:=(id,.mp es)::s.st } (upd ι id (some (w.heap.size,0))) a (w.alloc (.map ents clock)):=by
 have hkk:∀ b,b<w.heap.size→(w.alloc (.map ents clock)).heap[b]?=w.heap[b]?:=fun b hb=>RowKit.Below.heap_alloc w _ b hb;have hsz:w.heap.size≤(w.alloc (.map ents clock)).heap.size:=by simp
 have hne:∀ i,get s.st i≠none→i≠id:=fun i hi e=>hi (e ▸ hid);have hcase:∀ i o',get ((id,Ob.mp es)::s.st) i=some o'→(i=id∧o' = .mp es)∨(i≠id∧get s.st i=some o'):=fun i o' hg=>by
  by_cases hii:i=id
  ·subst hii;rw[qz] at hg;injection hg with hg;exact .inl ⟨rfl,hg.symm⟩
  ·rw[qw _ _ (Ne.symm hii)] at hg;exact .inr ⟨hii,hg⟩
 have harr:∀ i k xs fz,get ((id,Ob.mp es)::s.st) i=some (.arr k xs fz)→i≠id∧get s.st i=some (.arr k xs fz):=fun i k xs fz hg=>by
  rcases hcase i _ hg with⟨_,h2⟩ | h2
  ·cases h2
  ·exact h2
 refine (h.goG (st':=(id,.mp es)::s.st) (ι':=upd ι id (some (w.heap.size,0))) (w':=w.alloc (.map ents clock)) ⟨fun i hi=>?_,fun i k' xs' fz' hg hi=>?_,fun i es' hg hi=>?_⟩ ?_ ?_ ?_ ?_ ?_ ?_ hsz rfl rfl rfl ⟨?_,?_⟩).1
 ·rw[qw _ _ (Ne.symm (hne i hi))];exact hi
 ·obtain⟨h1,h2⟩:=harr i k' xs' fz' hg;exact⟨k',xs',fz',h2,rfl,BZ _,fun _=>zc _ _ h1⟩
 ·rcases hcase i _ hg with⟨h1,_⟩ | ⟨h1,h2⟩
  ·exact absurd h1 (hne i hi)
  ·exact⟨⟨es',h2⟩,zc _ _ h1⟩
 ·intro x hx u hu;exact wK (hkk _ (Av.lt h hx)) u hu
 ·rintro x (hx | ⟨h1,h2,h3⟩)
  ·exact .inl hx
  ·refine .inr ⟨h1,EQ h2 hsz,fun i k' xs' fz' cap' hg hi=>?_⟩;obtain⟨g1,g2⟩:=harr i k' xs' fz' hg;rw[zc _ _ g1] at hi;exact h3 i k' xs' fz' cap' g2 hi
 ·intro i o' ho';rcases hcase i o' ho' with⟨rfl,rfl⟩ | ⟨h1,h2⟩
  ·exact .inr fun _=>⟨w.heap.size,clock,ents,qQ _ _ _,heap_alloc_new w _,hc⟩
  ·refine .inl ⟨h2,zc _ _ h1,fun b c hi hx=>?_⟩;rcases hx with⟨k,xs,fz,rfl⟩ | ⟨es',rfl⟩
   ·exact hkk b (h.blk h2 hi)
   ·exact hkk b (h.mlt h2 hi)
 ·intro i i' k1 x1 f1 k2 x2 f2 b c c' g1 g2 e1 e2;obtain⟨p1,p2⟩:=harr i _ _ _ g1;obtain⟨q1,q2⟩:=harr i' _ _ _ g2;rw[zc _ _ p1] at e1;rw[zc _ _ q1] at e2;exact h.inj i i' _ _ _ _ _ _ b c c' p2 q2 e1 e2
 ·intro i k1 x1 f1 b c g1 e1;obtain⟨p1,p2⟩:=harr i _ _ _ g1;rw[zc _ _ p1] at e1;exact h.own i _ _ _ b c p2 e1
 ·intro b hb _;exact hkk b (EQ hb h.hs)
 ·intro i es' b c hg hi;rcases hcase i _ hg with⟨rfl,_⟩ | ⟨h1,h2⟩
  ·rw[qQ] at hi;injection hi with hi;injection hi with hi _;rw[← hi];exact h.hs
  ·rw[zc _ _ h1] at hi;exact h.mp.own i es' b c h2 hi
 ·intro i i' es1 es2 b c c' g1 g2 e1 e2;rcases hcase i _ g1 with⟨p1,_⟩ | ⟨p1,p2⟩ <;> rcases hcase i' _ g2 with⟨q1,_⟩ | ⟨q1,q2⟩
  ·rw[p1,q1]
  ·subst p1;rw[qQ] at e1;injection e1 with e1;injection e1 with e1 _
   rw[zc _ _ q1] at e2;have:=h.mlt q2 e2;omega
  ·subst q1;rw[qQ] at e2;injection e2 with e2;injection e2 with e2 _
   rw[zc _ _ p1] at e1;have:=h.mlt p2 e1;omega
  ·rw[zc _ _ p1] at e1;rw[zc _ _ q1] at e2;exact h.mp.inj i i' _ _ b c c' p2 q2 e1 e2
theorem Rel.setmap {ι:Iota} {a:Act} {w:World} (h:Rel e s ι a w) {id:Nat} {es0:Es} (hid:get s.st id=some (.mp es0)) {b:Nat} (hb:ι id=some (b,0)) {ents0:Array MapEntry} {clock0:Nat} (hw:w.heap[b]?=some (.map ents0 clock0))
 (es:Es) (ents:Array MapEntry) (clock:Nat) (hc:ents.toList.map (fun x=>(x.key,x.val))=es.vals) :
 Rel e { s with st:=(id,.mp es)::s.st } ι a { w with heap:=w.heap.setIfInBounds b (.map ents clock) }:=by
 have hbl:b<w.heap.size:=(Array.getElem?_eq_some_iff.1 hw).1;have hkk:∀ b',b'≠b→({ w with heap:=w.heap.setIfInBounds b (.map ents clock) }:World).heap[b']?=w.heap[b']?:=fun b' hb'=>by
  simp [Array.getElem?_setIfInBounds,Ne.symm hb']
 have hnew:({ w with heap:=w.heap.setIfInBounds b (.map ents clock) }:World).heap[b]?=some (.map ents clock):=by
  simp [Array.getElem?_setIfInBounds,hbl]
 have hcell:∀ x u,w.cell? x=some u→({ w with heap:=w.heap.setIfInBounds b (.map ents clock) }:World).cell? x=some u:=fun x u hu=>by
  by_cases hx:x.block=b
  ·exfalso
   unfold World.cell? at hu;rw[hx,hw] at hu;cases hu
  ·exact wK (hkk _ hx) u hu
 have hcase:∀ i o',get ((id,Ob.mp es)::s.st) i=some o'→(i=id∧o' = .mp es)∨(i≠id∧get s.st i=some o'):=fun i o' hg=>by
  by_cases hii:i=id
  ·subst hii;rw[qz] at hg;injection hg with hg;exact .inl ⟨rfl,hg.symm⟩
  ·rw[qw _ _ (Ne.symm hii)] at hg;exact .inr ⟨hii,hg⟩
 have harr:∀ i k xs fz,get ((id,Ob.mp es)::s.st) i=some (.arr k xs fz)→i≠id∧get s.st i=some (.arr k xs fz):=fun i k xs fz hg=>by
  rcases hcase i _ hg with⟨_,h2⟩ | h2
  ·cases h2
  ·exact h2
 have hmp:∀ i es',get ((id,Ob.mp es)::s.st) i=some (.mp es')→∃ es2,get s.st i=some (.mp es2):=fun i es' hg=>by
  rcases hcase i _ hg with⟨rfl,_⟩ | ⟨_,h2⟩
  ·exact⟨es0,hid⟩
  ·exact⟨es',h2⟩
 refine (h.goG (st':=(id,.mp es)::s.st) (ι':=ι) (w':={ w with heap:=w.heap.setIfInBounds b (.map ents clock) }) ⟨fun i hi=>?_,fun i k' xs' fz' hg hi=>?_,fun i es' hg hi=>⟨hmp i es' hg,rfl⟩⟩ (fun x _ u hu=>hcell x u hu) ?_ ?_ ?_ ?_ ?_ sMp rfl rfl rfl ⟨?_,?_⟩).1
 ·by_cases hii:i=id
  ·subst hii;rw[qz];simp
  ·rw[qw _ _ (Ne.symm hii)];exact hi
 ·obtain⟨h1,h2⟩:=harr i k' xs' fz' hg;exact⟨k',xs',fz',h2,rfl,BZ _,fun _=>rfl⟩
 ·rintro x (hx | ⟨h1,h2,h3⟩)
  ·exact .inl hx
  ·refine .inr ⟨h1,by simpa using h2,fun i k' xs' fz' cap' hg hi=>?_⟩;obtain⟨g1,g2⟩:=harr i k' xs' fz' hg;exact h3 i k' xs' fz' cap' g2 hi
 ·intro i o' ho';rcases hcase i o' ho' with⟨rfl,rfl⟩ | ⟨h1,h2⟩
  ·exact .inr fun _=>⟨b,clock,ents,hb,hnew,hc⟩
  ·refine .inl ⟨h2,rfl,fun b' c hi hx=>hkk b' ?_⟩;rintro rfl;rcases hx with⟨k,xs,fz,rfl⟩ | ⟨es',rfl⟩
   ·exact h.mne hid hb h2 hi rfl
   ·exact h1 (h.mp.inj i id es' es0 b' c 0 h2 hid hi hb)
 ·intro i i' k1 x1 f1 k2 x2 f2 b c c' g1 g2 e1 e2;exact h.inj i i' _ _ _ _ _ _ b c c' (harr i _ _ _ g1).2 (harr i' _ _ _ g2).2 e1 e2
 ·intro i k1 x1 f1 b c g1 e1;exact h.own i _ _ _ b c (harr i _ _ _ g1).2 e1
 ·intro b' hb' _;refine hkk b' ?_;rintro rfl;have:=h.mp.own id es0 b' 0 hid hb;omega
 ·intro i es' b c hg hi;obtain⟨es2,h2⟩:=hmp i es' hg;exact h.mp.own i es2 b c h2 hi
 ·intro i i' es1 es2 b c c' g1 g2 e1 e2;obtain⟨x1,h1⟩:=hmp i _ g1;obtain⟨x2,h2⟩:=hmp i' _ g2;exact h.mp.inj i i' _ _ b c c' h1 h2 e1 e2
theorem Rp.mp_inv {st:Sto} {ι:Iota} {w:World} {A:Addr→Prop} {v:Value} {id:Nat} (h:Rp st ι w A v (.mp id)) {es:Es} (hg:get st id=some (.mp es)):∃ b,ι id=some (b,0)∧v = .map (some b):=by
 cases h with
 | im h=>cases h
 | mp _ _ hd h=>exact h es hg
def mkmR (m:MT) (st:Sto) (nid:Nat):Option Res:=some ⟨get st nid=none,.mp nid,[(nid,.mp m.em)]⟩
def zP6 (m:MT) (ok:Bool) (st:Sto) (x k:T):Option Res:=
 match x with
 | .mp id=>match get st id with
   | some (.mp es)=>match getM es k with
     | some (m',v,b)=>if m'=m then ret (if ok then .tup [v,.v (.bool b)] else v) else none
     | none=>none
   | _=>none
 | _=>none
def zP7 (m:MT) (st:Sto) (x k v:T):Option Res:=
 match x with
 | .mp id=>match get st id with
   | some (.mp es)=>match putM es k v with
     | some (m',es')=>if m'=m then some ⟨True,.v undef,[(id,.mp es')]⟩ else none
     | none=>none
   | _=>none
 | _=>none
theorem js0 {t:TypeId} {m:MT} (ho:o.op = .makeMap t none) (nid:Nat) {r:Res} (hr:mkmR m s.st nid=some r) (hs:r.side):Does P e o s r.val r.wr:=by
 simp only[mkmR,Option.some.injEq] at hr;subst hr;refine Does.of_run fun ι act w hR=>?_;have hR':=hR.newmap nid hs m.em #[] 0 (by cases m <;> rfl);refine⟨.map (some w.heap.size),_,_,?_,hR',?_⟩
 ·simp [execOp,ho,Instr.makeMap,newObj,Sem.run]
 ·refine .mp nid _ (by simp [stw,get]) fun es hg=>?_;exact⟨w.heap.size,qQ _ _ _,rfl⟩
theorem qS8 {k:Int}:MapKept.IsKey (.int .i64) (.int .i64 k):=rfl
theorem qS9 {k:ByteArray}:MapKept.IsKey .string (.string k):=trivial
theorem sn_i (a b:Int):Instr.sameNow (.int .i64) (.int .i64 a) (.int .i64 b)=some (eqI a b):=by simp [Instr.sameNow,eqI]
theorem sn_s (a b:ByteArray):Instr.sameNow .string (.string a) (.string b)=some (eqS a b):=by simp [Instr.sameNow,eqS,beq_toListBytes]
theorem sb_i {a b:Int} (h:eqI a b=true):Instr.sameBits 10000 (.int .i64 b) (.int .i64 a)=true:=by
 simp [eqI] at h;subst h;simp [Instr.sameBits]
theorem sb_s {a b:ByteArray} (h:eqS a b=true):Instr.sameBits 10000 (.string b) (.string a)=true:=by
 simp only[Instr.sameBits];rw[beq_toListBytes];simp [eqS] at h;simp [h]
theorem zV4 {t:TypeId} {x k:Operand} {ok:Bool} {m:MT} (ho:o.op = .lookup t x k ok) (hm:mtOf P t=some m) {r:Res} (hr:zP6 m ok s.st (Operand.t s x) (Operand.t s k)=some r) (hs:r.side):Does P e o s r.val r.wr:=by
 obtain⟨kt,et,inf,hu,hk,hi,hz⟩:=zB7 hm;unfold zP6 at hr;split at hr
 ·rename_i id hx;split at hr
  ·rename_i es hg;split at hr
   ·rename_i m' v b hgm;split at hr
    ·rename_i hmm;subst hmm;simp only[ret,Option.some.injEq] at hr;subst hr;refine Does.of_value fun ι act w hR=>?_;obtain⟨bb,hb1,hb2⟩:=(hx ▸ hR.rp x).mp_inv hg;obtain⟨b',clock,ents,h4,h5,h6⟩:=hR.ob id _ hg;rw[h4] at hb1;injection hb1 with hb1;injection hb1 with hb1 _;subst hb1
     have hgo:=MapKept.run_getObj_map (P:=P) h5;have fin:∀ {K V:Type} {mkK:K→Value} {mkV:V→Value} {eq:K→K→Bool} (zv:V) (key:K) (l:List (K×V)),act.eval k=mkK key→(∀ a b,Instr.sameNow m'.kd (mkK a) (mkK b)=some (eq a b))→MapKept.IsKey m'.kd (mkK key)→m'.zv=mkV zv→es.vals=l.map (fun p=>(mkK p.1,mkV p.2))→
      v = .v (mkV ((look eq key l).getD zv))→b=(look eq key l).isSome→∃ u,(execOp act.eval o).run P w = .ok (.value u) w∧Rp s.st ι w (Av e s.st ι w) u (if ok then .tup [v,.v (.bool b)] else v):=by
      intro K V mkK mkV eq zv key l hkey hsn hik hzv hes hv hb;rw[hes] at h6;have hck:=MapKept.run_checkKey (P:=P) (w:=w) hk hik ents.isEmpty 9999;have hrun:(execOp act.eval o).run P w = .ok (.value (if ok then .tuple #[mkV ((look eq key l).getD zv),.bool (look eq key l).isSome] else mkV ((look eq key l).getD zv))) w:=by
       rcases Kk (mkV:=mkV) hsn key l ents.toList 0 h6 with⟨g1,g2,_⟩ | ⟨j,v',e',k',g1,g2,_⟩
       ·have hfk:=MapKept.run_findKey (P:=P) (w:=w) hk g2;simp [execOp,ho,Instr.lookup,run_underlying hu,hb2,hgo,hkey,hck,hfk,zeroValue,typeInfo,hi,hz,g1,hzv]
       ·have hfk:=MapKept.run_findKey (P:=P) (w:=w) hk g2;simp [execOp,ho,Instr.lookup,run_underlying hu,hb2,hgo,hkey,hck,hfk,g1]
      refine⟨_,hrun,?_⟩;subst hv hb;cases ok with
      | true=>
        refine .tup [_,_] _ sMp fun j u c hu hc=>?_
        match j with
        | 0=>simp at hu hc;subst hu hc;exact .im (.v _)
        | 1=>simp at hu hc;subst hu hc;exact .im (.v _)
        | j+2=>simp at hu
      | false=>exact .im (.v _)
     have hkv:=hR.rp k;generalize hkt:Operand.t s k=kk at hgm hkv;unfold getM at hgm;split at hgm
     ·rename_i l key;injection hgm with hgm;injection hgm with e1 e2;injection e2 with e2 e3;subst e1;exact fin 0 key l hkv.v_inv sn_i qS8 rfl rfl e2.symm e3.symm
     ·rename_i l key;injection hgm with hgm;injection hgm with e1 e2;injection e2 with e2 e3;subst e1;exact fin false key l hkv.v_inv sn_i qS8 rfl rfl e2.symm e3.symm
     ·rename_i l key;injection hgm with hgm;injection hgm with e1 e2;injection e2 with e2 e3;subst e1;exact fin 0 key l hkv.v_inv sn_s qS9 rfl rfl e2.symm e3.symm
     ·rename_i l key;injection hgm with hgm;injection hgm with e1 e2;injection e2 with e2 e3;subst e1;exact fin false key l hkv.v_inv sn_s qS9 rfl rfl e2.symm e3.symm
     ·cases hgm
    ·cases hr
   ·cases hr
  ·cases hr
 ·cases hr
theorem zu6 {α:Type} {a:Array α} {j:Nat} {x:α} {f:α→α} (h:a.toList[j]?=some x):(a.modify j f).toList=a.toList.take j++f x::a.toList.drop (j+1):=by
 have hj:j<a.size:=by simpa using (List.getElem?_eq_some_iff.1 h).1
 have hx:a[j]=x:=by simpa [hj] using h
 apply List.ext_getElem?
 intro i;simp only[Array.getElem?_toList,Array.getElem?_modify];by_cases h1:i<j
 ·rw[BK (by simp;omega),BQ,Aj h1,Aq oM];simp
 ·by_cases h2:i=j
  ·subst h2;rw[BJ (by simp;omega)];simp [hj,Nat.min_eq_left (Nat.le_of_lt hj),hx]
  ·rw[BJ (by simp;omega),Aq (fun h=>h2 h.symm)];simp only[Cz,Array.length_toList,Nat.min_eq_left (Nat.le_of_lt hj)];rw[show i-j=(i-j-1)+1 by omega,List.getElem?_cons_succ,Dx,show j+1+(i-j-1)=i by omega];simp
theorem zV5 {t:TypeId} {x k y:Operand} {m:MT} (ho:o.op = .mapUpdate t x k y) (hm:mtOf P t=some m) {r:Res} (hr:zP7 m s.st (Operand.t s x) (Operand.t s k) (Operand.t s y)=some r) (hs:r.side):Does P e o s r.val r.wr:=by
 obtain⟨kt,et,inf,hu,hk,hi,hz⟩:=zB7 hm;unfold zP7 at hr;split at hr
 ·rename_i id hx;split at hr
  ·rename_i es hg;split at hr
   ·rename_i m' es' hgm;split at hr
    ·rename_i hmm;subst hmm;injection hr with hr;subst hr;refine Does.of_skip fun ι act w hR=>?_;obtain⟨bb,hb1,hb2⟩:=(hx ▸ hR.rp x).mp_inv hg;obtain⟨b',clock,ents,h4,h5,h6⟩:=hR.ob id _ hg;rw[h4] at hb1;injection hb1 with hb1;injection hb1 with hb1 _;subst hb1
     have hgo:=MapKept.run_getObj_map (P:=P) h5;have fin:∀ {K V:Type} {mkK:K→Value} {mkV:V→Value} {eq:K→K→Bool} (key:K) (val:V) (l:List (K×V)),act.eval k=mkK key→act.eval y=mkV val→(∀ a b,Instr.sameNow m'.kd (mkK a) (mkK b)=some (eq a b))→(∀ {a b},eq a b=true→Instr.sameBits 10000 (mkK b) (mkK a)=true)→MapKept.IsKey m'.kd (mkK key)→es.vals=l.map (fun p=>(mkK p.1,mkV p.2))→
      es'.vals=(asg eq key val l).map (fun p=>(mkK p.1,mkV p.2))→∃ w' ι',(execOp act.eval o).run P w = .ok .skip w'∧Rel e ⟨s.fr,stw s.st [(id,.mp es')]⟩ ι' act w':=by
      intro K V mkK mkV eq key val l hkey hval hsn hsb hik hes hes';rw[hes] at h6;have hck:=MapKept.run_checkKey (P:=P) (w:=w) hk hik false 9999;rcases Kk (mkV:=mkV) hsn key l ents.toList 0 h6 with⟨g1,g2,g3⟩ | ⟨j,v',e',k',g1,g2,g3,g4,g5,g6⟩
      ·have hfk:=MapKept.run_findKey (P:=P) (w:=w) hk g2;have hso:=MapKept.run_setObj_map (P:=P) (.map (ents.push { key:=mkK key,val:=mkV val,born:=clock }) (clock+1)) h5;refine⟨_,ι,?_,hR.setmap hg h4 h5 es' (ents.push { key:=mkK key,val:=mkV val,born:=clock }) (clock+1) ?_⟩
       ·simp [execOp,ho,Instr.mapUpdate,run_underlying hu,hb2,hgo,hkey,hval,hck,hfk,hso]
       ·rw[hes',g3];simp [h6]
      ·have hfk:=MapKept.run_findKey (P:=P) (w:=w) hk g2;have hke:(Instr.keyThatStays (mkK k') (mkK key)).run P w = .ok (mkK key) w:=by
        simp [Instr.keyThatStays,hsb g5]
       have hso:=MapKept.run_setObj_map (P:=P) (.map (ents.modify j fun e=>{ e with key:=mkK key,val:=mkV val }) clock) h5;have gs:ents[0+j]?=some e':=by simpa using g3
       refine⟨_,ι,?_,hR.setmap hg h4 h5 es' (ents.modify j fun e=>{ e with key:=mkK key,val:=mkV val }) clock ?_⟩
       ·simp only[Nat.zero_add] at hfk gs;simp [execOp,ho,Instr.mapUpdate,run_underlying hu,hb2,hgo,hkey,hval,hck,hfk,gs,g4,hke,hso]
       ·rw[hes',g6,zu6 g3];have h7:(ents.toList.take j).map (fun x=>(x.key,x.val))=(l.take j).map (fun p=>(mkK p.1,mkV p.2)):=by rw[List.map_take,h6,List.map_take]
        have h8:(ents.toList.drop (j+1)).map (fun x=>(x.key,x.val))=(l.drop (j+1)).map (fun p=>(mkK p.1,mkV p.2)):=by rw[List.map_drop,h6,List.map_drop]
        rw[By,List.map_cons,By,List.map_cons,h7,h8]
     have hkv:=hR.rp k;have hyv:=hR.rp y;generalize hkt:Operand.t s k=kk at hgm hkv;generalize hyt:Operand.t s y=yy at hgm hyv;unfold putM at hgm;split at hgm
     ·rename_i l key val;injection hgm with hgm;injection hgm with e1 e2;subst e1 e2;exact fin key val l hkv.v_inv hyv.v_inv sn_i sb_i qS8 rfl rfl
     ·rename_i l key val;injection hgm with hgm;injection hgm with e1 e2;subst e1 e2;exact fin key val l hkv.v_inv hyv.v_inv sn_i sb_i qS8 rfl rfl
     ·rename_i l key val;injection hgm with hgm;injection hgm with e1 e2;subst e1 e2;exact fin key val l hkv.v_inv hyv.v_inv sn_s sb_s qS9 rfl rfl
     ·rename_i l key val;injection hgm with hgm;injection hgm with e1 e2;subst e1 e2;exact fin key val l hkv.v_inv hyv.v_inv sn_s sb_s qS9 rfl rfl
     ·cases hgm
    ·cases hr
   ·cases hr
  ·cases hr
 ·cases hr
def capR (st:Sto) (x:T):Option Res:=
 match x with
 | .vw id n lo len=>match get st (id+capK) with
   | some (.full i n' _)=>if i=id∧n'=n then some ⟨zr st id n,.v (.int .i64 ((n-lo:Nat):Int)),[]⟩ else none
   | _=>none
 | _=>none
theorem js1 {x:Operand} {ty el:TypeId} (ho:o.op = .call { callee:=.builtin .cap,args:=#[x],argTypes:=#[ty] }) (hu:P.underlying ty=some (.slice el)) {r:Res}
 (hr:capR s.st (Operand.t s x)=some r) (hs:r.side):Does P e o s r.val r.wr:=by
 unfold capR at hr;split at hr
 ·rename_i id n lo len hx;split at hr
  ·rename_i i n' g hgf;split at hr
   ·rename_i hc;obtain⟨rfl,rfl⟩:=hc;injection hr with hr;subst hr;obtain⟨k,xs,fz,hg,hm⟩:=zp.1 hs;refine Does.of_value fun ι act w hR=>?_;obtain⟨hle,hv⟩:=(hx ▸ hR.rp x).vw_inv hg hm;obtain⟨_,hf⟩:=hR.ob _ _ hgf;obtain⟨_,hf⟩:=hf k xs fz hg;have hcap:∃ p,act.eval x = .slice p len (n'-lo):=by
     rcases (hR.ob i _ hg).2 with⟨h1,h2⟩ | ⟨b,cap,cur,E,h1,_⟩
     ·subst h2;simp only[Cw] at hm;subst hm;rw[h1] at hv;obtain⟨p,hv⟩:=hv;have:len=0:=by omega
      subst this;exact⟨p,by rw[hv];simp⟩
     ·have:=hf hm b cap h1;subst this;rw[h1] at hv;obtain⟨p,hv,_⟩:=hv;exact⟨p,hv⟩
    obtain⟨p,hv⟩:=hcap;refine⟨.int .i64 ((n'-lo:Nat):Int),?_,.im (.v _)⟩;simp [execOp,ho,resolve,invoke,builtin,Builtin.cap_,hv,run_underlying hu,goInt]
   ·cases hr
  ·cases hr
 ·cases hr
def sl3R (st:Sto) (x:T) (lo:Option T) (h m:T):Option Res:=
 match conT st x,bndT lo,h,m with
 | some (_,xs),some l,.v (.int _ b),.v (.int _ c)=>some ⟨conS st x∧0≤lowT l∧lowT l≤b∧b≤c∧c≤xs.length,.junk,[]⟩
 | _,_,_,_=>none
theorem zB8 {ty:TypeId} {x h m:Operand} {lo:Option Operand} {k:Nat} (ho:o.op = .slice ty x lo (some h) (some m)) (hix:ixT P ty=some (none,k)) {r:Res}
 (hr:sl3R s.st (Operand.t s x) (lo.map (Operand.t s)) (Operand.t s h) (Operand.t s m)=some r) (hs:r.side):Does P e o s r.val r.wr:=by
 unfold sl3R at hr;split at hr
 ·rename_i k2 xs l kb b kc c hc hlo hh hmm;injection hr with hr;subst hr;obtain⟨hcs,h0,h1,h2,h3⟩:=hs;obtain⟨el,inf,g1,g2,g3⟩:=ja hix;refine Does.of_value fun ι act w hR=>?_;obtain⟨p,cap,us,hv,c1,_⟩:=hR.con (hR.rp x) hc hcs;have hhv:=(hh ▸ hR.rp h).v_inv;have hmv:=(hmm ▸ hR.rp m).v_inv;have b1:=yL (P:=P) w kc c cap .slice3Acap oM oM;have b2:=yL (P:=P) w kb b c.toNat .slice3B oM oM
  suffices hq:∃ v,(execOp act.eval o).run P w = .ok (.value v) w by
   obtain⟨v,hq⟩:=hq;exact⟨v,hq,.im (.junk v)⟩
  cases lo with
  | none=>
    simp only[Option.map_none,bndT,Option.some.injEq] at hlo;subst hlo;refine⟨.slice (if c.toNat=0 then p else p.map (·.add 0)) b.toNat c.toNat,?_⟩;simp [execOp,ho,hv,Instr.sliceAt,run_underlying g1,Instr.slice,hhv,hmv,Instr.sliceBounds,b1,b2,sizeOf,typeInfo,g2]
  | some lo=>
    simp only[Ej] at hlo;unfold bndT at hlo;split at hlo
    ·rename_i hq2;cases hq2
    ·rename_i kl n hlt;injection hlo with hlo;subst hlo;injection hlt with hlt;have hlv:=(hlt ▸ hR.rp lo).v_inv;simp only[lowT] at h0 h1;have b3:=yL (P:=P) w kl n b.toNat .slice3C oM oM;refine⟨.slice (if c.toNat=n.toNat then p else p.map (·.add (n.toNat*inf.size))) (b.toNat-n.toNat) (c.toNat-n.toNat),?_⟩;simp [execOp,ho,hv,Instr.sliceAt,run_underlying g1,Instr.slice,hhv,hmv,hlv,Instr.sliceBounds,b1,b2,b3,sizeOf,typeInfo,g2]
    ·cases hlo
 ·cases hr
def zP8 (k b:Nat) (z:T) (st:Sto) (nid:Nat) (x y:T):Option Res:=
 match x,y with
 | .vw id n lo len,.v (.int _ l)=>match get st id,get st (id+capK) with
   | some (.arr k0 xs fz),some (.full i n' _)=>if k0=k∧i=id∧n'=n then
      some ⟨xs.length=n∧get st nid=none∧0≤l∧n<lo+len+l.toNat∧0<b∧(len+l.toNat)*b≤140737488355328∧z.cells.length=k∧jA [] z.cells,
       .asl nid (len+l.toNat),[(nid,.arr k ((xs.drop lo).take len++List.replicate l.toNat z) false)]⟩ else none
   | _,_=>none
 | _,_=>none
theorem ze7 {w:World} {ty:TypeId} (t tx el:TypeId) (i:TypeInfo) (z:Value) (kx:IntKind) (ht:P.underlying t=some (.slice el)) (hx:P.underlying tx=some (.int kx)) (hi:P.info? el=some i) (hz:i.zero=some z) (hzs:z.cells.size=i.size)
 (p:Option Addr) (m cap:Nat) (kl:IntKind) (l:Int) (olds:List Value) (h0:0≤l)
 (hO:∀ w':World,w'.heap=w.heap→(Builtin.firstCells i.size m (.slice p m cap)).run P w' = .ok olds.toArray w')
 (hg:cap<m+l.toNat) (hby:0<i.bytes) (hfit:(m+l.toNat)*i.bytes≤140737488355328) :
 (Builtin.append_ #[t,tx] ty #[.slice p m cap,.int kl l]).run P w =
   .ok (.slice (some ⟨w.heap.size,0,none⟩) (m+l.toNat) (grownCap w (m+l.toNat) cap el))
    (w.drew.alloc (.cells (olds.toArray++Builtin.zeroCells z.cells l.toNat++Builtin.zeroCells z.cells (grownCap w (m+l.toNat) cap el-(m+l.toNat))) el)):=by
 obtain⟨n,rfl⟩:=AJ h0;simp only[Ax] at hg hfit ⊢
 have hO':=hO w.drew rfl;have hmn:m+n≤140737488355328:=FZ (Nat.le_mul_of_pos_right _ hby) hfit;have hn:¬ (m+n≤cap):=by omega
 have hw:IntKind.i64.wrap (n:Int)=n:=AK _ oM;have hnb:n*i.bytes≤140737488355328:=FZ (CZ _ oM) hfit;have hnb':¬ ((281474976710656:Int)<(n:Int)*(i.bytes:Int)):=by
  rw[← Int.natCast_mul];omega
 have hneg:¬ ((n:Int)<0):=by omega
 have h63':¬ (9223372036854775807<((m:Int)+(n:Int))):=by omega
 have h48':¬ (281474976710656<Builtin.nextslicecap (m+n) cap*i.bytes):=by
  have:=growslice_fits (need:=m+n) (old:=cap) (bytes:=i.bytes) hg hfit;omega
 have hzc:n*i.size=0→Builtin.zeroCells z.cells n=#[]:=fun h=>by
  apply Array.eq_empty_of_size_eq_zero
  rw[size_zeroCells,hzs,h]
 by_cases hs0:n*i.size=0
 ·have hz0:=hzc hs0;simp [Builtin.append_,run_underlying ht,run_underlying hx,sizeOf,typeInfo,zeroValue,hi,hz,hn,hw,hnb',hneg,h63',h48',Question.forced,hO',newRow,grownCap,hz0,asInt,asIntOf]
 ·have hs1:¬ (n=0∨i.size=0):=by simpa [Nat.mul_eq_zero] using hs0
  simp [Builtin.append_,run_underlying ht,run_underlying hx,sizeOf,typeInfo,zeroValue,hi,hz,hn,hw,hnb',hneg,h63',h48',Question.forced,hO',newRow,grownCap,asInt,asIntOf,hs1];exact fun h=>absurd h hs0
theorem zV6 {x y:Operand} {ty0 ty1 el:TypeId} {kx:IntKind} {z:T} {k by_:Nat} (ho:o.op = .call { callee:=.builtin .append,args:=#[x,y],argTypes:=#[ty0,ty1] }) (hu0:P.underlying ty0=some (.slice el)) (hu1:P.underlying ty1=some (.int kx))
 (hz:zrT P el=some z) (hk:szT P el=some k) (hb:byT P ty0=some by_) (hzo:zrOk P ty0=true) (nid:Nat) {r:Res}
 (hr:zP8 k by_ z s.st nid (Operand.t s x) (Operand.t s y)=some r) (hs:r.side):Does P e o s r.val r.wr:=by
 unfold zP8 at hr;split at hr
 ·rename_i id n lo len kl l hx hy;split at hr
  ·rename_i k0 xs fz i n' g hg hgf;split at hr
   ·rename_i hc;obtain⟨rfl,rfl,rfl⟩:=hc;injection hr with hr;subst hr;obtain⟨hm,hn,h0,hgr,hb0,hfit,hzk,hzl⟩:=hs;subst hm;obtain⟨inf,hi,hisz⟩:∃ inf,P.info? el=some inf∧inf.size=k0:=by
     unfold szT at hk;cases hi:P.info? el with
     | none=>simp [hi] at hk
     | some inf=>simp [hi] at hk;exact⟨inf,rfl,hk⟩
    obtain⟨zv,hzv,hzo2⟩:∃ zv,inf.zero=some zv∧z=ofV zv:=by
     unfold zrT at hz;cases hq:inf.zero with
     | none=>simp [hi,hq] at hz
     | some zv=>simp [hi,hq] at hz;exact⟨zv,rfl,hz.symm⟩
    have hby:inf.bytes=by_:=by
     unfold byT at hb;rw[hu0] at hb;simp only[hi,Ej,Option.some.injEq] at hb;exact hb
    obtain⟨hzs,hz1⟩:zv.cells.size=inf.size∧zv.cells.all (fun u=>u.oneCell')=true:=by
     unfold zrOk at hzo;rw[hu0] at hzo;simp only[hi,hzv,Bq,AY] at hzo;exact hzo
    subst hisz hzo2 hby;refine Does.of_run fun ι act w hR=>?_;have hvx:=hR.rp x;rw[hx] at hvx;obtain⟨hle,hv⟩:=hvx.vw_inv hg rfl;have hvy:=(hy ▸ hR.rp y).v_inv;obtain⟨_,hf⟩:=hR.ob _ _ hgf;obtain⟨_,hf⟩:=hf _ xs fz hg;obtain⟨hkx,hob⟩:=hR.ob _ _ hg;obtain⟨p2,cap2,us,hv2,c1,c2,c3,c4,c5,c6,c7⟩:=hR.con (x:=.vw i xs.length lo len) (v:=act.eval x) (k:=some inf.size) (xs:=(xs.drop lo).take len) hvx (by simp [conT,hg]) (zp.2 ⟨_,_,_,hg,rfl⟩);have hxl:((xs.drop lo).take len).length=len:=by simp;omega
    rw[hxl] at hv2;have hcap:cap2=xs.length-lo:=by
     rcases hob with⟨h1,h2⟩ | ⟨b,cap,cur,E,h1,_⟩
     ·subst h2;rw[h1] at hv;obtain⟨p,hv⟩:=hv;rw[hv] at hv2;injection hv2 with _ _ hv2;simp [← hv2]
     ·have:=hf rfl b cap h1;subst this;rw[h1] at hv;obtain⟨p,hv,_⟩:=hv;rw[hv] at hv2;injection hv2 with _ _ hv2;exact hv2.symm
    have hkl:∀ y∈(xs.drop lo).take len,y.cells.length=inf.size:=fun y hy=>hkx y (EW (EX hy));have hfl:=qH hkl;rw[hxl] at hfl;have hrun:=ze7 (P:=P) (w:=w) (ty:=o.type) ty0 ty1 el inf zv kx hu0 hu1 hi hzv hzs p2 len cap2 kl l us h0
     (fun w' hw'=>ke inf.size len p2 cap2 us (by rw[c4,hfl]) (fun h=>c5 (by rw[hxl];exact h)) (fun j u hu=>by obtain⟨ad,e1,e2,_⟩:=c6 j u hu;exact⟨ad,e1,e2⟩) w' hw')
     oM hb0 hfit
    have hbound:len+l.toNat≤140737488355328:=FZ (Nat.le_mul_of_pos_right _ hb0) hfit;have hge:=grownCap_ge w (len+l.toNat) cap2 el;have hcm:grownCap w (len+l.toNat) cap2 el≤maxLen:=grownCap_le_maxLen w _ cap2 el (by simp only[maxLen];omega)
    let new:Array Value:=us.toArray++Builtin.zeroCells zv.cells l.toNat++Builtin.zeroCells zv.cells (grownCap w (len+l.toNat) cap2 el-(len+l.toNat))
    have hR1:Rel e s ι act w.drew:=hR.heap rfl rfl rfl rfl;have hnew:new.size=grownCap w (len+l.toNat) cap2 el*inf.size:=by
     simp only[new,Array.size_append,List.size_toArray,size_zeroCells,hzs,c4,hfl,← EY]
     congr 1;omega
    have hn1:∀ (j:Nat) (u:Value),new[j]?=some u→u.oneCell'=true:=by
     intro j u hu;have hm:=Array.mem_of_getElem? hu;simp only[new,Array.mem_append,List.mem_toArray] at hm;rcases hm with (hm | hm) | hm
     ·obtain⟨q,hq,rfl⟩:=CX hm;obtain⟨_,_,_,e3⟩:=c6 q us[q] sMp;exact e3
     ·obtain⟨q,hq,rfl⟩:=Array.getElem_of_mem hm;exact yw hz1 q _ (Eq hq)
     ·obtain⟨q,hq,rfl⟩:=Array.getElem_of_mem hm;exact yw hz1 q _ (Eq hq)
    obtain⟨hc1,hc2⟩:=qa0 zv;have hkr:∀ y∈List.replicate l.toNat (ofV zv),y.cells.length=inf.size:=fun y hy=>by rw[(List.mem_replicate.1 hy).2];exact hzk
    have hka:∀ y∈(xs.drop lo).take len++List.replicate l.toNat (ofV zv),y.cells.length=inf.size:=fun y hy=>by
     rcases Dz.1 hy with hy | hy
     ·exact hkl y hy
     ·exact hkr y hy
    have hnw:=hR1.new nid hn inf.size ((xs.drop lo).take len++List.replicate l.toNat (ofV zv)) false (grownCap w (len+l.toNat) cap2 el) new el hka hnew (by rw[AW,hxl,List.length_replicate];exact hge) hcm hn1 (fun j u c hu hc=>by
     refine⟨hn1 j u hu,?_⟩;have hmono:∀ v t,Rp s.st ι w (Av e s.st ι w) v t→Rp s.st ι w.drew (Av e s.st ι w.drew) v t:=fun v t h=>Rp.mono (w:=w) (A:=Av e s.st ι w) (w':=w.drew) (A':=Av e s.st ι w.drew) (fun x hx=>⟨hx,fun u hu=>hu⟩) (Goes.refl _ _) h;rw[wj] at hc;have hu':(us++((Builtin.zeroCells zv.cells l.toNat).toList++(Builtin.zeroCells zv.cells (grownCap w (len+l.toNat) cap2 el-(len+l.toNat))).toList))[j]?=some u:=by
      have:new.toList=us++((Builtin.zeroCells zv.cells l.toNat).toList++(Builtin.zeroCells zv.cells (grownCap w (len+l.toNat) cap2 el-(len+l.toNat))).toList):=by simp [new]
      rw[← this];simpa using hu
     have hjl:j<(flat ((xs.drop lo).take len)++flat (List.replicate l.toNat (ofV zv))).length:=(List.getElem?_eq_some_iff.1 hc).1;rw[AW,hfl,qH hkr,List.length_replicate] at hjl;by_cases hj:j<len*inf.size
     ·rw[BK (by rw[c4,hfl];exact hj)] at hu';rw[BK (by rw[hfl];exact hj)] at hc;exact hmono _ _ (c7 j u c hu' hc)
     ·rw[BJ (by rw[c4,hfl];omega),c4,hfl,BK (by simp [size_zeroCells,hzs];omega)] at hu';rw[BJ (by rw[hfl];omega),hfl] at hc;have hq:j-len*inf.size<l.toNat*inf.size:=by omega
      rw[kH _ _ _ hzk _ hq] at hc;have hk0:0<inf.size:=by
       apply Nat.pos_of_ne_zero
       intro h0;rw[h0] at hq;simp at hq
      have hmod:(j-len*inf.size) % inf.size<zv.cells.size:=by rw[hzs];exact Nat.mod_lt _ hk0
      have hu2:zv.cells[(j-len*inf.size) % inf.size]?=some u:=by
       simp only[Builtin.zeroCells,Array.getElem?_toList] at hu';rw[Array.getElem?_map] at hu';simp [hq,hzs] at hu';rw[← hu',getElem!_pos zv.cells _ hmod];simp [hmod]
      rw[hc2 _ u c hu2 hc];exact .im (.v _))
    refine⟨.slice (some ⟨w.heap.size,0,none⟩) (len+l.toNat) (grownCap w (len+l.toNat) cap2 el),_,_,?_,hnw.1,?_⟩
    ·simp [execOp,ho,resolve,invoke,builtin,hv2,hvy,hrun,new]
    ·refine .asl nid _ _ (by simp [stw,get]) fun k2 xs2 fz2 hg2=>?_;simp only[stw,BW,Cy] at hg2;rw[qz] at hg2;injection hg2 with hg2;injection hg2 with e1 e2 e3
     subst e1 e2 e3;refine⟨by simp;omega,fun _=>?_⟩;rw[qQ]
     rfl
   ·cases hr
  ·cases hr
 ·cases hr
end
end Go.TL
namespace Go.TL
inductive EK where
 | b
 | i (k:IntKind)
 | s
inductive XO where
 | slZ (k:Nat)
 | nilq (neg:Bool)
 | pnil (neg:Bool)
 | clr (k:Nat) (z:T)
 | cpy (k:Nat)
 | eqS (neg:Bool) (fs:List EK)
 | cvB
 | sl3
 | capq
 | appM (k b:Nat) (z:T)
 | mkm (m:MT)
 | mget (m:MT) (ok:Bool)
 | mput (m:MT)
def isZ:Operand→Bool
 | .const (.int _ n)=>n==0
 | _=>false
def ekT (P:Program) (t:TypeId):Option EK:=match P.underlying t with
 | some .bool=>some .b
 | some (.int k)=>some (.i k)
 | some .string=>some .s
 | _=>none
def qT0 (P:Program):Nat→List Field→Option (List EK)
 | _,[]=>some []
 | off, f :: fs => if f.name = "_" ∨ f.offset ≠ off then none else match ekT P f.type, qT0 P (off + 1) fs with
   | some k,some r=>some (k::r)
   | _,_=>none
def jQ1 (P:Program) (b:Builtin) (args:List Operand) (tys:List TypeId):Option XO:=
 match b,args,tys with
 | .clear,[_],[ty]=>match P.underlying ty with
   | some (.slice el)=>match zrT P el,szT P el with
     | some z,some k=>some (.clr k z)
     | _,_=>none
   | _=>none
 | .copy,[_,_],[ty,t1]=>match P.underlying t1,ixT P ty with
   | some (.slice _),some (none,k)=>some (.cpy k)
   | _,_=>none
 | .cap,[_],[ty]=>match P.underlying ty with
   | some (.slice _)=>some .capq
   | _=>none
 | .append,[_,_],[t0,t1]=>match P.underlying t0,P.underlying t1 with
   | some (.slice el),some (.int _)=>match zrT P el,szT P el,byT P t0,zrOk P t0 with
     | some z,some k,some b,true=>some (.appM k b z)
     | _,_,_,_=>none
   | _,_=>none
 | _,_,_=>none
def rsvX (P:Program) (o:Op):Option XO:=
 match o with
 | .slice ty _ none (some h) (some m)=>if isZ h&&isZ m then (match ixT P ty with | some (none,k)=>some (.slZ k) | _=>none) else (match ixT P ty with | some (none,_)=>some .sl3 | _=>none)
 | .slice ty _ (some _) (some _) (some _)=>match ixT P ty with | some (none,_)=>some .sl3 | _=>none
 | .makeMap t none=>(mtOf P t).map .mkm
 | .lookup t _ _ ok=>(mtOf P t).map fun m=>.mget m ok
 | .mapUpdate t _ _ _=>(mtOf P t).map .mput
 | .binOp op ty _ (.const (.slice none 0 0)) _=>match P.underlying ty with
   | some (.slice _)=>(match op with | .eql=>some (.nilq false) | .neq=>some (.nilq true) | _=>none)
   | _=>none
 | .binOp op ty _ (.const (.pointer none)) _=>match P.underlying ty with
   | some (.pointer _)=>(match op with | .eql=>some (.pnil false) | .neq=>some (.pnil true) | _=>none)
   | _=>none
 | .binOp .eql ty _ _ _=>match P.underlying ty with
   | some (.struct fs)=>if P.stoodInHeld ty||P.eqGuardType P.depth ty then none else (qT0 P 0 fs.toList).map (.eqS false)
   | _=>none
 | .binOp .neq ty _ _ _=>match P.underlying ty with
   | some (.struct fs)=>if P.stoodInHeld ty||P.eqGuardType P.depth ty then none else (qT0 P 0 fs.toList).map (.eqS true)
   | _=>none
 | .call { callee:=.builtin b,args,argTypes }=>jQ1 P b args.toList argTypes.toList
 | .convert src dst _=>if src=dst then (match P.underlying src with
   | some (.slice el)=>if isU8 P el then some .cvB else none
   | _=>none) else none
 | _=>none
def partOf:T→Option (Nat×Nat×Nat×Nat)
 | .vw id m lo len=>some (id,m,lo,len)
 | .asl id m=>some (id,m,0,m)
 | _=>none
def clrR (k:Nat) (z:T) (st:Sto) (x:T):Option Res:=
 match partOf x with
 | some (id,m,lo,len)=>match get st id with
   | some (.arr k' xs false)=>if k'=k then some ⟨xs.length=m∧0<len∧z.cells.length=k∧jA [] z.cells,.v (.tuple #[]),[(id,.arr k (xs.take lo++List.replicate len z++xs.drop (lo+len)) false)]⟩ else none
   | _=>none
 | none=>none
def cpyR (k:Nat) (st:Sto) (x y:T):Option Res:=
 match partOf x,conT st y with
 | some (id,m,lo,len),some (k2,ys)=>match get st id with
   | some (.arr k' xs false)=>if k'=k∧(k2=none∨k2=some k) then
      some ⟨xs.length=m∧lo<m∧conS st y,.v (.int .i64 (min ys.length len:Nat)),[(id,.arr k (xs.take lo++ys.take (min ys.length len)++xs.drop (lo+min ys.length len)) false)]⟩ else none
   | _=>none
 | _,_=>none
def cvBR (st:Sto) (x:T):Option Res:=
 match x with
 | .asl id m=>match get st id with
   | some (.arr 1 xs _)=>some ⟨xs.length=m∧0<m∧qS5 xs,.sl 1 xs,[(id,.dead)]⟩
   | _=>none
 | _=>none
def eqV:EK→T→T→Option Bool
 | .b,.v (.bool a),.v (.bool b)=>some (a==b)
 | .i k,.v (.int k1 a),.v (.int k2 b)=>if k1=k∧k2=k then some (a==b) else none
 | .s,.v (.string a),.v (.string b)=>some (a.toList==b.toList)
 | _,_,_=>none
def eqVs:List EK→List T→List T→Option Bool
 | [],[],[]=>some true
 | k::ks,a::as,b::bs=>match eqV k a b,eqVs ks as bs with
   | some p,some q=>some (p&&q)
   | _,_=>none
 | _,_,_=>none
def eqSR (neg:Bool) (ks:List EK) (x y:T):Option Res:=
 match x,y with
 | .agg as,.agg bs=>match eqVs ks as bs with
   | some p=>retB (if neg then !p else p)
   | none=>none
 | _,_=>none
def zu7 (neg:Bool) (st:Sto) (a:T):Option Res:=
 match a with
 | .v (.slice none 0 0)=>ret (.v (.bool (!neg)))
 | a=>match conT st a with
   | some (_,xs)=>some ⟨conS st a,if neg then .ub true (decide (xs.length=0)) else .ub (decide (xs.length=0)) true,[]⟩
   | none=>none
def zu8 (neg:Bool) (st:Sto) (a:T):Option Res:=
 match a with
 | .v (.pointer none)=>ret (.v (.bool (!neg)))
 | .ptr id n _ _=>match get st id with
   | some (.arr _ xs _)=>some ⟨xs.length=n,.v (.bool neg),[]⟩
   | _=>none
 | _=>none
def slZR (k:Nat) (st:Sto) (nid:Nat) (x:T):Option Res:=
 match conT st x with
 | some _=>some ⟨get st nid=none∧conS st x,.asl nid 0,[(nid,.arr k [] false)]⟩
 | none=>none
def extR (x:XO) (st:Sto) (nid:Nat) (ts:List T):Option Res:=
 match x,ts with
 | .slZ k,[a,_,_]=>slZR k st nid a
 | .nilq neg,[a,_]=>zu7 neg st a
 | .pnil neg,[a,_]=>zu8 neg st a
 | .clr k z,[a]=>clrR k z st a
 | .cpy k,[a,b]=>cpyR k st a b
 | .eqS neg ks,[a,b]=>eqSR neg ks a b
 | .cvB,[a]=>cvBR st a
 | .sl3,[a,h,m]=>sl3R st a none h m
 | .sl3,[a,l,h,m]=>sl3R st a (some l) h m
 | .capq,[a]=>capR st a
 | .appM k b z,[a,l]=>zP8 k b z st nid a l
 | .mkm m,[]=>mkmR m st nid
 | .mget m ok,[a,k]=>zP6 m ok st a k
 | .mput m,[a,k,v]=>zP7 m st a k v
 | _,_=>none
section
variable {P:Program} {e:Env} {o:Oper} {s:St}
theorem zV7 {x:Operand} (h:isZ x=true):∃ k,x = .const (.int k 0):=by
 unfold isZ at h;split at h
 ·rename_i k n;exact⟨k,by simp at h;rw[h]⟩
 ·cases h
theorem js2 {ty:TypeId} {x h m:Operand} {k:Nat} (ho:o.op = .slice ty x none (some h) (some m)) (hh:isZ h=true) (hm:isZ m=true) (hix:ixT P ty=some (none,k)) (nid:Nat) {r:Res}
 (hr:slZR k s.st nid (Operand.t s x)=some r) (hs:r.side):Does P e o s r.val r.wr:=by
 unfold slZR at hr;split at hr
 ·rename_i p hc;injection hr with hr;subst hr;obtain⟨hn,hcs⟩:=hs;obtain⟨el,inf,g1,g2,g3⟩:=ja hix;obtain⟨k1,rfl⟩:=zV7 hh;obtain⟨k2,rfl⟩:=zV7 hm;obtain⟨kk,xs⟩:=p;refine Does.of_run fun ι act w hR=>?_;obtain⟨p,cap,us,hv,_⟩:=hR.con (hR.rp x) hc hcs;have hb:(Instr.sliceBounds true xs.length cap none (some (.int k1 0)) (some (.int k2 0))).run P w = .ok (0,0,0) w:=by
   simp [Instr.sliceBounds,Instr.sliceBound,asIntOf]
  have hk1:act.eval (Operand.const (Value.int k1 0)) = .int k1 0:=rfl;have hk2:act.eval (Operand.const (Value.int k2 0)) = .int k2 0:=rfl;refine⟨.slice p 0 0,w,_,?_,hR.empty hn k,?_⟩
  ·simp [execOp,ho,hv,Instr.sliceAt,run_underlying g1,Instr.slice,hk1,hk2,hb,sizeOf,typeInfo,g2,g3]
  ·refine .asl nid 0 _ (by simp [stw,get]) fun k2 xs2 fz2 hg2=>?_;simp only[stw,BW,Cy] at hg2;rw[qz] at hg2;injection hg2 with hg2;injection hg2 with e1 e2 e3
   subst e1 e2 e3;exact⟨sMp,fun _=>by rw[qQ];exact⟨p,rfl⟩⟩
 ·cases hr
theorem qa1 {t el:TypeId} (h:P.underlying t=some (.slice el)) (p:Option Addr) (n c:Nat) (w:World) :
 (Op.equal t (.slice p n c) (.slice none 0 0)).run P w = .ok p.isNone w:=by
 unfold Op.equal;rw[show Op.maxDepth=9999+1 from rfl];unfold Op.equalIn;cases p <;> simp [run_underlying h]
theorem ze8 {ty yt el:TypeId} {x:Operand} {op:BinOp} {neg:Bool} (ho:o.op = .binOp op ty x (.const (.slice none 0 0)) yt) (hu:P.underlying ty=some (.slice el)) (hop:op=(if neg then .neq else .eql)) {r:Res}
 (hr:zu7 neg s.st (Operand.t s x)=some r) (hs:r.side):Does P e o s r.val r.wr:=by
 unfold zu7 at hr;split at hr
 ·rename_i hx;simp only[ret,Option.some.injEq] at hr;subst hr;refine Does.of_value fun ι act w hR=>⟨_,?_,.im (.v _)⟩;have hv:=(hx ▸ hR.rp x).v_inv;have hk:act.eval (Operand.const (Value.slice none 0 0)) = .slice none 0 0:=rfl;have h0:=qa1 hu none 0 0 w;cases neg <;> simp at hop <;> subst hop <;> simp [execOp,ho,hv,hk,eqGuard,binOp,h0]
 ·split at hr
  ·rename_i kk xs hc;injection hr with hr;subst hr;refine Does.of_value fun ι act w hR=>?_;obtain⟨p,cap,us,hv,c1,c2,c3,c4,c5,_⟩:=hR.con (hR.rp x) hc hs;have hk:act.eval (Operand.const (Value.slice none 0 0)) = .slice none 0 0:=rfl;have h0:=qa1 hu p xs.length cap w;have hp:p.isNone=true→xs.length=0:=fun h=>by
    rcases DQ xs.length with h1 | h1
    ·exact h1
    ·exact absurd (by simpa using h) (c5 h1)
   cases neg
   ·simp at hop;subst hop;refine⟨.bool p.isNone,by simp [execOp,ho,hv,hk,eqGuard,binOp,h0],.im (.ub _ _ _ (fun h=>by simp [hp h]) (fun _=>rfl))⟩
   ·simp at hop;subst hop;refine⟨.bool (!p.isNone),by simp [execOp,ho,hv,hk,eqGuard,binOp,h0],.im (.ub _ _ _ (fun _=>rfl) (fun h=>by simp [hp (by simpa using h)]))⟩
  ·cases hr
theorem WI {t el:TypeId} (h:P.underlying t=some (.pointer el)) (p:Option Addr) (w:World) :
 (Op.equal t (.pointer p) (.pointer none)).run P w = .ok p.isNone w:=by
 unfold Op.equal;rw[show Op.maxDepth=9999+1 from rfl];unfold Op.equalIn;cases p <;> simp [run_underlying h]
theorem ze9 {ty yt el:TypeId} {x:Operand} {op:BinOp} {neg:Bool} (ho:o.op = .binOp op ty x (.const (.pointer none)) yt) (hu:P.underlying ty=some (.pointer el)) (hop:op=(if neg then .neq else .eql)) {r:Res}
 (hr:zu8 neg s.st (Operand.t s x)=some r) (hs:r.side):Does P e o s r.val r.wr:=by
 unfold zu8 at hr;split at hr
 ·rename_i hx;simp only[ret,Option.some.injEq] at hr;subst hr;refine Does.of_value fun ι act w hR=>⟨_,?_,.im (.v _)⟩;have hv:=(hx ▸ hR.rp x).v_inv;have hk:act.eval (Operand.const (Value.pointer none)) = .pointer none:=rfl;have h0:=WI hu none w;cases neg <;> simp at hop <;> subst hop <;> simp [execOp,ho,hv,hk,eqGuard,binOp,h0]
 ·rename_i id n i j hx;split at hr
  ·rename_i k xs fz hg;injection hr with hr;subst hr;refine Does.of_value fun ι act w hR=>⟨_,?_,.im (.v _)⟩;obtain⟨b,cap,_,hv⟩:=(hx ▸ hR.rp x).ptr_inv hg hs;have hk:act.eval (Operand.const (Value.pointer none)) = .pointer none:=rfl;have h0:=WI hu (some ⟨b,i*k+j,none⟩) w;cases neg <;> simp at hop <;> subst hop <;> simp [execOp,ho,hv,hk,eqGuard,binOp,h0]
  ·cases hr
 ·cases hr
theorem Rel.partOf {ι:Iota} {act:Act} {w:World} (hR:Rel e s ι act w) {x:Operand} {id m lo len:Nat} (hp:Go.TL.partOf (Operand.t s x)=some (id,m,lo,len)) {k:Nat} {xs:List T} {fz:Bool} (hg:get s.st id=some (.arr k xs fz)) (hm:xs.length=m) :
 lo+len≤m∧vwv (ι id) k lo len (act.eval x):=by
 have hr:=hR.rp x;generalize Operand.t s x=t at *
 cases t <;> simp [Go.TL.partOf] at hp
 case vw i n a b=>
  obtain⟨rfl,rfl,rfl,rfl⟩:=hp;exact hr.vw_inv hg hm
 case asl i n=>
  obtain⟨rfl,rfl,rfl,rfl⟩:=hp;have hv:=hr.asl_inv hg hm;refine⟨oM,?_⟩;generalize ι i=o at *
  rcases o with _ | ⟨b,cap⟩
  ·exact hv
  ·exact⟨_,hv,fun _=>by simp⟩
theorem js3 {x:Operand} {ty el:TypeId} {z:T} {k:Nat} (ho:o.op = .call { callee:=.builtin .clear,args:=#[x],argTypes:=#[ty] }) (hu:P.underlying ty=some (.slice el)) (hz:zrT P el=some z) (hk:szT P el=some k) {r:Res}
 (hr:clrR k z s.st (Operand.t s x)=some r) (hs:r.side):Does P e o s r.val r.wr:=by
 unfold clrR at hr;split at hr
 ·rename_i id m lo len hp;split at hr
  ·rename_i k' xs hg;split at hr
   ·rename_i hkk;subst hkk;injection hr with hr;subst hr;obtain⟨hm,hlen,hzk,hzl⟩:=hs;refine Does.of_run fun ι act w hR=>?_;obtain⟨hle,hv⟩:=hR.partOf hp hg hm;obtain⟨inf,hi,hisz⟩:∃ inf,P.info? el=some inf∧inf.size=k':=by
     unfold szT at hk;cases hi:P.info? el with
     | none=>simp [hi] at hk
     | some inf=>simp [hi] at hk;exact⟨inf,rfl,hk⟩
    obtain⟨zv,hzv,hzo⟩:∃ zv,inf.zero=some zv∧z=ofV zv:=by
     unfold zrT at hz;cases hq:inf.zero with
     | none=>simp [hi,hq] at hz
     | some zv=>simp [hi,hq] at hz;exact⟨zv,rfl,hz.symm⟩
    subst hisz hzo;obtain⟨hc1,hc2⟩:=qa0 zv;have hzs:zv.cells.size=inf.size:=by rw[← hc1,hzk]
    obtain⟨hkx,hob⟩:=hR.ob id _ hg;rcases hob with⟨q1,q2⟩ | ⟨b,cap,cur,E,q4,q5,q6,q7,q8,q9⟩
    ·subst q2;simp only[Cw] at hm;omega
    rw[q4] at hv;obtain⟨p,hv,hpp⟩:=hv;have hpp:=hpp oM;subst hpp
    let us:=(Builtin.zeroCells zv.cells len).toList
    have hul:us.length=len*inf.size:=by simp only[us];rw[Array.length_toList,size_zeroCells,hzs]
    have hat:∀ (j:Nat) (u:Value),us[j]?=some u→j<len*inf.size∧0<inf.size∧zv.cells[j % inf.size]?=some u:=by
     intro j u hu;have hj:j<len*inf.size:=by rw[← hul];exact (List.getElem?_eq_some_iff.1 hu).1
     have hk0:0<inf.size:=by
      apply Nat.pos_of_ne_zero
      intro h0;rw[h0] at hj;simp at hj
     have hmod:j % inf.size<zv.cells.size:=by rw[hzs];exact Nat.mod_lt _ hk0
     refine⟨hj,hk0,?_⟩;simp only[us,Builtin.zeroCells,Array.getElem?_toList] at hu;rw[Array.getElem?_map] at hu;simp [hj,hzs] at hu;rw[← hu,getElem!_pos zv.cells _ hmod];simp [hmod]
    have hky:∀ y∈List.replicate len (ofV zv),y.cells.length=inf.size:=fun y hy=>by rw[(List.mem_replicate.1 hy).2];exact hzk
    have hlive:∀ (j:Nat) (u:Value),us[j]?=some u→u.oneCell'=true:=fun j u hu=>by
     obtain⟨hj,hk0,h3⟩:=hat j u hu;have hmod:j % inf.size<(ofV zv).cells.length:=by rw[hzk];exact Nat.mod_lt _ hk0
     have h4:(ofV zv).cells[j % inf.size]?=some (ofV zv).cells[j % inf.size]:=by simp [hmod]
     have h5:=hc2 _ u _ h3 h4;have:=Kh hzl _ (BX h4);rw[h5] at this;exact this
    have h1:∀ u∈us,u.oneCell'=true:=fun u hu=>by
     obtain⟨j,hj,rfl⟩:=CX hu;exact hlive j _ (by simp [hj])
    have hrp:∀ (j:Nat) (u:Value) (c:T),us[j]?=some u→(flat (List.replicate len (ofV zv)))[j]?=some c→Rp s.st ι w (Av e s.st ι w) u c:=fun j u c hu hc=>by
     obtain⟨hj,hk0,h3⟩:=hat j u hu;rw[kH _ _ _ hzk j hj] at hc;rw[hc2 _ u c h3 hc];exact .im (.v _)
    have hle1:xs.length*inf.size≤cap*inf.size:=CZ _ q7;have hle2:(lo+len)*inf.size≤xs.length*inf.size:=CZ _ oM;rw[EY] at hle2;have hR':=hR.splice hg (at_:=lo) (ys:=List.replicate len (ofV zv)) hky (by simp;omega) (us:=us) (by rw[hul];simp) h1 hrp q4 q5 q6 q7 q8 q9;have hst:=run_storeCells_at P b (lo*inf.size) E us 0 cur w q5 (by rw[hul];simp only[Nat.add_zero];omega) h1;simp only[Nat.add_zero] at hst;rw[List.length_replicate] at hR';refine⟨.tuple #[],_,ι,?_,hR',.im (.v _)⟩;obtain⟨n,rfl⟩:∃ n,len=n+1:=⟨len-1,oM⟩;simp [execOp,ho,resolve,invoke,builtin,Builtin.clear_,hv,run_underlying hu,zeroValue,typeInfo,hi,hzv];simp only[us] at hst;rw[hst];simp [us,Dj]
   ·cases hr
  ·cases hr
 ·cases hr
theorem js4 {x y:Operand} {ty t1 el1:TypeId} {k:Nat} (ho:o.op = .call { callee:=.builtin .copy,args:=#[x,y],argTypes:=#[ty,t1] }) (hu1:P.underlying t1=some (.slice el1)) (hix:ixT P ty=some (none,k)) {r:Res}
 (hr:cpyR k s.st (Operand.t s x) (Operand.t s y)=some r) (hs:r.side):Does P e o s r.val r.wr:=by
 unfold cpyR at hr;split at hr
 ·rename_i id m lo len k2 ys hp hc;split at hr
  ·rename_i k' xs hg;split at hr
   ·rename_i hkk;obtain⟨hkk,hk2⟩:=hkk;subst hkk;injection hr with hr;subst hr;obtain⟨hm,hlm,hcs⟩:=hs;refine Does.of_run fun ι act w hR=>?_;obtain⟨hle,hv⟩:=hR.partOf hp hg hm;obtain⟨el,inf,g1,g2,g3⟩:=ja hix;subst g3;obtain⟨q,c2,us,hy,c3,c4,c5,c6,c7,c8,c9⟩:=hR.con (hR.rp y) hc hcs;have hky:∀ z∈ys,z.cells.length=inf.size:=by
     rcases hk2 with hk2 | hk2
     ·rw[c5 hk2];simp
     ·exact c4 _ hk2
    obtain⟨hkx,hob⟩:=hR.ob id _ hg;rcases hob with⟨q1,q2⟩ | ⟨b,cap,cur,E,q4,q5,q6,q7,q8,q9⟩
    ·subst q2;simp only[Cw] at hm;omega
    rw[q4] at hv;obtain⟨p,hv,hpp⟩:=hv;have hpp:=hpp oM;subst hpp;have hn:min ys.length len≤ys.length:=Nat.min_le_left _ _;have hn2:min ys.length len≤len:=Nat.min_le_right _ _;generalize hN:min ys.length len=n at *
    have hfl:=qH hky;have hle0:n*inf.size≤ys.length*inf.size:=CZ _ hn;have hul:(us.take (n*inf.size)).length=n*inf.size:=by rw[Cz];omega
    have hky2:∀ z∈ys.take n,z.cells.length=inf.size:=fun z hz=>hky z (EX hz);have htl:(ys.take n).length=n:=by rw[Cz];omega
    have hat:∀ (j:Nat) (u:Value),(us.take (n*inf.size))[j]?=some u→us[j]?=some u:=fun j u hu=>by
     rw[BQ] at hu;split at hu
     ·exact hu
     ·cases hu
    have h1:∀ u∈us.take (n*inf.size),u.oneCell'=true:=fun u hu=>by
     obtain⟨j,hj,rfl⟩:=CX hu;obtain⟨_,_,_,h⟩:=c8 j ((us.take (n*inf.size))[j]) (hat j _ (CK hj));exact h
    have hrp:∀ (j:Nat) (u:Value) (c:T),(us.take (n*inf.size))[j]?=some u→(flat (ys.take n))[j]?=some c→Rp s.st ι w (Av e s.st ι w) u c:=fun j u c hu hc=>by
     rw[ZE hky,BQ] at hc;split at hc
     ·exact c9 j u c (hat j u hu) hc
     ·cases hc
    have hle1:xs.length*inf.size≤cap*inf.size:=CZ _ q7;have hle2:(lo+n)*inf.size≤xs.length*inf.size:=CZ _ oM;rw[EY] at hle2;have hR':=hR.splice hg (at_:=lo) (ys:=ys.take n) hky2 (by rw[htl];omega) (us:=us.take (n*inf.size)) (by rw[hul,htl]) h1 hrp q4 q5 q6 q7 q8 q9;rw[htl] at hR';have hst:=run_storeCells_at P b (lo*inf.size) E (us.take (n*inf.size)) 0 cur w q5 (by rw[hul];simp only[Nat.add_zero];omega) h1;simp only[Nat.add_zero] at hst;have hfc:(Builtin.firstCells inf.size n (.slice q ys.length c2)).run P w = .ok (us.take (n*inf.size)).toArray w:=by
     cases q with
     | none=>
       have hy0:ys.length=0:=by
        rcases DQ ys.length with h0 | h0
        ·exact h0
        ·exact absurd rfl (c7 h0)
       have hn0:n=0:=by omega
       subst hn0;simp [Builtin.firstCells,loadCells,loadCellsFrom]
     | some ad=>
       refine run_firstCells_some (P:=P) w inf.size n ad ys.length c2 _ hul fun j u hu=>?_;obtain⟨ad',e1,e2,_⟩:=c8 j u (hat j u hu);injection e1 with e1;subst e1;exact e2
    have hlo:(Builtin.lenOf (.slice q ys.length c2)).run P w = .ok ys.length w:=by simp [Builtin.lenOf]
    refine⟨.int .i64 n,_,ι,?_,hR',.im (.v _)⟩;simp [execOp,ho,resolve,invoke,builtin,Builtin.copy_,hv,hy,run_underlying g1,hlo,sizeOf,typeInfo,g2,hN,hfc,hst,goInt]
   ·cases hr
  ·cases hr
 ·cases hr
theorem jJ2 {w:World} {t:TypeId} {k:EK} {x y:Value} {a b:T} {p:Bool} (hk:ekT P t=some k) (ha:a = .v x) (hb:b = .v y) (hp:eqV k a b=some p) (d:Nat):(Op.equalIn (d+1) t x y).run P w = .ok p w:=by
 subst ha hb;unfold ekT at hk;split at hk
 ·rename_i hu;injection hk with hk;subst hk;cases x <;> cases y <;> simp [eqV] at hp
  subst hp;exact run_equalIn_bool' w d t _ _ hu
 ·rename_i kk hu;injection hk with hk;subst hk;cases x <;> cases y <;> simp [eqV] at hp
  obtain⟨⟨rfl,rfl⟩,rfl⟩:=hp;exact run_equalIn_int w d t _ _ _ _ hu
 ·rename_i hu;injection hk with hk;subst hk;cases x <;> cases y <;> simp [eqV] at hp
  subst hp;exact run_equalIn_string w d t _ _ hu
 ·cases hk
theorem jY0 {k:EK} {a b:T} {p:Bool} (h:eqV k a b=some p):∃ x y,a = .v x∧b = .v y:=by
 unfold eqV at h;split at h
 ·exact⟨_,_,rfl,rfl⟩
 ·exact⟨_,_,rfl,rfl⟩
 ·exact⟨_,_,rfl,rfl⟩
 ·cases h
theorem js5 {w:World} {t:TypeId} {k:EK} (hk:ekT P t=some k):(isAgg t).run P w = .ok false w:=by
 unfold ekT at hk;split at hk
 all_goals first
  | (rename_i hu;simp [isAgg,run_underlying hu];done)
  | cases hk
theorem zB9 {w:World} {d:Nat} {xs ys:Array Value}:∀ {fs:List Field} {ks:List EK} {off:Nat} {as bs:List T} {p:Bool},qT0 P off fs=some ks→eqVs ks as bs=some p→
 (∀ (j:Nat) (a:T),as[j]?=some a→∃ u,xs[off+j]?=some u∧∀ x,a = .v x→u=x)→(∀ (j:Nat) (b:T),bs[j]?=some b→∃ u,ys[off+j]?=some u∧∀ y,b = .v y→u=y)→
 (Op.eqFields (d+1) xs ys fs).run P w = .ok p w
 | [],ks,off,as,bs,p,h,hp,_,_=>by
   simp only[qT0,Option.some.injEq] at h;subst h;cases as <;> cases bs <;> simp [eqVs] at hp
   subst hp;simp [Op.eqFields]
 | f::fs,ks,off,as,bs,p,h,hp,hx,hy=>by
   simp only[qT0] at h;split at h
   ·cases h
   ·rename_i hno;simp only[not_or,Decidable.not_not] at hno;obtain⟨hn,ho⟩:=hno;split at h
    ·rename_i k r hk hr;injection h with h;subst h;cases as with
     | nil=>cases bs <;> simp [eqVs] at hp
     | cons a as=>cases bs with
       | nil=>simp [eqVs] at hp
       | cons b bs=>
         simp only[eqVs] at hp;split at hp
         ·rename_i p1 p2 h1 h2;injection hp with hp;subst hp;obtain⟨x,y,rfl,rfl⟩:=jY0 h1;obtain⟨u,hu1,hu2⟩:=hx 0 (.v x) sMp;obtain⟨v,hv1,hv2⟩:=hy 0 (.v y) sMp;have hu2:=hu2 x rfl;have hv2:=hv2 y rfl;subst hu2 hv2;simp only[Nat.add_zero] at hu1 hv1;have ih:=zB9 (w:=w) (d:=d) (xs:=xs) (ys:=ys) hr h2 (fun j a ha=>by
           obtain⟨u,h3,h4⟩:=hx (j+1) a (by simpa using ha);exact⟨u,by rw[show off+1+j=off+(j+1) by omega];exact h3,h4⟩) (fun j a ha=>by
           obtain⟨u,h3,h4⟩:=hy (j+1) a (by simpa using ha);exact⟨u,by rw[show off+1+j=off+(j+1) by omega];exact h3,h4⟩)
          have hq:=jJ2 (w:=w) hk rfl rfl h1 d;have hag:=js5 (w:=w) hk;simp only[Op.eqFields,ne_eq,hn,not_false_eq_true,if_true,part,ho];simp only[Sem.run_bind,hag,Result.andThen_ok,EZ,if_false,hu1,hv1,Sem.run_pure,hq,Sem.run_ite,ih];cases p1 <;> simp
         ·cases hp
    ·cases h
theorem zC0 {op:BinOp} {ty yt:TypeId} {x y:Operand} {neg:Bool} {fs:Array Field} {ks:List EK} (ho:o.op = .binOp op ty x y yt) (hop:op=(if neg then .neq else .eql)) (hu:P.underlying ty=some (.struct fs))
 (hg:(P.stoodInHeld ty||P.eqGuardType P.depth ty)=false) (hk:qT0 P 0 fs.toList=some ks) {r:Res} (hr:eqSR neg ks (Operand.t s x) (Operand.t s y)=some r) (hs:r.side):Does P e o s r.val r.wr:=by
 unfold eqSR at hr;split at hr
 ·rename_i as bs hx hy;split at hr
  ·rename_i p hp;simp only[retB,ret,Option.some.injEq] at hr;subst hr;simp only[FX] at hg;refine Does.of_value fun ι act w hR=>⟨_,?_,.im (.v _)⟩;obtain⟨us,hv,h1,h2⟩:=(hx ▸ hR.rp x).agg_inv;obtain⟨vs,hv',h1',h2'⟩:=(hy ▸ hR.rp y).agg_inv;have hof:P.fieldsOf ty=fs:=by simp [Program.fieldsOf,hu]
   have hrun:=zB9 (w:=w) (d:=9998) (xs:=us.toArray) (ys:=vs.toArray) hk hp (fun j a ha=>by
    have hj:j<us.length:=by rw[h1];exact (List.getElem?_eq_some_iff.1 ha).1
    refine⟨us[j],by simp [hj],?_⟩;rintro z rfl;exact (h2 j us[j] _ (by simp [hj]) ha).v_inv) (fun j a ha=>by
    have hj:j<vs.length:=by rw[h1'];exact (List.getElem?_eq_some_iff.1 ha).1
    refine⟨vs[j],by simp [hj],?_⟩;rintro z rfl;exact (h2' j vs[j] _ (by simp [hj]) ha).v_inv)
   have he:=run_equalIn_agg (P:=P) w 9999 ty us.toArray vs.toArray (by rw[hof];exact hu) hg.1;rw[hof,hrun] at he;have hgd:=fun op=>run_eqGuard_agg (P:=P) w op ty x y us.toArray vs.toArray hg.2;cases neg
   ·simp at hop;subst hop;have h3:=run_eql_struct (P:=P) w ty us.toArray vs.toArray;rw[he] at h3;simp [execOp,ho,hv,hv',hgd,h3]
   ·simp at hop;subst hop;have h3:=run_neq_struct (P:=P) w ty us.toArray vs.toArray;rw[he] at h3;simp [execOp,ho,hv,hv',hgd,h3]
  ·cases hr
 ·cases hr
theorem zu9 (w:World) (a:Addr) (n:Nat) (x:Addr):(w.freeze a n).cell? x=w.cell? x:=by
 unfold World.freeze;split
 ·rfl
 ·by_cases h:x.block=a.block
  ·unfold World.cell?
   simp only[Array.getElem?_modify,h,if_true];cases hh:w.heap[a.block]? with
   | none=>simp
   | some o=>cases o <;> rfl
  ·refine World.cell?_of_block ?_;simp only[Array.getElem?_modify];rw[Aq (fun e=>h e.symm)]
theorem WS (w:World) (a:Addr) (n b:Nat) (h:b≠a.block):(w.freeze a n).heap[b]?=w.heap[b]?:=by
 unfold World.freeze;split
 ·rfl
 ·simp only[Array.getElem?_modify];rw[Aq (fun e=>h e.symm)]
theorem WT (w:World) (a:Addr) (n:Nat):(w.freeze a n).heap.size=w.heap.size:=by
 unfold World.freeze;split <;> simp
theorem zv0 (w:World) (a:Addr) (n:Nat):(w.freeze a n).os=w.os∧(w.freeze a n).tape=w.tape∧(w.freeze a n).output=w.output:=by
 unfold World.freeze;split <;> exact⟨rfl,rfl,rfl⟩
theorem js6 {ty el:TypeId} {x:Operand} (ho:o.op = .convert ty ty x) (hu:P.underlying ty=some (.slice el)) (h8:isU8 P el=true) {r:Res} (hr:cvBR s.st (Operand.t s x)=some r) (hs:r.side):Does P e o s r.val r.wr:=by
 have hu8:P.underlying el=some (.int .u8):=by
  unfold isU8 at h8;split at h8
  ·rename_i hu;exact hu
  ·cases h8
 unfold cvBR at hr;split at hr
 ·rename_i id m hx;split at hr
  ·rename_i xs fz hg;injection hr with hr;subst hr;obtain⟨hm,hpos,him⟩:=hs;refine Does.of_run fun ι act w hR=>?_;have hv:=(hx ▸ hR.rp x).asl_inv hg hm;obtain⟨hk,hob⟩:=hR.ob id _ hg;rcases hob with⟨g4,rfl⟩ | ⟨b,cap,cur,E,g4,g5,g6,g7,g8,g9⟩
   ·simp only[Cw] at hm;omega
   rw[g4] at hv;have hv:act.eval x = .slice (some ⟨b,0,none⟩) m cap:=hv;have hfl:=qH hk;have hle:xs.length*1≤cap*1:=CZ 1 g7;have hrun:(convert ty ty (.slice (some ⟨b,0,none⟩) m cap)).run P w = .ok (.slice (some ⟨b,0,none⟩) m cap) (w.freeze ⟨b,cur.size,none⟩ 1):=by
    have hsh:w.shape? b=some (E,cur.size):=by simp [World.shape?,g5]
    simp [convert,run_underlying hu,run_underlying hu8,markStringish,hsh]
   obtain⟨r1,r2,r3⟩:=zv0 w ⟨b,cur.size,none⟩ 1;have hcell:∀ x u,w.cell? x=some u→(w.freeze ⟨b,cur.size,none⟩ 1).cell? x=some u:=fun x u hu=>by rw[zu9];exact hu
   have hcase:∀ i k' xs' fz',get ((id,Ob.dead)::s.st) i=some (.arr k' xs' fz')→i≠id∧get s.st i=some (.arr k' xs' fz'):=by
    intro i k' xs' fz' h;by_cases hi:i=id
    ·subst hi;rw[qz] at h;injection h with h;cases h
    ·rw[qw _ _ (Ne.symm hi)] at h;exact⟨hi,h⟩
   have hcaseM:∀ i es,get ((id,Ob.dead)::s.st) i=some (.mp es)→i≠id∧get s.st i=some (.mp es):=by
    intro i es h;by_cases hi:i=id
    ·subst hi;rw[qz] at h;injection h with h;cases h
    ·rw[qw _ _ (Ne.symm hi)] at h;exact⟨hi,h⟩
   have hAv:∀ x,Av e s.st ι w x→Av e ((id,.dead)::s.st) ι (w.freeze ⟨b,cur.size,none⟩ 1) x:=by
    rintro x (hx | ⟨h1,h2,h3⟩)
    ·exact .inl hx
    ·refine .inr ⟨h1,by rw[WT];exact h2,fun i k1 x1 f1 cap' hg1 hi=>?_⟩;obtain⟨_,q⟩:=hcase i k1 x1 f1 hg1;exact h3 i k1 x1 f1 cap' q hi
   have hgo:=hR.go (st':=(id,.dead)::s.st) (ι':=ι) (w':=w.freeze ⟨b,cur.size,none⟩ 1) ⟨fun i hi=>by
    by_cases h1:i=id
    ·subst h1;rw[qz];simp
    ·rw[qw _ _ (Ne.symm h1)];exact hi,fun i k' xs' fz' h hi=>by
    obtain⟨q1,q2⟩:=hcase i k' xs' fz' h;exact⟨k',xs',fz',q2,rfl,BZ _,fun _=>rfl⟩,fun i es h _=>⟨⟨es,(hcaseM i es h).2⟩,rfl⟩⟩ (fun x _ u hu=>hcell x u hu) hAv ?_ ?_ ?_ ?_ (by rw[WT];exact BZ _) r1 r2 r3
    (fun i es h=>⟨(hcaseM i es h).2,rfl,fun b' c' hi=>WS w _ 1 b' (hR.mne (hcaseM i es h).2 hi hg g4)⟩)
   ·refine⟨.slice (some ⟨b,0,none⟩) m cap,_,ι,?_,hgo.1,?_⟩
    ·simp [execOp,ho,hv,hrun]
    ·refine .im (.sl (some ⟨b,0,none⟩) m cap 1 xs (cur.toList.take xs.length) hm oM hk (by rw[hfl];simp;omega) sMp (fun j u hu=>?_) (fun j u c hu hc=>?_))
     ·rw[BQ] at hu;split at hu
      ·rename_i hj;obtain⟨c,hc⟩:∃ c,(flat xs)[j]?=some c:=⟨(flat xs)[j]'(by rw[hfl];omega),CK _⟩;refine⟨_,rfl,?_,?_,(g9 j u c (by simpa using hu) hc).1⟩
       ·rw[zt];refine .inr ⟨(hR.own id 1 xs fz b cap hg g4).symm,by rw[WT];exact qg1 g5,fun id' k2 xs2 fz2 cap2 hg2 hi2=>?_⟩;obtain⟨q1,q2⟩:=hcase id' k2 xs2 fz2 hg2;exact absurd (hR.inj id' id _ _ _ _ _ _ b cap2 cap q2 hg hi2 g4) q1
       ·rw[zt];exact hcell _ _ (by rw[wD g5];simpa using hu)
      ·cases hu
     ·rw[BQ] at hu;split at hu
      ·have h0:=(g9 j u c (by simpa using hu) hc).2;have hic:imT c=true:=by
            have:=BX hc;simp only[flat,Ek] at this;obtain⟨y,hy,hcy⟩:=this;exact him y hy c hcy
       have h1:=hgo.2 u c h0;exact h1.imv hic
      ·cases hu
   ·intro i o' ho';by_cases h1:i=id
    ·subst h1;rw[qz] at ho';injection ho' with ho';subst ho'
     exact .inr fun _=>trivial
    ·rw[qw _ _ (Ne.symm h1)] at ho';refine .inl ⟨ho',rfl,fun b' c' hi ⟨k1,x1,f1,e1⟩=>?_⟩;subst e1;refine WS w _ 1 b' fun hb=>h1 ?_;dsimp only at hb;subst hb;exact hR.inj i id _ _ _ _ _ _ b' c' cap ho' hg hi g4
   ·intro i i' k1 x1 f1 k2 x2 f2 b' c c' g1 g2 e1 e2;exact hR.inj i i' _ _ _ _ _ _ b' c c' (hcase _ _ _ _ g1).2 (hcase _ _ _ _ g2).2 e1 e2
   ·intro i k1 x1 f1 b' c g1 e1;exact hR.own i _ _ _ b' c (hcase _ _ _ _ g1).2 e1
   ·intro b' hb hn;refine WS w _ 1 b' fun hb'=>?_;dsimp only at hb';subst hb';rcases hR.own id 1 xs fz b' cap hg g4 with h | h
    ·exact hn h
    ·omega
  ·cases hr
 ·cases hr
theorem js7 {nid:Nat} {x:XO} (h:rsvX P o.op=some x) {r:Res} (hr:extR x s.st nid (o.op.operands.toList.map (Operand.t s))=some r) (hs:r.side):Does P e o s r.val r.wr:=by
 unfold rsvX at h;split at h
 ·rename_i ty x0 hi mx ho;split at h
  ·rename_i hz;simp only[Bq] at hz;split at h
   ·rename_i k hix;injection h with h;subst h;rw[ho] at hr;exact js2 ho hz.1 hz.2 hix nid (by simpa [extR,Op.operands] using hr) hs
   ·cases h
  ·split at h
   ·rename_i hix;injection h with h;subst h;rw[ho] at hr;exact zB8 ho hix (by simpa [extR,Op.operands] using hr) hs
   ·cases h
 ·rename_i ty x0 lo hi mx ho;split at h
  ·rename_i hix;injection h with h;subst h;rw[ho] at hr;exact zB8 ho hix (by simpa [extR,Op.operands] using hr) hs
  ·cases h
 ·rename_i t ho;cases hm:mtOf P t with
  | none=>simp [hm] at h
  | some m=>
    simp only[hm,Ej,Option.some.injEq] at h;subst h;rw[ho] at hr;exact js0 ho nid (by simpa [extR,Op.operands] using hr) hs
 ·rename_i t x0 k0 ok ho;cases hm:mtOf P t with
  | none=>simp [hm] at h
  | some m=>
    simp only[hm,Ej,Option.some.injEq] at h;subst h;rw[ho] at hr;exact zV4 ho hm (by simpa [extR,Op.operands] using hr) hs
 ·rename_i t x0 k0 v0 ho;cases hm:mtOf P t with
  | none=>simp [hm] at h
  | some m=>
    simp only[hm,Ej,Option.some.injEq] at h;subst h;rw[ho] at hr;exact zV5 ho hm (by simpa [extR,Op.operands] using hr) hs
 ·rename_i op ty x0 yt ho;split at h
  ·rename_i el hu;rw[ho] at hr;split at h
   ·injection h with h;subst h;exact ze8 (neg:=false) ho hu rfl (by simpa [extR,Op.operands] using hr) hs
   ·injection h with h;subst h;exact ze8 (neg:=true) ho hu rfl (by simpa [extR,Op.operands] using hr) hs
   ·cases h
  ·cases h
 ·rename_i op ty x0 yt ho;split at h
  ·rename_i el hu;rw[ho] at hr;split at h
   ·injection h with h;subst h;exact ze9 (neg:=false) ho hu rfl (by simpa [extR,Op.operands] using hr) hs
   ·injection h with h;subst h;exact ze9 (neg:=true) ho hu rfl (by simpa [extR,Op.operands] using hr) hs
   ·cases h
  ·cases h
 ·rename_i ty x0 y0 yt _ _ ho;split at h
  ·rename_i fs hu;split at h
   ·cases h
   ·rename_i hg;rw[ho] at hr;cases hk:qT0 P 0 fs.toList with
    | none=>simp [hk] at h
    | some ks=>
      simp only[hk,Ej,Option.some.injEq] at h;subst h;exact zC0 (neg:=false) ho rfl hu (by simpa using hg) hk (by simpa [extR,Op.operands] using hr) hs
  ·cases h
 ·rename_i ty x0 y0 yt _ _ ho;split at h
  ·rename_i fs hu;split at h
   ·cases h
   ·rename_i hg;rw[ho] at hr;cases hk:qT0 P 0 fs.toList with
    | none=>simp [hk] at h
    | some ks=>
      simp only[hk,Ej,Option.some.injEq] at h;subst h;exact zC0 (neg:=true) ho rfl hu (by simpa using hg) hk (by simpa [extR,Op.operands] using hr) hs
  ·cases h
 ·rename_i b args tys ho;unfold jQ1 at h;split at h
  ·rename_i x0 ty ha ht;obtain⟨args⟩:=args;obtain⟨tys⟩:=tys;simp only at ha ht;subst ha ht;split at h
   ·rename_i el hu;split at h
    ·rename_i z k hz hk;injection h with h;subst h;rw[ho] at hr;exact js3 ho hu hz hk (by simpa [extR,Op.operands,Call.operands] using hr) hs
    ·cases h
   ·cases h
  ·rename_i x0 y0 ty t1 ha ht;obtain⟨args⟩:=args;obtain⟨tys⟩:=tys;simp only at ha ht;subst ha ht;split at h
   ·rename_i el k hu hix;injection h with h;subst h;rw[ho] at hr;exact js4 ho hu hix (by simpa [extR,Op.operands,Call.operands] using hr) hs
   ·cases h
  ·rename_i x0 ty ha ht;obtain⟨args⟩:=args;obtain⟨tys⟩:=tys;simp only at ha ht;subst ha ht;split at h
   ·rename_i el hu;injection h with h;subst h;rw[ho] at hr;exact js1 ho hu (by simpa [extR,Op.operands,Call.operands] using hr) hs
   ·cases h
  ·rename_i x0 y0 ty t1 ha ht;obtain⟨args⟩:=args;obtain⟨tys⟩:=tys;simp only at ha ht;subst ha ht;split at h
   ·rename_i el kx hu hu1;split at h
    ·rename_i z k b hz hk hb hzo;injection h with h;subst h;rw[ho] at hr;exact zV6 ho hu hu1 hz hk hb hzo nid (by simpa [extR,Op.operands,Call.operands] using hr) hs
    ·cases h
   ·cases h
  ·cases h
 ·rename_i src dst x0 ho;split at h
  ·rename_i hsd;subst hsd;split at h
   ·rename_i el hu;split at h
    ·rename_i h8;injection h with h;subst h;rw[ho] at hr;exact js6 ho hu h8 (by simpa [extR,Op.operands] using hr) hs
    ·cases h
   ·cases h
  ·cases h
 ·cases h
theorem zV8 {neg:Bool} {a:T} {st st':Sto} (h:we (ids a) st st'):zu7 neg st a=zu7 neg st' a:=by
 unfold zu7;split
 ·rfl
 ·rw[Wd h,We h]
theorem zV9 {neg:Bool} {a:T} {st st':Sto} (h:we (ids a) st st'):zu8 neg st a=zu8 neg st' a:=by
 unfold zu8;split
 ·rfl
 ·rename_i id n i j;rw[h id (by simp [ids])]
 ·rfl
theorem js8 {k nid:Nat} {a:T} {st st':Sto} (h:we (ids a) st st') (hN:get st nid=get st' nid):slZR k st nid a=slZR k st' nid a:=by
 unfold slZR;rw[Wd h,We h,hN]
theorem qM5 {a:T} {id m lo len:Nat} (h:partOf a=some (id,m,lo,len)):id∈ids a:=by
 cases a <;> simp [partOf] at h
 ·obtain⟨rfl,_⟩:=h;simp [ids]
 ·obtain⟨rfl,_⟩:=h;simp [ids]
theorem js9 {k:Nat} {z a:T} {st st':Sto} (h:we (ids a) st st'):clrR k z st a=clrR k z st' a:=by
 unfold clrR;split
 ·rename_i hp;rw[h _ (qM5 hp)]
 ·rfl
theorem jt0 {k:Nat} {a b:T} {st st':Sto} (h:we (ids a) st st') (h2:we (ids b) st st'):cpyR k st a b=cpyR k st' a b:=by
 unfold cpyR;rw[Wd h2,We h2];split
 ·rename_i hp hc;rw[h _ (qM5 hp)]
 ·rfl
theorem zC1 {a h m:T} {lo:Option T} {st st':Sto} (hI:we (ids a) st st'):sl3R st a lo h m=sl3R st' a lo h m:=by
 unfold sl3R;rw[Wd hI,We hI]
theorem jt1 {a:T} {st st':Sto} (hI:we (ids a) st st'):capR st a=capR st' a:=by
 unfold capR;cases a <;> try rfl
 case vw id n lo len=>
  have h1:=hI id (by simp [ids]);have h2:=hI (id+capK) (by simp [ids,capK]);simp only[h2,jB h1]
theorem zW0 {k b nid:Nat} {z a l:T} {st st':Sto} (hI:we (ids a) st st') (hN:get st nid=get st' nid):zP8 k b z st nid a l=zP8 k b z st' nid a l:=by
 unfold zP8;cases a <;> try rfl
 case vw id n lo len=>
  have h1:=hI id (by simp [ids]);have h2:=hI (id+capK) (by simp [ids,capK]);cases l <;> try rfl
  case v y=>
   cases y <;> try rfl
   case int kk l=>simp only[h1,h2,hN]
theorem zW1 {m:MT} {ok:Bool} {a k:T} {st st':Sto} (hI:we (ids a) st st'):zP6 m ok st a k=zP6 m ok st' a k:=by
 unfold zP6;cases a <;> try rfl
 case mp id=>simp only[hI id (by simp [ids])]
theorem zW2 {m:MT} {a k v:T} {st st':Sto} (hI:we (ids a) st st'):zP7 m st a k v=zP7 m st' a k v:=by
 unfold zP7;cases a <;> try rfl
 case mp id=>simp only[hI id (by simp [ids])]
theorem jJ3 {x:XO} {nid:Nat} {ts:List T} {st st':Sto} (hI:∀ t∈ts,we (ids t) st st') (hN:get st nid=get st' nid):extR x st nid ts=extR x st' nid ts:=by
 unfold extR;split
 ·exact js8 (hI _ sMp) hN
 ·exact zV8 (hI _ sMp)
 ·exact zV9 (hI _ sMp)
 ·exact js9 (hI _ sMp)
 ·exact jt0 (hI _ sMp) (hI _ sMp)
 ·rfl
 ·rename_i a;have h:=hI a sMp;unfold cvBR;cases a <;> try rfl
  case asl id m=>simp only[h id (by simp [ids])]
 ·exact zC1 (hI _ sMp)
 ·exact zC1 (hI _ sMp)
 ·exact jt1 (hI _ sMp)
 ·exact zW0 (hI _ sMp) hN
 ·simp only[mkmR,hN]
 ·exact zW1 (hI _ sMp)
 ·exact zW2 (hI _ sMp)
 ·rfl
def opT (P:Program) (s:St) (nid:Nat) (o:Oper):Option Res:=
 match rsvX P o.op with
 | some x=>extR x s.st nid (o.op.operands.toList.map (Operand.t s))
 | none=>opT0 P s nid o
theorem qq3 (nid:Nat) {r:Res} (h:opT P s nid o=some r) (hs:r.side):Does P e o s r.val r.wr:=by
 unfold opT at h;split at h
 ·rename_i x hx;exact js7 hx h hs
 ·exact zV2 nid h hs
theorem jJ4 {s':St} {nid:Nat} (hT:∀ x∈o.op.operands.toList,Operand.t s x=Operand.t s' x) (hI:∀ x∈o.op.operands.toList,we (ids (Operand.t s x)) s.st s'.st) (hN:get s.st nid=get s'.st nid) :
 opT P s nid o=opT P s' nid o:=by
 unfold opT;split
 ·have e1:o.op.operands.toList.map (Operand.t s)=o.op.operands.toList.map (Operand.t s'):=Ew hT;rw[← e1];refine jJ3 (fun t ht=>?_) hN;obtain⟨x,hx,rfl⟩:=Cj.1 ht;exact hI x hx
 ·exact jr9 hT hI hN
end
end Go.TL
