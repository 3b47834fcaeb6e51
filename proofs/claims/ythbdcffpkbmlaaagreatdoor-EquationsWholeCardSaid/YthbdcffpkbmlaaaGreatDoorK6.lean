/- A part of the proof: ZzW ZzX. -/
import Derived.Laws.Externs
import GoSem.Extern.SlicesOverlaps
import Derived.Test.YthbdcffpkbmlaaaGreatDoorK5
namespace Go.TL
structure ROp where
 d:Option Nat
 g:Option (Nat×Bool)
 o:RO
inductive En where
 | p (x:T)
 | g (L:List (Nat×Bool)) (c:Prop) (x:T)
abbrev XF:=List (Nat×En)
def hold (fr:List (Nat×T)):List (Nat×Bool)→Prop
 | []=>True
 | (d,w)::r=>get fr d=some (.v (.bool w))∧hold fr r
def fit (fr:List (Nat×T)) (t:Nat):Option En→Prop
 | none=>get fr t=none
 | some (.p x)=>get fr t=some x
 | some (.g L c x)=>(c↔hold fr L)∧(c→get fr t=some x)∧(¬ c→get fr t=some (.v undef))
def fits (fr:List (Nat×T)) (F:XF):Prop:=∀ t,fit fr t (get F t)
def accX (F:XF) (L0:List (Nat×Bool)):RV→Option T
 | .k x=>some x
 | .t n=>match get F n with
   | none=>some .junk
   | some (.p x)=>some x
   | some (.g L _ x)=>if L.all (fun p=>L0.contains p) then some x else none
def jP (F:XF) (L0:List (Nat×Bool)):List RV→Bool
 | []=>true
 | x::r=>(accX F L0 x).isSome&&jP F L0 r
def rhoX (F:XF) (L0:List (Nat×Bool)) (x:RV):T:=(accX F L0 x).getD .junk
def mrg (q:Bool) (x y:T):T:=
 match x,y with
 | .v (.bool a),.v (.bool b)=>.v (.bool (bif q then a else b))
 | .v (.int k a),.v (.int k' b)=>if k=k' then .v (.int k (bif q then a else b)) else bif q then x else y
 | _,_=>bif q then x else y
theorem zX4 (q:Bool) (x y:T):mrg q x y=bif q then x else y:=by
 unfold mrg;split
 ·cases q <;> rfl
 ·split
  ·rename_i h;subst h;cases q <;> rfl
  ·rfl
 ·rfl
def qT4 (c:RV) (b:Bool) (L:List (Nat×Bool)):List (Nat×Bool):=match c with | .t d=>(d,b)::L | .k _=>L
def doX (F:XF) (L:List (Nat×Bool)) (st:Sto) (nid:Nat) (o:RO):Option Res:=
 match o with
 | .pick c a b=>match accX F L c,accX F (qT4 c true L) a,accX F (qT4 c false L) b with
   | some (.v (.bool q)),some x,some y=>ret (mrg q x y)
   | _,_,_=>none
 | o=>if jP F L o.rvs then rT o (rhoX F L) st nid else none
def put1 (i:Nat) (x:Ob):Sto→Sto
 | []=>[(i,x)]
 | (j,y)::r=>if j=i then (i,x)::r else (j,y)::put1 i x r
def stUp (st:Sto):List (Nat×Ob)→Sto
 | []=>st
 | (i,x)::r=>put1 i x (stUp st r)
theorem ju7 (i:Nat) (x:Ob) (st:Sto) (j:Nat):get (put1 i x st) j=if i=j then some x else get st j:=by
 induction st with
 | nil=>simp [put1,get]
 | cons p r ih=>
   obtain⟨k,y⟩:=p;simp only[put1];by_cases h:k=i
   ·subst h;simp only[if_true,get];split <;> rfl
   ·rw[Aq h];simp only[get];by_cases h2:k=j
    ·subst h2;rw[Aj rfl,Aj rfl,Aq (fun h3=>h h3.symm)]
    ·rw[Aq h2,Aq h2,ih]
theorem ju8 (st:Sto) (wr:List (Nat×Ob)) (i:Nat):get (stUp st wr) i=get (wr++st) i:=by
 induction wr with
 | nil=>rfl
 | cons p r ih=>
   obtain⟨j,y⟩:=p;simp only[stUp,ju7,BW,get,ih]
def putX (F:XF) (d:Option Nat) (x:En):XF:=match d with | some d=>(d,x)::F | none=>F
def labX (F:XF) (t:Nat) (w:Bool):Option (List (Nat×Bool)×Prop):=
 match get F t with
 | some (.p (.v (.bool b)))=>some ([(t,w)],b=w)
 | some (.g L c (.v (.bool b)))=>some ((t,w)::L,c∧b=w)
 | some (.g L c (.v x))=>some ((t,w)::L,c∧x = .bool w)
 | _=>none
def idsX (F:XF) (L:List (Nat×Bool)) (l:List RV):List Nat:=l.flatMap fun x=>ids (rhoX F L x)
def rdX (F:XF) (L:List (Nat×Bool)) (o:RO):List Nat:=
 match o with
 | .pick ..=>[]
 | .mv _=>[]
 | o=>idsX F L o.rvs
theorem zQ4 {P:Program} {w:World} {b:Nat} {cur:Array Value} {E:TypeId} (h:w.heap[b]?=some (.cells cur E (0,0))):(shape b).run P w = .ok (some (E,cur.size)) w:=by
 simp [shape,Sem.run,World.shape?,h]
theorem zv6 {P:Program} {w:World} {b off:Nat} {cur:Array Value} {E:TypeId} (h:w.heap[b]?=some (.cells cur E (0,0))):(noView ⟨b,off,none⟩).run P w = .ok () w:=by
 simp [noView,viewAt,zQ4 h]
theorem zf7 {P:Program} {w:World} {t el:TypeId} {inf:TypeInfo} {params res:Array TypeId} (hp:params[0]?=some t) (hu:P.underlying t=some (.slice el)) (hi:P.info? el=some inf)
 {a b:Option Addr} {la ca lb cb:Nat}
 (h:∀ x y,a=some x→b=some y→0<la→0<lb→∃ o2 b2 c1 E1 r1 c2 E2,y=⟨b2,o2,none⟩∧x.block≠b2∧w.heap[x.block]?=some (.cells c1 E1 r1)∧0<c1.size∧w.heap[b2]?=some (.cells c2 E2 (0,0))) :
 (Extern.SlicesOverlaps.overlaps params res #[.slice a la ca,.slice b lb cb]).run P w = .ok (.bool false) w:=by
 delta Extern.SlicesOverlaps.overlaps
 conv=>lhs;arg 2;whnf
 cases a with
 | none=>simp [hp,run_underlying hu,sizeOf,typeInfo,hi]
 | some x=>
   cases b with
   | none=>simp [hp,run_underlying hu,sizeOf,typeInfo,hi]
   | some y=>
     by_cases hz:la=0∨lb=0∨inf.size=0
     ·simp [hp,run_underlying hu,sizeOf,typeInfo,hi,hz]
     ·obtain⟨o2,b2,c1,E1,r1,c2,E2,rfl,hne,h1,hc1,h2⟩:=h x y rfl rfl oM oM;have f2:∀ o,w.frozen? ⟨b2,o,none⟩=false:=fun o=>by simp [World.frozen?,h2]
      obtain⟨n,hn⟩:∃ n,c1.size=n+1:=⟨c1.size-1,oM⟩;have s1:w.shape? x.block=some (E1,n+1):=by simp [World.shape?,h1,hn]
      have s2:w.shape? b2=some (E2,c2.size):=by simp [World.shape?,h2]
      have n1:(noView x).run P w = .ok () w:=by simp [noView,viewAt,s1]
      have n2:=zv6 (P:=P) (off:=o2) h2;cases hf1:w.frozen? x <;> cases hf3:w.frozen? { block:=x.block,off:=n+1 } <;>
      simp [hp,run_underlying hu,sizeOf,typeInfo,hi,hz,hne,f2,hf1,hf3,s1,s2,n1,n2,mayBeOne,stringish]
def jK3 (P:Program) (fn:Func):Bool:=match fn.params[0]? with
 | some t=>match P.underlying t with
   | some (.slice el)=>(P.info? el).isSome
   | _=>false
 | none=>false
def jQ5 (P:Program) (f:FuncId):Prop:=
 ∃ fn, P.funcs[f]? = some fn ∧ (fn.name == "runtime.NumGoroutine") = false ∧ fn.body.isNone = true ∧ Extern.findNext fn = none ∧ Extern.find fn = some (Extern.SlicesOverlaps.overlaps fn.params fn.resultTypes) ∧ jK3 P fn = true
theorem zX5 {P:Program} {fn:Func} (h:jK3 P fn=true):∃ t el inf,fn.params[0]?=some t∧P.underlying t=some (.slice el)∧P.info? el=some inf:=by
 unfold jK3 at h;split at h
 ·rename_i t h1;split at h
  ·rename_i el h2;obtain⟨inf,h3⟩:=Option.isSome_iff_exists.1 h;exact⟨t,el,inf,h1,h2,h3⟩
  ·cases h
 ·cases h
def OvlP (P:Program) (st:Sto) (f:T) (xs:List T) (val:T) (wr:List (Nat×Ob)) (rd:List Nat):Prop:=
 ∃ fid k0 zs y i' m' lo' len' k' ys',f = .clo fid []∧jQ5 P fid∧xs=[.sl k0 zs,y]∧0<k0∧partOf y=some (i',m',lo',len')∧
  get st i'=some (.arr k' ys' false)∧ys'.length=m'∧val = .v (.bool false)∧wr=[]∧rd=[i']
theorem zQ5 {e:Env} {s:St} {ι:Iota} {a:Act} {w:World} (hR:Rel e s ι a w) {x:Operand} {id m lo len k:Nat} {xs:List T} {fz:Bool} (hp:partOf (Operand.t s x)=some (id,m,lo,len)) (hg:get s.st id=some (.arr k xs fz)) (hm:xs.length=m) :
 ∃ p cap,a.eval x = .slice p len cap∧∀ ad,p=some ad→0<len→∃ b c o cur E,ι id=some (b,c)∧ad=⟨b,o,none⟩∧w.heap[b]?=some (.cells cur E (0,0)):=by
 obtain⟨hle,hv⟩:=hR.partOf hp hg hm;rcases (hR.ob id _ hg).2 with⟨h1,h2⟩ | ⟨b,cap,cur,E,h1,h2,h3,h4,_⟩
 ·subst h2;rw[h1] at hv;obtain⟨p,hv⟩:=hv;simp only[Cw] at hm;have:len=0:=by omega
  subst this;exact⟨p,0,hv,fun ad _ h=>absurd h (Nat.lt_irrefl 0)⟩
 ·rw[h1] at hv;obtain⟨p,hv,hpp⟩:=hv;refine⟨p,cap-lo,hv,fun ad had hlen=>?_⟩;have:=hpp oM;rw[had] at this;injection this with this;exact⟨b,cap,lo*k,cur,E,h1,this,h2⟩
theorem jK4 {P:Program} {e:Env} {o:Oper} {s:St} {c:Call} {fo x y:Operand} {f:FuncId} {k0 i' m' lo' len' k':Nat} {zs ys':List T} (ho:o.op = .call c) (hcv:c.callee = .value fo) (hca:c.args.toList=[x,y])
 (hf:Operand.t s fo = .clo f []) (hfn:jQ5 P f) (h1:Operand.t s x = .sl k0 zs) (hk0:0<k0) (h2:partOf (Operand.t s y)=some (i',m',lo',len'))
 (g2:get s.st i'=some (.arr k' ys' false)) (l2:ys'.length=m'):Evs P e o s [i'] ⟨.v (.bool false),[]⟩:=by
 intro s' hT hI;have hops:o.op.operands.toList=fo::[x,y]:=by
  rw[ho];simp [Op.operands,Call.operands,hcv,hca]
 rw[hops] at hT;have hT':=kC hT;have hfo:Operand.t s' fo = .clo f []:=by rw[← hT' fo sMp];exact hf
 have hx:Operand.t s' x = .sl k0 zs:=by rw[← hT' x sMp];exact h1
 have hy:partOf (Operand.t s' y)=some (i',m',lo',len'):=by rw[← hT' y sMp];exact h2
 have g2':get s'.st i'=some (.arr k' ys' false):=by rw[← hI i' sMp];exact g2
 refine Does.of_value fun ι a w hR=>⟨.bool false,?_,.im (.v _)⟩;obtain⟨us,hu1,hu2,hu3⟩:=(hfo ▸ hR.rp fo).clo_inv;have hus:us=[]:=DK (by simpa using hu2);subst hus;have hxv:=(hx ▸ hR.rp x).im_sl;generalize hev:a.eval x=v at hxv;cases hxv with
 | sl p len cap _ _ vs hlen hcap hk hvs hpn hat him=>
   obtain⟨p',cap',hv',hp'⟩:=zQ5 hR hy g2' l2;obtain⟨fn,q1,q2,q3,q4,q5,q6⟩:=hfn;obtain⟨t,el,inf,q6,q7,q8⟩:=zX5 q6;have hrun:=zf7 (P:=P) (w:=w) (params:=fn.params) (res:=fn.resultTypes) q6 q7 q8 (a:=p) (b:=p') (la:=len) (ca:=cap) (lb:=len') (cb:=cap') (fun ad ad' e1 e2 z1 z2=>by
    obtain⟨b',c0',o2,cur',E',r1',r2',r3'⟩:=hp' ad' e2 z2;have hvl:0<vs.length:=by rw[hvs,qH hk,hlen];exact Nat.mul_pos z1 hk0
    obtain⟨ad2,w1,w2,w3,_⟩:=hat 0 vs[0] (CK hvl);rw[e1] at w1;injection w1 with w1;subst w1
    have hbl:(ad.add 0).block=ad.block:=rfl;unfold World.cell? at w3;rw[hbl] at w3;split at w3
    ·rename_i c1 E1 r1 hh;split at w3
     ·cases w3
     ·have hsz:0<c1.size:=by
       have:=(Array.getElem?_eq_some_iff.1 w3).1;omega
      refine⟨o2,b',c1,E1,r1,cur',E',r2',?_,hh,hsz,r3'⟩;intro hbb;rcases w2 with w2 | ⟨_,_,w2⟩
      ·have q:=hR.sS _ w2;rw[hbl,hbb] at q;rcases hR.own i' _ _ _ _ _ g2' r1' with p1 | p1
       ·exact q.2 p1
       ·omega
      ·have:=(w2 i' _ _ _ c0' g2' (by rw[hbl,hbb];exact r1')).1;cases this
    ·cases w3)
   have hce:=run_callFunc_extern q1 q2 q3 q4 q5 #[Value.slice p len cap,Value.slice p' len' cap'] w;rw[hrun] at hce;have hcargs:c.args.map a.eval=#[Value.slice p len cap,Value.slice p' len' cap']:=by
    apply Array.toList_inj.1
    rw[Array.toList_map,hca];simp [hev,hv']
   simp [execOp,ho,resolve,hcv,hu1,Deferred.ofValue,invoke,hcargs,hce]
def qT5 (P:Program) (st:Sto) (f:T) (xs:List T) (val:T) (wr:List (Nat×Ob)) (rd:List Nat):Prop:=
 (∃ fid caps ts' st1 st1' r ρ ρ2 B,f = .clo fid caps∧Spc P fid ts' st1 r st1'∧CallOK st (xs++caps) ts' st1 st1' r val wr ρ ρ2 B rd)∨OvlP P st f xs val wr rd
def zv7 (P:Program) (F:XF) (L:List (Nat×Bool)) (st:Sto) (o:RO) (val:T) (wr:List (Nat×Ob)) (rd:List Nat):Prop:=
 match o with
 | .call f xs=>jP F L (f::xs)=true∧qT5 P st (rhoX F L f) (xs.map (rhoX F L)) val wr rd
 | _=>False
def wpR (P:Program):Nat→List ROp→XF→Sto→List (List Nat×List Nat)→(XF→Sto→List (List Nat×List Nat)→Prop)→Prop
 | _,[],F,st,acc,Q=>Q F st acc
 | nid,o::rest,F,st,acc,Q=>
   match o.g with
   | none=>
     if zK o.o then ∃ val wr rd,zv7 P F [] st o.o val wr rd∧wpR P (nid+4) rest (putX F o.d (.p val)) (stUp st wr) (acc++[(rd,wr.map (·.1))]) Q
     else match doX F [] st nid o.o with
      | some r=>r.side∧wpR P (nid+4) rest (putX F o.d (.p r.val)) (stUp st r.wr) (acc++[(nid::rdX F [] o.o,r.wr.map (·.1))]) Q
      | none=>False
   | some (t,w)=>
     match labX F t w with
     | none=>False
     | some (L,c)=>
       if zK o.o then ∃ val wr rd,(c→zv7 P F L st o.o val wr rd)∧
        ((wr=[]∧wpR P (nid+4) rest (putX F o.d (.g L c val)) st (acc++[(rd,[])]) Q)∨
         (c∧wpR P (nid+4) rest (putX F o.d (.p val)) (stUp st wr) (acc++[(rd,wr.map (·.1))]) Q)∨
         (¬ c∧wpR P (nid+4) rest (putX F o.d (.p (.v undef))) st (acc++[(rd,[])]) Q))
       else match doX F L st nid o.o with
        | some r=>(c→r.side)∧match r.wr with
          | []=>wpR P (nid+4) rest (putX F o.d (.g L c r.val)) st (acc++[(nid::rdX F L o.o,[])]) Q
          | q::qs=>(c→wpR P (nid+4) rest (putX F o.d (.p r.val)) (stUp st (q::qs)) (acc++[(nid::rdX F L o.o,(q::qs).map (·.1))]) Q)∧
             (¬ c→wpR P (nid+4) rest (putX F o.d (.p (.v undef))) st (acc++[(nid::rdX F L o.o,[])]) Q)
        | none=>¬ c∧wpR P (nid+4) rest (putX F o.d (.p (.v undef))) st (acc++[([],[])]) Q
def jK5 (P:Program) (ops:List Oper) (o:Oper):Option ROp:=
 match rsvO P o.op with
 | some ro=>match o.guard with
   | none=>some ⟨o.dst,none,ro⟩
   | some (j,w)=>match gdst ops j with
     | some t=>some ⟨o.dst,some (t,w),ro⟩
     | none=>none
 | none=>none
def zf8 (P:Program) (ops:List Oper):List Oper→Option (List ROp)
 | []=>some []
 | o::r=>match jK5 P ops o,zf8 P ops r with
   | some x,some l=>some (x::l)
   | _,_=>none
def zQ6:List Nat→List ROp→Bool
 | _,[]=>true
 | G,o::r=>
   let G':=match o.g with | some (t,_)=>t::G | none=>G
   (match o.d with | some d=>!G'.contains d | none=>true)&&zQ6 G' r
def qs6 (F:XF) (G:List Nat):Prop:=∀ t L c x,get F t=some (.g L c x)→∀ p∈L,p.1∈G
section
variable {P:Program} {e:Env}
theorem qT6 {fr:List (Nat×T)} {L:List (Nat×Bool)}:hold fr L↔∀ p∈L,get fr p.1=some (.v (.bool p.2)):=by
 induction L with
 | nil=>simp [hold]
 | cons p r ih=>obtain⟨d,w⟩:=p;simp only[hold,ih,Ck,forall_eq_or_imp]
theorem ju9 {fr:List (Nat×T)} {L L0:List (Nat×Bool)} (h:hold fr L0) (hs:L.all (fun p=>L0.contains p)=true):hold fr L:=by
 rw[qT6] at h ⊢
 intro p hp;have:=Bk.1 hs p hp;exact h p (by simpa using this)
theorem ZG {fr:List (Nat×T)} {F:XF} {L:List (Nat×Bool)} (hf:fits fr F) (hh:hold fr L) {x:RV} {y:T} (h:accX F L x=some y):rv fr x=y:=by
 cases x with
 | k x=>simp [accX] at h;exact h
 | t n=>
   have:=hf n;simp only[accX] at h;simp only[rv];split at h
   ·rename_i hg;rw[hg] at this;simp only[fit] at this;rw[this];simpa using h
   ·rename_i x hg;rw[hg] at this;simp only[fit] at this;rw[this];simpa using h
   ·rename_i L' c x hg;rw[hg] at this;simp only[fit] at this;split at h
    ·rename_i hs;injection h with h;subst h;rw[this.2.1 (this.1.2 (ju9 hh hs))];rfl
    ·cases h
theorem ql1 {F:XF} {L:List (Nat×Bool)} {l:List RV} (h:jP F L l=true):∀ x∈l,(accX F L x).isSome=true:=by
 induction l with
 | nil=>simp
 | cons y r ih=>
   simp only[jP,Bq] at h;intro x hx;rcases Ck.1 hx with rfl | hx
   ·exact h.1
   ·exact ih h.2 x hx
theorem jB9 {fr:List (Nat×T)} {F:XF} {L:List (Nat×Bool)} (hf:fits fr F) (hh:hold fr L) {l:List RV} (h:jP F L l=true):∀ x∈l,rv fr x=rhoX F L x:=by
 intro x hx;obtain⟨y,hy⟩:=Option.isSome_iff_exists.1 (ql1 h x hx);rw[ZG hf hh hy,rhoX,hy];rfl
theorem jv0 {ro:RO} {ρ ρ':RV→T} {st:Sto} {nid:Nat} (h:∀ x∈ro.rvs,ρ x=ρ' x):rT ro ρ st nid=rT ro ρ' st nid:=by
 have hl:∀ l:List RV,(∀ x∈l,ρ x=ρ' x)→l.map ρ=l.map ρ':=fun l hl=>Ew hl;cases ro with
 | build z pl=>
   have h1:(pl.map fun p=>(p.1,ρ p.2))=pl.map fun p=>(p.1,ρ' p.2):=Ew fun p hp=>by rw[h p.2 (by simp [RO.rvs];exact⟨_,_,hp⟩)]
   have h2:(pl.map fun p=>ρ p.2)=pl.map fun p=>ρ' p.2:=Ew fun p hp=>by rw[h p.2 (by simp [RO.rvs];exact⟨_,_,hp⟩)]
   simp only[rT,h1,h2]
 | bsl k len xs=>simp only[rT,hl xs h]
 | mf f caps=>simp only[rT,hl caps h]
 | mn xs=>simp only[rT,hl xs h]
 | mx xs=>simp only[rT,hl xs h]
 | ext x xs=>simp only[rT,hl xs h]
 | slS x lo hi=>
   have h1:lo.map ρ=lo.map ρ':=by cases lo <;> simp [RO.rvs] at h ⊢;exact h.2.1
   have h2:hi.map ρ=hi.map ρ':=by cases hi <;> cases lo <;> simp [RO.rvs] at h ⊢ <;> first | exact h.2 | exact h.2.2
   simp only[rT,h1,h2,h x (by simp [RO.rvs])]
 | slL k x lo hi=>
   have h1:lo.map ρ=lo.map ρ':=by cases lo <;> simp [RO.rvs] at h ⊢;exact h.2.1
   have h2:hi.map ρ=hi.map ρ':=by cases hi <;> cases lo <;> simp [RO.rvs] at h ⊢ <;> first | exact h.2 | exact h.2.2
   simp only[rT,h1,h2,h x (by simp [RO.rvs])]
 | _=>simp_all [rT,RO.rvs]
theorem zQ7 {fr:List (Nat×T)} {F:XF} {L:List (Nat×Bool)} (hf:fits fr F) (hh:hold fr L) {c:RV} {q:Bool} (h1:accX F L c=some (.v (.bool q))):hold fr (qT4 c q L):=by
 cases c with
 | k z=>exact hh
 | t d=>
   refine⟨?_,hh⟩;have:=ZG hf hh h1;simp only[rv] at this;cases hg:get fr d with
   | none=>rw[hg] at this;simp at this
   | some z=>rw[hg] at this;simp at this;rw[this]
theorem zf9 {o:Oper} {ro:RO} {s:St} {F:XF} {L:List (Nat×Bool)} {nid:Nat} {r:Res} (hf:fits s.fr F) (hh:hold s.fr L) (hr:rsvO P o.op=some ro) (hc:zK ro=false) (h:doX F L s.st nid ro=some r) :
 ∃ r',opT P s nid o=some r'∧r'.val=r.val∧r'.wr=r.wr∧(r.side→r'.side):=by
 refine jK1 hr hc ?_;unfold doX at h;split at h
 ·rename_i c a b;split at h
  ·rename_i q x y h1 h2 h3;simp only[rT,ZG hf hh h1,zU2];rw[zX4] at h;rw[← h];have hs:=zQ7 hf hh h1;cases q with
   | true=>simp only[cond_true,ZG hf hs h2]
   | false=>simp only[cond_false,ZG hf hs h3]
  ·cases h
 ·split at h
  ·rename_i hne ha;rw[jv0 (jB9 hf hh ha)];exact h
  ·cases h
theorem jK6 {fr:List (Nat×T)} {F:XF} {L0 L:List (Nat×Bool)} (hf:fits fr F) {x:RV} {y:T} (h:accX F L x=some y) (i:Nat) (hi:i∈ids (rv fr x)):i∈ids (rhoX F L x):=by
 unfold rhoX;rw[h];cases x with
 | k z=>simp [accX] at h;subst h;exact hi
 | t n=>
   have:=hf n;simp only[accX] at h;simp only[rv] at hi;split at h
   ·rename_i hg;rw[hg] at this;simp only[fit] at this;rw[this] at hi;simp [ids] at hi
   ·rename_i x hg;rw[hg] at this;simp only[fit] at this;rw[this] at hi;injection h with h;subst h;simpa using hi
   ·rename_i L' c x hg;rw[hg] at this;simp only[fit] at this;split at h
    ·injection h with h;subst h;by_cases hc:c
     ·rw[this.2.1 hc] at hi;simpa using hi
     ·rw[this.2.2 hc] at hi;simp [ids] at hi
    ·cases h
def zQ8 (s:St) (o:Op):List Nat:=match o with
 | .move _ | .assign _ | .pick ..=>[]
 | o=>zP9 s o.operands.toList
theorem zX6 {o:Oper} {s:St} {nid:Nat} {r:Res} (h:opT P s nid o=some r) (hs:r.side):Evs P e o s (nid::zQ8 s o.op) ⟨r.val,r.wr⟩:=by
 have key:(o.op=o.op):=rfl;unfold zQ8;split
 ·rename_i x ho;intro s' hT hI;have hT':=kC hT;have e1:opT P s' nid o=opT P s nid o:=by
   simp only[ho,Op.operands] at hT';have:Operand.t s x=Operand.t s' x:=hT' x sMp;unfold opT opT0;simp only[ho,rsvX,this]
  exact qq3 nid (e1 ▸ h) hs
 ·rename_i x ho;intro s' hT hI;have hT':=kC hT;have e1:opT P s' nid o=opT P s nid o:=by
   simp only[ho,Op.operands] at hT';have:Operand.t s x=Operand.t s' x:=hT' x sMp;unfold opT opT0;simp only[ho,rsvX,this]
  exact qq3 nid (e1 ▸ h) hs
 ·rename_i x y z ho;intro s' hT hI;have hT':=kC hT;have e1:opT P s' nid o=opT P s nid o:=by
   simp only[ho,Op.operands] at hT';have h1:=hT' x sMp;have h2:=hT' y sMp;have h3:=hT' z sMp;unfold opT opT0;simp only[ho,rsvX,h1,h2,h3]
  exact qq3 nid (e1 ▸ h) hs
 ·exact zW3 h hs
theorem zX7 {s:St} {o:Op} {i:Nat} (h:i∈zQ8 s o):i∈zP9 s o.operands.toList:=by
 unfold zQ8 at h;split at h
 ·cases h
 ·cases h
 ·cases h
 ·exact h
def jY4:Op→Bool
 | .move _ | .assign _ | .pick ..=>true
 | _=>false
def jQ6:RO→Bool
 | .mv _ | .pick ..=>true
 | _=>false
theorem zX8 {o:Op} {ro:RO} (h:qn4 P o=some ro):jY4 o=jQ6 ro:=by
 unfold qn4 at h;split at h
 all_goals first
  | (injection h with h;subst h;rfl)
  | skip
 ·rename_i t;cases hz:zrT P t <;> simp [hz] at h;subst h;rfl
 ·split at h
  ·injection h with h;subst h;rfl
  ·cases h
 ·split at h
  ·split at h
   ·injection h with h;subst h;rfl
   ·cases h
  ·cases h
 ·rename_i t x;cases hz:ldT P t <;> simp [hz] at h;subst h;rfl
 ·rename_i t x y;cases hz:szT P t <;> simp [hz] at h;subst h;rfl
 ·split at h
  ·injection h with h;subst h;rfl
  ·split at h
   ·injection h with h;subst h;rfl
   ·cases h
  ·injection h with h;subst h;rfl
  ·split at h
   ·injection h with h;subst h;rfl
   ·cases h
  ·cases h
 ·split at h
  ·injection h with h;subst h;rfl
  ·cases h
 ·split at h
  ·split at h
   ·injection h with h;subst h;rfl
   ·cases h
  ·cases h
 ·split at h
  ·injection h with h;subst h;rfl
  ·injection h with h;subst h;rfl
  ·cases h
 ·split at h
  ·split at h
   ·cases h
   ·injection h with h;subst h;rfl
  ·cases h
 ·split at h
  ·injection h with h;subst h;rfl
  ·cases h
 ·split at h
  ·injection h with h;subst h;rfl
  ·injection h with h;subst h;rfl
  ·cases h
 ·split at h
  ·injection h with h;subst h;rfl
  ·cases h
 ·unfold rsvB at h;split at h
  ·split at h
   ·injection h with h;subst h;rfl
   ·injection h with h;subst h;rfl
   ·injection h with h;subst h;rfl
   ·cases h
  ·split at h
   ·injection h with h;subst h;rfl
   ·injection h with h;subst h;rfl
   ·cases h
  ·injection h with h;subst h;rfl
  ·injection h with h;subst h;rfl
  ·cases h
 ·cases h
theorem jv1 {o:Op} {ro:RO} {s:St} (h:rsvO P o=some ro) (hp:jQ6 ro=true):zQ8 s o=[]:=by
 unfold rsvO at h;split at h
 ·injection h with h;subst h;cases hp
 ·rw[← zX8 h] at hp;cases o <;> first | rfl | cases hp
theorem jC0 {o:Oper} {ro:RO} {s:St} {F:XF} {L:List (Nat×Bool)} {nid:Nat} {r:Res} (hf:fits s.fr F) (hr:rsvO P o.op=some ro) (h:doX F L s.st nid ro=some r) :
 ∀ i∈zQ8 s o.op,i∈rdX F L ro:=by
 have hops:=jK2 hr;have hpure:=jv1 (s:=s) hr;intro i hi0;have hi:=zX7 hi0;simp only[zP9,Ek] at hi;obtain⟨x,hx,hi⟩:=hi;rw[← qY] at hi;have hx':toRV x∈ro.rvs:=by rw[hops];exact Cj.2 ⟨x,hx,rfl⟩
 unfold doX at h;split at h
 ·rename_i c a b;rw[hpure rfl] at hi0;cases hi0
 ·rename_i hne;split at h
  ·rename_i ha;by_cases hmv:∃ y,ro = .mv y
   ·obtain⟨y,hy⟩:=hmv;rw[hpure (by rw[hy];rfl)] at hi0;cases hi0
   have:rdX F L ro=idsX F L ro.rvs:=by
    unfold rdX;split
    ·exact absurd rfl (hne _ _ _)
    ·exact absurd ⟨_,rfl⟩ hmv
    ·rfl
   rw[this];simp only[idsX,Ek];obtain⟨y,hy⟩:=Option.isSome_iff_exists.1 (ql1 ha _ hx');exact⟨_,hx',jK6 (L0:=L) hf hy i hi⟩
  ·cases h
theorem Evs.wide {o:Oper} {s:St} {rd rd':List Nat} {ev:Ev} (h:Evs P e o s rd ev) (hs:∀ i∈rd,i∈rd'):Evs P e o s rd' ev:=
 fun s' hT hI=>h s' hT (hI.mono hs)
theorem zv8 {o:Op} {ro:RO} (h:qn4 P o=some ro):zC2 o=zK ro:=by
 unfold qn4 at h;split at h
 all_goals first
  | (injection h with h;subst h;rfl)
  | skip
 ·rename_i t;cases hz:zrT P t <;> simp [hz] at h;subst h;rfl
 ·split at h
  ·injection h with h;subst h;rfl
  ·cases h
 ·split at h
  ·split at h
   ·injection h with h;subst h;rfl
   ·cases h
  ·cases h
 ·rename_i t x;cases hz:ldT P t <;> simp [hz] at h;subst h;rfl
 ·rename_i t x y;cases hz:szT P t <;> simp [hz] at h;subst h;rfl
 ·split at h
  ·injection h with h;subst h;rfl
  ·split at h
   ·injection h with h;subst h;rfl
   ·cases h
  ·injection h with h;subst h;rfl
  ·split at h
   ·injection h with h;subst h;rfl
   ·cases h
  ·cases h
 ·split at h
  ·injection h with h;subst h;rfl
  ·cases h
 ·split at h
  ·split at h
   ·injection h with h;subst h;rfl
   ·cases h
  ·cases h
 ·split at h
  ·injection h with h;subst h;rfl
  ·injection h with h;subst h;rfl
  ·cases h
 ·split at h
  ·split at h
   ·cases h
   ·injection h with h;subst h;rfl
  ·cases h
 ·split at h
  ·injection h with h;subst h;rfl
  ·cases h
 ·split at h
  ·injection h with h;subst h;rfl
  ·injection h with h;subst h;rfl
  ·cases h
 ·split at h
  ·injection h with h;subst h;rfl
  ·cases h
 ·unfold rsvB at h;split at h
  ·split at h
   ·injection h with h;subst h;rfl
   ·injection h with h;subst h;rfl
   ·injection h with h;subst h;rfl
   ·cases h
  ·split at h
   ·injection h with h;subst h;rfl
   ·injection h with h;subst h;rfl
   ·cases h
  ·injection h with h;subst h;rfl
  ·injection h with h;subst h;rfl
  ·cases h
 ·cases h
theorem zX9 {o:Op} {f:RV} {xs:List RV} (h:qn4 P o=some (.call f xs)):∃ c fo,o = .call c∧c.callee = .value fo∧f=toRV fo∧xs=c.args.toList.map toRV:=by
 have hc:=zv8 h;cases o with
 | call c=>
   cases hcc:c.callee with
   | value fo=>
     refine⟨c,fo,rfl,hcc,?_⟩;obtain⟨callee,args,at_⟩:=c;simp only at hcc;subst hcc;simp only[qn4,Option.some.injEq,RO.call.injEq] at h;exact⟨h.1.symm,h.2.symm⟩
   | builtin b=>simp [zC2,hcc,zK] at hc
   | _=>
     obtain⟨callee,args,at_⟩:=c;simp only at hcc;subst hcc;simp [qn4] at h
 | _=>simp [zC2,zK] at hc
theorem jv2 {o:Op} {f:RV} {xs:List RV} (h:rsvO P o=some (.call f xs)):∃ c fo,o = .call c∧c.callee = .value fo∧f=toRV fo∧xs=c.args.toList.map toRV:=by
 unfold rsvO at h;split at h
 ·injection h with h;cases h
 ·exact zX9 h
theorem qs7 {o:Oper} {ro:RO} {s:St} {F:XF} {L:List (Nat×Bool)} {val:T} {wr:List (Nat×Ob)} {rd:List Nat} (hf:fits s.fr F) (hh:hold s.fr L) (hr:rsvO P o.op=some ro) (h:zv7 P F L s.st ro val wr rd):Evs P e o s rd ⟨val,wr⟩:=by
 unfold zv7 at h;split at h
 ·rename_i f xs;obtain⟨ha,hcp⟩:=h;obtain⟨c,fo,ho,hcv,hf1,hx1⟩:=jv2 hr;have hrho:=jB9 hf hh ha;have hxs:c.args.toList.map (Operand.t s)=xs.map (rhoX F L):=by
   rw[← zf4,← hx1];exact Ew fun x hx=>hrho x (by simp [hx])
  rcases hcp with⟨fid,caps,ts',st1,st1',r,ρ,ρ2,B,h1,h2,h3⟩ | ⟨fid,k0,zs,y,i',m',lo',len',k',ys',h1,h2,h3,h4,h5,h6,h7,rfl,rfl,rfl⟩
  case inr=>
   rw[h3] at hxs;obtain⟨ax,ay,e1,e2,e3⟩:=zV1 hxs;exact jK4 ho hcv e1 (by rw[← qY,← hf1,hrho f sMp];exact h1) h2 e2 h4 (by rw[e3];exact h5) h6 h7
  refine jt3 (ρ:=ρ) (ρ2:=ρ2) (B:=B) ho hcv (f:=fid) (caps:=caps) ?_ h2 ?_
  ·rw[← qY,← hf1,hrho f sMp];exact h1
  ·have:c.args.toList.map (Operand.t s)=xs.map (rhoX F L):=by
    rw[← zf4,← hx1];exact Ew fun x hx=>hrho x (by simp [hx])
   rw[this];exact h3
 ·exact h.elim
theorem zC5 {fr:List (Nat×T)} {L:List (Nat×Bool)} {d:Nat} {x:T} (h:∀ p∈L,p.1≠d):hold ((d,x)::fr) L↔hold fr L:=by
 rw[qT6,qT6];constructor
 ·intro hh p hp;have:=hh p hp;simp only[get] at this;rw[Aq (fun he=>h p hp he.symm)] at this;exact this
 ·intro hh p hp;simp only[get];rw[Aq (fun he=>h p hp he.symm)];exact hh p hp
theorem jv3 {fr:List (Nat×T)} {F:XF} {G:List Nat} (hf:fits fr F) (hG:qs6 F G) {d:Nat} (hd:d∉G) {x:T} {en:En} (he:fit ((d,x)::fr) d (some en)):fits ((d,x)::fr) ((d,en)::F):=by
 intro t;simp only[get];split
 ·rename_i h;subst h;exact he
 ·rename_i hne;have h0:=hf t;cases hg:get F t with
  | none=>rw[hg] at h0;simp only[fit,get] at h0 ⊢;rw[Aq hne];exact h0
  | some en=>
    rw[hg] at h0;cases en with
    | p y=>simp only[fit,get] at h0 ⊢;rw[Aq hne];exact h0
    | g L c y=>
      have hL:∀ p∈L,p.1≠d:=fun p hp he=>hd (he ▸ hG t L c y hg p hp);simp only[fit,zC5 hL] at h0 ⊢
      simp only[get];rw[Aq hne];exact h0
def St.put (s:St) (d:Option Nat) (val:T) (wr:List (Nat×Ob)):St:=⟨match d with | some d=>(d,val)::s.fr | none=>s.fr,stUp s.st wr⟩
theorem putR_eqv (s:St) (r:Rec):(s.putR r).eqv (s.put r.o.dst r.ev.val r.ev.wr):=by
 refine⟨fun t=>?_,fun i=>?_⟩
 ·unfold St.putR St.put;cases r.o.dst <;> rfl
 ·show get (r.ev.wr++s.st) i=get (stUp s.st r.ev.wr) i;rw[ju8]
theorem zY0 {s:St} {F:XF} {G:List Nat} (hf:fits s.fr F) (hG:qs6 F G) {d:Option Nat} (hd:∀ x,d=some x→x∉G) {val:T} {wr:List (Nat×Ob)} {en:En}
 (he:∀ x,d=some x→fit ((x,val)::s.fr) x (some en)):fits (s.put d val wr).fr (putX F d en):=by
 cases d with
 | none=>exact hf
 | some d=>exact jv3 hf hG (hd d rfl) (he d rfl)
theorem zv9 {F:XF} {G:List Nat} (hG:qs6 F G) {d:Option Nat} {en:En} (he:∀ L c x,en = .g L c x→∀ p∈L,p.1∈G):qs6 (putX F d en) G:=by
 cases d with
 | none=>exact hG
 | some d=>
   intro t L c x hg;simp only[putX,get] at hg;split at hg
   ·injection hg with hg;exact he L c x hg
   ·exact hG t L c x hg
theorem zY1 {ops:List Oper} {o:Oper} {x:ROp} (h:jK5 P ops o=some x):rsvO P o.op=some x.o∧x.d=o.dst∧((o.guard=none∧x.g=none)∨∃ j w t,o.guard=some (j,w)∧gdst ops j=some t∧x.g=some (t,w)):=by
 unfold jK5 at h;split at h
 ·rename_i ro hro;split at h
  ·rename_i hg;injection h with h;subst h;exact⟨hro,rfl,.inl ⟨hg,rfl⟩⟩
  ·rename_i j w hg;split at h
   ·rename_i t ht;injection h with h;subst h;exact⟨hro,rfl,.inr ⟨j,w,t,hg,ht,rfl⟩⟩
   ·cases h
 ·cases h
theorem jv4 {fr:List (Nat×T)} {F:XF} (hf:fits fr F) {t:Nat} {w:Bool} {L:List (Nat×Bool)} {c:Prop} (h:labX F t w=some (L,c)) :
 (c↔hold fr L)∧(c→get fr t=some (.v (.bool w)))∧(¬ c→∃ x,get fr t=some (.v x)∧x≠.bool w)∧(∀ p∈L,p.1=t∨∃ t' L' c' x,get F t'=some (.g L' c' x)∧p∈L'):=by
 unfold labX at h;have h0:=hf t;split at h
 ·rename_i b hg;rw[hg] at h0;simp only[fit] at h0;injection h with h;injection h with h1 h2;subst h1 h2;refine⟨?_,fun hc=>by rw[h0,hc],fun hc=>⟨_,h0,fun he=>hc (by injection he)⟩,fun p hp=>by simp at hp;subst hp;exact .inl rfl⟩;simp [hold,h0]
 ·rename_i L' c' b hg;rw[hg] at h0;simp only[fit] at h0;injection h with h;injection h with h1 h2;subst h1 h2;obtain⟨q1,q2,q3⟩:=h0;refine⟨?_,fun hc=>by rw[q2 hc.1,hc.2],fun hc=>?_,fun p hp=>?_⟩
  ·simp only[hold];constructor
   ·rintro ⟨h1,h2⟩;exact⟨by rw[q2 h1,h2],q1.1 h1⟩
   ·rintro ⟨h1,h2⟩;have:=q1.2 h2;refine⟨this,?_⟩;rw[q2 this] at h1;simpa using h1
  ·by_cases h1:c'
   ·exact⟨_,q2 h1,fun he=>hc ⟨h1,by injection he⟩⟩
   ·exact⟨_,q3 h1,fun he=>by cases he⟩
  ·rcases Ck.1 hp with rfl | hp
   ·exact .inl rfl
   ·exact .inr ⟨t,L',c',_,hg,hp⟩
 ·rename_i L' c' x hx hg;rw[hg] at h0;simp only[fit] at h0;injection h with h;injection h with h1 h2;subst h1 h2;obtain⟨q1,q2,q3⟩:=h0;refine⟨?_,fun hc=>by rw[q2 hc.1,hc.2],fun hc=>?_,fun p hp=>?_⟩
  ·simp only[hold];constructor
   ·rintro ⟨h1,h2⟩;exact⟨by rw[q2 h1,h2],q1.1 h1⟩
   ·rintro ⟨h1,h2⟩;have:=q1.2 h2;refine⟨this,?_⟩;rw[q2 this] at h1;simpa using h1
  ·by_cases h1:c'
   ·exact⟨_,q2 h1,fun he=>hc ⟨h1,he⟩⟩
   ·exact⟨_,q3 h1,fun he=>by cases he⟩
  ·rcases Ck.1 hp with rfl | hp
   ·exact .inl rfl
   ·exact .inr ⟨t,L',c',_,hg,hp⟩
 ·cases h
def dynF (r:Rec):List Nat×List Nat:=(r.foot.rdI,r.foot.wrI)
theorem jC1 {ops:List Oper}:∀ (l:List Oper) (lr:List ROp) (nid:Nat) (s:St) (F:XF) (G:List Nat) (acc:List (List Nat×List Nat)) (Q:XF→Sto→List (List Nat×List Nat)→Prop),
 zf8 P ops l=some lr→fits s.fr F→qs6 F G→zQ6 G lr=true→wpR P nid lr F s.st acc Q→
 ∃ rs s' F',Tr P e ops s rs s'∧rs.map (·.o)=l∧(∀ r∈rs,r.foot.rdT=qa3 ops r.o++JR r.o.op.operands.toList∧r.foot.dst=r.o.dst)∧fits s'.fr F'∧Q F' s'.st (acc++rs.map dynF)
 | [],lr,nid,s,F,G,acc,Q,hl,hf,hG,hb,h=>by
   simp only[zf8,Option.some.injEq] at hl;subst hl;exact⟨[],s,F,.nil (St.eqv_refl s),rfl,sMp,hf,by simpa [wpR] using h⟩
 | o::rest,lr,nid,s,F,G,acc,Q,hl,hf,hG,hb,h=>by
   simp only[zf8] at hl;split at hl
   ·rename_i x l' h1 h2;injection hl with hl;subst hl;obtain⟨hro,hxd,hxg⟩:=zY1 h1;have fin:∀ G',∀ go val wr rd en,RecOK P e ops s ⟨o,go,⟨val,wr⟩,kJ ops o rd wr⟩→qs6 F G'→(∀ y,o.dst=some y→y∉G')→zQ6 G' l'=true→
     (∀ y,o.dst=some y→fit ((y,val)::s.fr) y (some en))→(∀ L c x,en = .g L c x→∀ p∈L,p.1∈G')→
     wpR P (nid+4) l' (putX F x.d en) (stUp s.st wr) (acc++[(rd,wr.map (·.1))]) Q→
     ∃ rs s' F',Tr P e ops s rs s'∧rs.map (·.o)=o::rest∧(∀ r∈rs,r.foot.rdT=qa3 ops r.o++JR r.o.op.operands.toList∧r.foot.dst=r.o.dst)∧fits s'.fr F'∧Q F' s'.st (acc++rs.map dynF):=by
     intro G' go val wr rd en hok hG1 hd1 hb1 hfit hen hw;rw[hxd] at hw;obtain⟨rs,s',F',g1,g2,g3,g4,g5⟩:=jC1 rest l' _ (s.put o.dst val wr) _ G' _ Q h2 (zY0 hf hG1 hd1 hfit) (zv9 hG1 hen) hb1 hw;refine⟨⟨o,go,⟨val,wr⟩,kJ ops o rd wr⟩::rs,s',F',.cons hok (Tr.eqv (putR_eqv s ⟨o,go,⟨val,wr⟩,kJ ops o rd wr⟩) g1),by simp [g2],?_,g4,?_⟩
     ·intro r hr;rcases Ck.1 hr with rfl | hr
      ·exact⟨rfl,rfl⟩
      ·exact g3 r hr
     ·simpa [dynF,kJ] using g5
    unfold wpR at h;rcases hxg with⟨hg,hxg⟩ | ⟨j,w,t,hg,hgd,hxg⟩
    ·have hLets:Lets ops o s:=by unfold Lets;rw[hg];trivial
     have hlate:=hb;simp only[zQ6,hxg,Bq] at hlate;have hd1:∀ y,o.dst=some y→y∉G:=by
      intro y hy;have:=hlate.1;rw[hxd,hy] at this;simpa using this
     simp only[hxg] at h;split at h
     ·rename_i hcall;obtain⟨val,wr,rd,q1,q2⟩:=h;exact fin G true val wr rd (.p val) (Wf hLets (qs7 hf (by trivial) hro q1)) hG hd1 hlate.2 (fun y hy=>by simp [fit,get]) (fun L c x he=>by cases he) q2
     ·rename_i hcall;split at h
      ·rename_i r hr;obtain⟨r',p1,p2,p3,p4⟩:=zf9 hf (L:=[]) trivial hro (by simpa using hcall) hr;have hev:=(zX6 (e:=e) p1 (p4 h.1)).wide (rd':=nid::rdX F [] x.o) (fun i hi=>by
        rcases Ck.1 hi with rfl | hi
        ·simp
        ·exact CQ _ (jC0 hf hro hr i hi))
       rw[p2,p3] at hev;exact fin G true r.val r.wr _ (.p r.val) (Wf hLets hev) hG hd1 hlate.2 (fun y hy=>by simp [fit,get]) (fun L c x he=>by cases he) h.2
      ·exact h.elim
    ·have hlate:=hb;simp only[zQ6,hxg,Bq] at hlate;have hd1:∀ y,o.dst=some y→y∉t::G:=by
      intro y hy;have:=hlate.1;rw[hxd,hy] at this;simpa using this
     have hG1:qs6 F (t::G):=fun t' L c x hg p hp=>CQ _ (hG t' L c x hg p hp);simp only[hxg] at h;split at h
     ·exact h.elim
     ·rename_i L c hlab;obtain⟨k1,k2,k3,k4⟩:=jv4 hf hlab;have hLG:∀ p∈L,p.1∈t::G:=by
       intro p hp;rcases k4 p hp with hp | ⟨t',L',c',x',hq,hp⟩
       ·rw[hp];simp
       ·exact hG1 t' L' c' x' hq p hp
      have hput:∀ y,o.dst=some y→∀ v:T,(c↔hold ((y,v)::s.fr) L):=by
       intro y hy v;rw[zC5 (d:=y) (x:=v) (fun p hp he=>hd1 y hy (he ▸ hLG p hp))];exact k1
      have hgo:c→Lets ops o s:=by
       intro hc;unfold Lets;rw[hg];exact⟨t,hgd,k2 hc⟩
      have hbar:¬ c→Bars ops o s:=by
       intro hc;obtain⟨z,g1,g2⟩:=k3 hc;exact⟨j,w,hg,.inr ⟨t,z,hgd,g1,g2⟩⟩
      have merged:∀ val rd,(c→Evs P e o s rd ⟨val,[]⟩)→wpR P (nid+4) l' (putX F x.d (.g L c val)) s.st (acc++[(rd,[])]) Q→
       ∃ rs s' F',Tr P e ops s rs s'∧rs.map (·.o)=o::rest∧(∀ r∈rs,r.foot.rdT=qa3 ops r.o++JR r.o.op.operands.toList∧r.foot.dst=r.o.dst)∧fits s'.fr F'∧Q F' s'.st (acc++rs.map dynF):=by
       intro val rd hev hw;by_cases hc:c
       ·exact fin (t::G) true val [] rd (.g L c val) (Wf (hgo hc) (hev hc)) hG1 hd1 hlate.2 (fun y hy=>⟨hput y hy _,fun _=>by simp [get],fun h=>absurd hc h⟩)
         (fun L' c' x' he p hp=>by injection he with h1 h2 h3;subst h1;exact hLG p hp) hw
       ·exact fin (t::G) false (.v undef) [] rd (.g L c val) (Km rd (hbar hc)) hG1 hd1 hlate.2 (fun y hy=>⟨hput y hy _,fun h=>absurd h hc,fun _=>by simp [get]⟩)
         (fun L' c' x' he p hp=>by injection he with h1 h2 h3;subst h1;exact hLG p hp) hw
      have plain:c→∀ val wr rd,Evs P e o s rd ⟨val,wr⟩→wpR P (nid+4) l' (putX F x.d (.p val)) (stUp s.st wr) (acc++[(rd,wr.map (·.1))]) Q→
       ∃ rs s' F',Tr P e ops s rs s'∧rs.map (·.o)=o::rest∧(∀ r∈rs,r.foot.rdT=qa3 ops r.o++JR r.o.op.operands.toList∧r.foot.dst=r.o.dst)∧fits s'.fr F'∧Q F' s'.st (acc++rs.map dynF):=
       fun hc val wr rd hev hw=>fin (t::G) true val wr rd (.p val) (Wf (hgo hc) hev) hG1 hd1 hlate.2 (fun y hy=>by simp [fit,get]) (fun L c x he=>by cases he) hw
      have skip:¬ c→∀ rd,wpR P (nid+4) l' (putX F x.d (.p (.v undef))) s.st (acc++[(rd,[])]) Q→
       ∃ rs s' F',Tr P e ops s rs s'∧rs.map (·.o)=o::rest∧(∀ r∈rs,r.foot.rdT=qa3 ops r.o++JR r.o.op.operands.toList∧r.foot.dst=r.o.dst)∧fits s'.fr F'∧Q F' s'.st (acc++rs.map dynF):=
       fun hc rd hw=>fin (t::G) false (.v undef) [] rd (.p (.v undef)) (Km rd (hbar hc)) hG1 hd1 hlate.2 (fun y hy=>by simp [fit,get]) (fun L c x he=>by cases he) hw
      split at h
      ·rename_i hcall;obtain⟨val,wr,rd,q1,q2⟩:=h;have hev:c→Evs P e o s rd ⟨val,wr⟩:=fun hc=>qs7 hf (k1.1 hc) hro (q1 hc);rcases q2 with⟨rfl,q2⟩ | ⟨hc,q2⟩ | ⟨hc,q2⟩
       ·exact merged val rd hev q2
       ·exact plain hc val wr rd (hev hc) q2
       ·exact skip hc rd q2
      ·rename_i hcall;split at h
       ·rename_i r hr;obtain⟨q1,q2⟩:=h;have hev:c→Evs P e o s (nid::rdX F L x.o) ⟨r.val,r.wr⟩:=by
         intro hc;obtain⟨r',p1,p2,p3,p4⟩:=zf9 hf (k1.1 hc) hro (by simpa using hcall) hr;have:=(zX6 (e:=e) p1 (p4 (q1 hc))).wide (rd':=nid::rdX F L x.o) (fun i hi=>by
          rcases Ck.1 hi with rfl | hi
          ·simp
          ·exact CQ _ (jC0 hf hro hr i hi))
         rw[p2,p3] at this;exact this
        split at q2
        ·rename_i hwr;rw[hwr] at hev;exact merged r.val _ hev q2
        ·rename_i a as hwr;rw[hwr] at hev;by_cases hc:c
         ·exact plain hc r.val _ _ (hev hc) (q2.1 hc)
         ·exact skip hc _ (q2.2 hc)
       ·exact skip h.1 _ h.2
   ·cases hl
end
end Go.TL
namespace Go.TL
def LeE (e:Env) (s:St) (S:St→Prop):Prop:=∀ ι a w,Rel e s ι a w→∃ s',S s'∧∃ ι',Rel e s' ι' a w
def qC9 (k:Nat):T:=if k=1 then .junk else .agg (List.replicate k .junk)
theorem qs8 (k:Nat):(qC9 k).cells=List.replicate k .junk:=by
 unfold qC9;split
 ·rename_i h;subst h;rfl
 ·rfl
def jK7 (id n c:Nat):T→T
 | .vw i n' lo len=>if i=id∧n'=n then .vw id c lo len else .vw i n' lo len
 | x=>x
def jv5 (id n c:Nat) (fr:List (Nat×T)):List (Nat×T):=fr.map fun p=>(p.1,jK7 id n c p.2)
def qs9 (id k c:Nat) (xs:List T) (st:Sto):Sto:=(id,.arr k (xs++List.replicate (c-xs.length) (qC9 k)) false)::(id+capK,.full id c false)::st
theorem zg0 (id n c:Nat):∀ (fr:List (Nat×T)) (t:Nat),get (jv5 id n c fr) t=(get fr t).map (jK7 id n c)
 | [],t=>rfl
 | (j,x)::r,t=>by
   simp only[jv5,List.map_cons,get];split
   ·rfl
   ·exact zg0 id n c r t
theorem LeE.cap {e:Env} {fr:List (Nat×T)} {st:Sto} (id:Nat) {k:Nat} {xs:List T} (hg:get st id=some (.arr k xs false)) (hn:get st (id+capK)=none) :
 LeE e ⟨fr,st⟩ (fun s'=>∃ c,xs.length≤c∧c≤maxLen∧s'=⟨jv5 id xs.length c fr,qs9 id k c xs st⟩):=by
 intro ι a w hR;have hob0:=hR.ob id _ hg;obtain⟨hk,hob⟩:=hob0;obtain⟨c,hc1,hc2,hci⟩:∃ c,xs.length≤c∧c≤maxLen∧((ι id=none∧c=0)∨∃ b,ι id=some (b,c)):=by
  rcases hob with⟨h1,h2⟩ | ⟨b,cap,cur,E,h1,h2,h3,h4,h5,h6⟩
  ·subst h2;exact⟨0,sMp,by simp [maxLen],.inl ⟨h1,rfl⟩⟩
  ·exact⟨cap,h4,h5.1,.inr ⟨b,h1⟩⟩
 refine⟨⟨jv5 id xs.length c fr,qs9 id k c xs st⟩,⟨c,hc1,hc2,rfl⟩,ι,?_⟩;have hidne:id≠id+capK:=by simp [capK]
 have hga:get (qs9 id k c xs st) id=some (.arr k (xs++List.replicate (c-xs.length) (qC9 k)) false):=by unfold qs9;rw[qz]
 have hgf:get (qs9 id k c xs st) (id+capK)=some (.full id c false):=by unfold qs9;rw[qw _ _ hidne,qz]
 have hgo:∀ i,i≠id→i≠id+capK→get (qs9 id k c xs st) i=get st i:=fun i h1 h2=>by
  unfold qs9;rw[qw _ _ (Ne.symm h1),qw _ _ (Ne.symm h2)]
 have hxl:(xs++List.replicate (c-xs.length) (qC9 k)).length=c:=by simp;omega
 have hcase:∀ i o,get (qs9 id k c xs st) i=some o→(i=id∧o = .arr k (xs++List.replicate (c-xs.length) (qC9 k)) false)∨(i=id+capK∧o = .full id c false)∨(i≠id∧i≠id+capK∧get st i=some o):=by
  intro i o h;by_cases h1:i=id
  ·subst h1;rw[hga] at h;injection h with h;exact .inl ⟨rfl,h.symm⟩
  ·by_cases h2:i=id+capK
   ·subst h2;rw[hgf] at h;injection h with h;exact .inr (.inl ⟨rfl,h.symm⟩)
   ·exact .inr (.inr ⟨h1,h2,by rw[← hgo i h1 h2];exact h⟩)
 have hkk:∀ x∈xs++List.replicate (c-xs.length) (qC9 k),x.cells.length=k:=fun x hx=>by
  rcases Dz.1 hx with hx | hx
  ·exact hk x hx
  ·rw[(List.mem_replicate.1 hx).2,qs8];simp
 have hjk:∀ (n j:Nat) (u:T),(flat (List.replicate n (qC9 k)))[j]?=some u→u = .junk:=by
  intro n
  induction n with
  | zero=>intro j u h;simp [flat] at h
  | succ n ih=>
    intro j u h;simp only[List.replicate_succ,flat,Gq,qs8] at h;by_cases hj:j<k
    ·rw[BK (by simpa using hj)] at h;have:=BX h;exact (List.mem_replicate.1 this).2
    ·rw[BJ (by simpa using hj)] at h;exact ih _ u h
 have hgo2:=hR.go (st':=qs9 id k c xs st) (ι':=ι) (w':=w) ⟨fun i hi=>?_,fun i k' xs' fz' h hi=>?_,fun i es h hi=>?_⟩ (fun _ _ _ h=>h) ?_ ?_ ?_ ?_ (fun _ _ _=>rfl) (BZ _) rfl rfl rfl ?_
 ·obtain⟨hR',hrp⟩:=hgo2;refine⟨hR'.size,hR'.dfr,fun t x hx=>?_,hR'.ob,hR'.inj,hR'.own,hR'.keep,hR'.hs,hR'.sS,hR'.os,hR'.tape,hR'.output,hR'.gs,hR'.stab,hR'.mp⟩;rw[zg0] at hx;cases hf:get fr t with
  | none=>rw[hf] at hx;cases hx
  | some x0=>
    rw[hf] at hx;simp only[Ej,Option.some.injEq] at hx;subst hx;have h0:=hR.fr t x0 hf;unfold jK7;split
    ·rename_i i n' lo len;split
     ·rename_i hcc;obtain⟨rfl,rfl⟩:=hcc;obtain⟨hle,hvw⟩:=h0.vw_inv hg rfl;refine .vw i c lo len _ (by rw[hga];simp) fun k2 xs2 fz2 hg2=>?_;rw[hga] at hg2;injection hg2 with hg2;injection hg2 with e1 e2 e3
      subst e1 e2 e3;exact⟨oM,fun _=>⟨oM,hvw⟩⟩
     ·exact hrp _ _ h0
    ·exact hrp _ _ h0
 ·by_cases h1:i=id
  ·subst h1;rw[hga];simp
  ·by_cases h2:i=id+capK
   ·exact absurd (h2 ▸ hn) hi
   ·rw[hgo i h1 h2];exact hi
 ·rcases hcase i _ h with⟨h1,h2⟩ | ⟨_,h2⟩ | ⟨_,_,h2⟩
  ·subst h1;injection h2 with e1 e2 e3;subst e1 e2 e3
   exact⟨_,xs,false,hg,rfl,oM,fun _=>rfl⟩
  ·cases h2
  ·exact⟨k',xs',fz',h2,rfl,BZ _,fun _=>rfl⟩
 ·rcases hcase i _ h with⟨h1,h2⟩ | ⟨_,h2⟩ | ⟨_,_,h2⟩
  ·cases h2
  ·cases h2
  ·exact⟨⟨es,h2⟩,rfl⟩
 ·rintro x (hx | ⟨h1,h2,h3⟩)
  ·exact .inl hx
  ·refine .inr ⟨h1,h2,fun i k1 x1 f1 cap' hg1 hi=>?_⟩;rcases hcase i _ hg1 with⟨q1,q2⟩ | ⟨_,q2⟩ | ⟨_,_,q2⟩
   ·subst q1;have:=(h3 i k xs false cap' hg hi).1;cases this
   ·cases q2
   ·exact h3 i k1 x1 f1 cap' q2 hi
 ·intro i o' ho';rcases hcase i _ ho' with⟨q1,q2⟩ | ⟨q1,q2⟩ | ⟨_,_,q2⟩
  ·subst q1 q2;refine .inr fun hm=>⟨hkk,?_⟩;rcases hob with⟨h1,h2⟩ | ⟨b,cap,cur,E,h1,h2,h3,h4,h5,h6⟩
   ·subst h2;rcases hci with⟨_,h3⟩ | ⟨b,h3⟩
    ·subst h3;exact .inl ⟨h1,sMp⟩
    ·rw[h1] at h3;cases h3
   ·have hcc:cap=c:=by
     rcases hci with⟨h7,_⟩ | ⟨b',h7⟩
     ·rw[h1] at h7;cases h7
     ·rw[h1] at h7;injection h7 with h7;injection h7
    subst hcc;refine .inr ⟨b,cap,cur,E,h1,h2,h3,oM,h5,fun j u c' hu hc'=>?_⟩;refine⟨h5.2 j u hu,?_⟩;have hfl:flat (xs++List.replicate (cap-xs.length) (qC9 k))=flat xs++flat (List.replicate (cap-xs.length) (qC9 k)):=by simp [flat]
    rw[hfl] at hc';by_cases hj:j<(flat xs).length
    ·rw[BK hj] at hc';exact hm _ _ (h6 j u c' hu hc').2
    ·rw[BJ oM] at hc';rw[hjk _ _ _ hc'];exact .im (.junk _)
  ·subst q1 q2;refine .inr fun _=>⟨by rw[hga];simp,fun k2 xs2 fz2 hg2=>?_⟩;rw[hga] at hg2;injection hg2 with hg2;injection hg2 with e1 e2 e3
   subst e1 e2 e3;refine⟨oM,fun _ b c' hi=>?_⟩;rcases hci with⟨h7,_⟩ | ⟨b',h7⟩
   ·rw[hi] at h7;cases h7
   ·rw[hi] at h7;injection h7 with h7;injection h7
  ·exact .inl ⟨q2,rfl,fun _ _ _ _=>rfl⟩
 ·intro i i' k1 x1 f1 k2 x2 f2 b c' c'' g1 g2 e1 e2;have key:∀ i k1 x1 f1,get (qs9 id k c xs st) i=some (.arr k1 x1 f1)→∃ k x f,get st i=some (.arr k x f):=by
   intro i k1 x1 f1 g1;rcases hcase i _ g1 with⟨q1,q2⟩ | ⟨q1,q2⟩ | ⟨_,_,q2⟩
   ·subst q1;exact⟨_,_,_,hg⟩
   ·cases q2
   ·exact⟨_,_,_,q2⟩
  obtain⟨_,_,_,p1⟩:=key i _ _ _ g1;obtain⟨_,_,_,p2⟩:=key i' _ _ _ g2;exact hR.inj i i' _ _ _ _ _ _ b c' c'' p1 p2 e1 e2
 ·intro i k1 x1 f1 b c' g1 e1;rcases hcase i _ g1 with⟨q1,q2⟩ | ⟨q1,q2⟩ | ⟨_,_,q2⟩
  ·subst q1;exact hR.own i _ _ _ b c' hg e1
  ·cases q2
  ·exact hR.own i _ _ _ b c' q2 e1
 ·intro i es h;rcases hcase i _ h with⟨h1,h2⟩ | ⟨_,h2⟩ | ⟨_,_,h2⟩
  ·cases h2
  ·cases h2
  ·exact⟨h2,rfl,fun _ _ _=>rfl⟩
inductive RC where
 | skip
 | reg (id:Nat) (rows:Option (List Nat)) (ks:List Nat) (ops:List ROp)
 | seq (a b:RC)
 | cond (c:RV) (a b:RC)
 | scope (a:RC)
 | block (id:Nat) (a:RC)
 | loop (a:RC)
 | exit (id:Nat)
 | ret
 | stuck
 | cut (a:RC)
def wV:RC→RC
 | .seq a b=>.seq (wV a) (wV b)
 | .cond c a b=>.cond c (wV a) (wV b)
 | .scope a=>.scope (wV a)
 | .block id a=>.block id (wV a)
 | .loop a=>.loop (wV a)
 | .cut a=>wV a
 | .skip=>.skip
 | .reg id rows ks ops=>.reg id rows ks ops
 | .exit id=>.exit id
 | .ret=>.ret
 | .stuck=>.stuck
def yO (ids:List Nat):RC→RC
 | .seq a b=>.seq (yO ids a) (yO ids b)
 | .cond c a b=>.cond c (yO ids a) (yO ids b)
 | .scope a=>.scope (yO ids a)
 | .block id a=>.block id (yO ids a)
 | .loop a=>.loop (yO ids a)
 | .cut a=>.cut (yO ids a)
 | .skip=>.skip
 | .reg id rows ks ops=>bif ids.contains id then .cut (.reg id rows ks ops) else .reg id rows ks ops
 | .exit id=>.exit id
 | .ret=>.ret
 | .stuck=>.stuck
theorem zw0 (ids:List Nat) (rc:RC):wV (yO ids rc)=wV rc:=by
 induction rc with
 | reg id rows ks ops=>
   unfold yO;cases ids.contains id <;> rfl
 | _=>simp_all [wV,yO]
def jC2 (f g:List Tmp×Option Tmp):Bool:=
 (match f.2 with | some d=>!g.1.contains d&&!(g.2==some d) | none=>true)&&(match g.2 with | some d=>!f.1.contains d | none=>true)
def jK8 (ops:List Oper) (o:Oper):List Tmp×Option Tmp:=(qa3 ops o++JR o.op.operands.toList,o.dst)
def zg1 (f g:List Nat×List Nat):Bool:=
 (f.2.isEmpty&&g.2.isEmpty)||(f.2.all (fun i=>!g.1.contains i&&!g.2.contains i)&&g.2.all (fun i=>!f.1.contains i))
def zY2 (ops:List Oper):Bool:=
 let rows:=ZX ops [] ops
 (ops.zipIdx.all fun (o,j)=>o.after.toList.all fun e=>!Region.binds .any e||e.on<j) &&
 (ops.zipIdx.all fun (o,j)=>ops.zipIdx.all fun (o',i)=>!(decide (i<j))||(rows.getD j 0).testBit i||jC2 (jK8 ops o') (jK8 ops o))
def jv6 (rows:List Nat) (fs:List (List Nat×List Nat)):Bool:=
 fs.all (fun f=>f.2.isEmpty)||fs.zipIdx.all fun (g,j)=>fs.zipIdx.all fun (f,i)=>!(decide (i<j))||(rows.getD j 0).testBit i||zg1 f g
theorem zY3 {ops:List Oper} {rs:List Rec} (hops:rs.map (·.o)=ops) (hst:∀ r∈rs,r.foot.rdT=qa3 ops r.o++JR r.o.op.operands.toList∧r.foot.dst=r.o.dst)
 (h1:zY2 ops=true) (h2:jv6 (ZX ops [] ops) (rs.map dynF)=true):qk9 ops (rs.map (·.foot))=true:=by
 unfold zY2 at h1;simp only[Bq] at h1;unfold qk9;simp only[Bq];refine⟨h1.1,?_⟩;rw[Bk];rintro ⟨g,j⟩ hg;rw[Bk];rintro ⟨f,i⟩ hf;rw[List.mem_zipIdx_iff_getElem?] at hg hf;simp only[DY] at hg hf;cases hj:rs[j]? with
 | none=>simp [hj] at hg
 | some rj=>
   cases hi:rs[i]? with
   | none=>simp [hi] at hf
   | some ri=>
     simp [hj] at hg;simp [hi] at hf;subst hg hf;have hoj:ops[j]?=some rj.o:=by rw[← hops];simp [hj]
     have hoi:ops[i]?=some ri.o:=by rw[← hops];simp [hi]
     have s1:=Bk.1 h1.2 (rj.o,j) (by rw[List.mem_zipIdx_iff_getElem?];exact hoj);have s2:=Bk.1 s1 (ri.o,i) (by rw[List.mem_zipIdx_iff_getElem?];exact hoi);have d2:(!(decide (i<j))||((ZX ops [] ops).getD j 0).testBit i||zg1 (dynF ri) (dynF rj))=true:=by
      unfold jv6 at h2;rw[DZ] at h2;rcases h2 with h2 | h2
      ·have a1:=Bk.1 h2 (dynF ri) (Cj.2 ⟨ri,BX hi,rfl⟩);have a2:=Bk.1 h2 (dynF rj) (Cj.2 ⟨rj,BX hj,rfl⟩);simp only[zg1,a1,a2,Bool.and_self,Bool.true_or,Bool.or_true]
      ·have a1:=Bk.1 h2 (dynF rj,j) (by rw[List.mem_zipIdx_iff_getElem?];simp [hj]);exact Bk.1 a1 (dynF ri,i) (by rw[List.mem_zipIdx_iff_getElem?];simp [hi])
     simp only[DZ] at s2 d2 ⊢
     rcases s2 with s2 | s2
     ·exact .inl s2
     ·rcases d2 with d2 | d2
      ·exact .inl d2
      ·right
       obtain⟨q1,q2⟩:=hst ri (BX hi);obtain⟨p1,p2⟩:=hst rj (BX hj);unfold zW5;unfold jC2 jK8 at s2;rw[q1,q2,p1,p2];simp only[Bq] at s2 ⊢
       refine⟨⟨s2,?_⟩,?_⟩
       ·unfold zg1 dynF at d2;simp only[DZ,Bq] at d2;rcases d2 with⟨d3,d4⟩ | d3
        ·simp only[List.isEmpty_iff] at d3;rw[d3];rfl
        ·exact d3.1
       ·unfold zg1 dynF at d2;simp only[DZ,Bq] at d2;rcases d2 with⟨d3,d4⟩ | d3
        ·simp only[List.isEmpty_iff] at d4;rw[d4];rfl
        ·exact d3.2
def rsvC (P:Program) (n:Nat) (kss:List (Nat×List Nat)):Code→Option RC
 | .skip=>some .skip
 | .label _=>some .skip
 | .region id ops draw=>match zf8 P ops.toList ops.toList with
   | some l=>if jt4 ops.toList n&&zQ6 [] l&&(!draw||zY2 ops.toList) then some (.reg id (if draw then some (ZX ops.toList [] ops.toList) else none) ((get kss id).getD []) l) else some .stuck
   | none=>some .stuck
 | .seq a b=>match rsvC P n kss a,rsvC P n kss b with
   | some x,some y=>some (.seq x y)
   | _,_=>none
 | .cond c a b=>match rsvC P n kss a,rsvC P n kss b with
   | some x,some y=>some (.cond (toRV c) x y)
   | _,_=>none
 | .block id a=>match rsvC P n kss a with
   | some x=>some (.block id x)
   | none=>none
 | .scope a=>match rsvC P n kss a with
   | some x=>some (.scope x)
   | none=>none
 | .loop a=>match rsvC P n kss a with
   | some x=>some (.loop x)
   | none=>none
 | .exit id=>some (.exit id)
 | .ret=>some .ret
 | _=>some .stuck
def entX:List (Nat×T)→XF
 | []=>[]
 | (t,x)::r=>(t,.p x)::entX r
def qa4 (F:XF):List Nat→List (Nat×T)
 | []=>[]
 | t::r=>match get F t with
   | some (.p x)=>(t,x)::qa4 F r
   | _=>qa4 F r
def seqQ (K:St→Prop) (Q:Ex→St→Prop):Ex→St→Prop
 | .normal,s=>K s
 | .exit i,s=>Q (.exit i) s
 | .ret,s=>Q .ret s
def qM9 (rows:Option (List Nat)) (acc:List (List Nat×List Nat)):Prop:=
 match rows with | none=>True | some rows=>jv6 rows acc=true
def WPR (P:Program) (e:Env) (kss:List (Nat×List Nat)) (rc:RC) (s:St) (Q:Ex→St→Prop):Prop:=∀ c,rsvC P e.n kss c=some (wV rc)→WP P e c s Q
def wpC (P:Program) (e:Env) (kss:List (Nat×List Nat)):RC→St→(Ex→St→Prop)→Prop
 | .skip,s,Q=>Q .normal s
 | .reg id rows ks ops,s,Q=>wpR P ((id+1)*4096) ops (entX s.fr) s.st [] fun F st acc=>qM9 rows acc∧Q .normal ⟨qa4 F ks,st⟩
 | .seq a b,s,Q=>wpC P e kss a s (seqQ (fun s=>wpC P e kss b s Q) Q)
 | .cond c a b,s,Q=>match rv s.fr c with
   | .v (.bool t)=>(t=true→wpC P e kss a s Q)∧(t=false→wpC P e kss b s Q)
   | .ub p q=>(p=true→wpC P e kss a s Q)∧(q=true→wpC P e kss b s Q)
   | _=>False
 | .scope a,s,Q=>wpC P e kss a s Q
 | .block id a,s,Q=>wpC P e kss a s (zC3 id Q)
 | .loop a,s,Q=>WPR P e kss (.loop a) s Q
 | .exit id,s,Q=>Q (.exit id) s
 | .ret,s,Q=>Q .ret s
 | .stuck,_,_=>False
 | .cut a,s,Q=>∃ S:St→Prop,LeE e s S∧∀ s',S s'→wpC P e kss a s' Q
section
variable {P:Program} {e:Env} {kss:List (Nat×List Nat)}
theorem zC6 (fr:List (Nat×T)) (t:Nat):get (entX fr) t=(get fr t).map .p:=by
 induction fr with
 | nil=>rfl
 | cons p r ih=>obtain⟨k,x⟩:=p;simp only[entX,get];split <;> simp [ih]
theorem qt0 {F:XF} {fr:List (Nat×T)} (hf:fits fr F):∀ (ks:List Nat) (t:Nat) (x:T),get (qa4 F ks) t=some x→get fr t=some x
 | [],t,x,h=>by simp [qa4,get] at h
 | k::r,t,x,h=>by
   have h0:=hf k;unfold qa4 at h;split at h
   ·rename_i y hy;rw[hy] at h0;simp only[get] at h;split at h
    ·rename_i hk;subst hk;injection h with h;subst h;exact h0
    ·exact qt0 hf r t x h
   ·exact qt0 hf r t x h
theorem Rel.drop {s s':St} {ι:Iota} {a:Act} {w:World} (h:Rel e s ι a w) (hst:s'.st=s.st) (hfr:∀ t x,get s'.fr t=some x→get s.fr t=some x):Rel e s' ι a w:=by
 obtain⟨fr',st'⟩:=s';simp only at hst hfr;subst hst;exact⟨h.size,h.dfr,fun t x hx=>h.fr t x (hfr t x hx),h.ob,h.inj,h.own,h.keep,h.hs,h.sS,h.os,h.tape,h.output,h.gs,h.stab,h.mp⟩
theorem WPR.mono {rc:RC} {s:St} {Q Q':Ex→St→Prop} (h:WPR P e kss rc s Q) (hq:∀ x s,Q x s→Q' x s):WPR P e kss rc s Q':=
 fun c hc=>(h c hc).mono hq
theorem zY4 {id:Nat} {rows:Option (List Nat)} {ks:List Nat} {lr:List ROp} {s:St} {Q:Ex→St→Prop} (hm:P.follows .mixedOrders=true)
 (h:wpR P ((id+1)*4096) lr (entX s.fr) s.st [] fun F st acc=>qM9 rows acc∧Q .normal ⟨qa4 F ks,st⟩):WPR P e kss (.reg id rows ks lr) s Q:=by
 intro c hc;simp only[wV] at hc;unfold rsvC at hc;split at hc <;> try (first | (cases hc;done) | (split at hc <;> cases hc))
 rename_i id' ops draw;split at hc
 ·rename_i l hl;split at hc
  ·rename_i hg;injection hc with hc;injection hc with e1 e2 e3 e4;subst e1 e4;simp only[Bq] at hg;obtain⟨⟨hd,hlate⟩,hdr⟩:=hg;obtain⟨rs,s',F',g1,g2,g3,g4,g5,g6⟩:=jC1 (e:=e) (ops:=ops.toList) ops.toList l ((id'+1)*4096) s (entX s.fr) [] [] _ hl (fun t=>by
    rw[zC6];cases hg:get s.fr t with
    | none=>exact hg
    | some x=>exact hg) (fun t L c x hg=>by
      rw[zC6] at hg;cases hq:get s.fr t <;> simp [hq] at hg) hlate h
   have last:∀ ι a w,Rel e s' ι a w→lift e Q .normal a w:=fun ι a w hR'=>⟨ι,_,hR'.drop (s':=⟨qa4 F' ks,s'.st⟩) rfl (qt0 g4 ks),g6⟩;cases draw with
   | false=>
     intro ι a w hR;refine wp_region_lit ?_;have:wpList P ops (lift e Q) ops.toList a w=wpList P ops.toList.toArray (lift e Q) (rs.map (·.o)) a w:=by rw[g2]
     rw[this];exact g1.list (Wg hd) (fun r hr=>by rw[← g2];exact Cj.2 ⟨r,hr,rfl⟩) hR last
   | true=>
     intro ι a w hR;simp only[if_true] at e2;subst e2;simp only[Bool.not_true,Bool.false_or] at hdr;have hdraw:=zY3 g2 g3 hdr (by simpa [qM9] using g5);have hLf:∀ k,Lf (Array.replicate ops.size false) k=false:=by
      intro k;unfold Lf;simp only[Dq];rw[Array.getElem?_replicate];split <;> simp
     refine wp_region_any hm ?_;have hR':Rel e s ι a { w with drawn:=w.drawn+1 }:=hR.heap rfl rfl rfl rfl;have:=Tr.any g1 g2 hdraw (Wg hd) last ops.size (Array.replicate ops.size false) s ι a _ sMp ?_ hR' (fun t=>?_) (fun j=>?_) ?_
     ·simpa using this
     ·intro j hj o ho ed he hb;simp only[Dq] at hj;rw[Array.getElem?_replicate] at hj;split at hj <;> simp at hj
     ·unfold frAt;rw[wl (i:=0) (Nat.zero_le _) (fun k _ hk=>by rw[hLf k];rfl)]
      rfl
     ·unfold stAt;rw[wl (i:=0) (Nat.zero_le _) (fun k _ hk=>by rw[hLf k];rfl)]
      rfl
     ·unfold unl;simp only[hLf];simp
  ·cases hc
 ·cases hc
theorem zQ9 {n:Nat} (c:Code):∀ rc:RC,rsvC P n kss c=some rc→wV rc=rc:=by
 induction c using rsvC.induct P n kss
 all_goals
  intro rc h;unfold rsvC at h
  try simp_all only[]
  repeat' split at h
  all_goals first
   | (cases h;done)
   | (injection h with h;subst h;rfl)
   | (injection h with h;subst h;simp_all [wV];done)
   | trace_state
theorem qt1 (hm:P.follows .mixedOrders=true):∀ (rc:RC) (s:St) (Q:Ex→St→Prop),wpC P e kss rc s Q→WPR P e kss rc s Q:=by
 intro rc
 induction rc with
 | skip=>
   intro s Q h c hc;simp only[wV] at hc;unfold rsvC at hc;split at hc <;> try (first | (cases hc;done) | (split at hc <;> cases hc;done) | (split at hc <;> (try split at hc) <;> cases hc;done))
   ·exact WP.skip h
   ·exact WP.label h
 | reg id rows ks ops=>intro s Q h;exact zY4 hm h
 | seq a b iha ihb=>
   intro s Q h c hc;simp only[wV] at hc;unfold rsvC at hc;split at hc <;> try (first | (cases hc;done) | (split at hc <;> (try split at hc) <;> cases hc;done))
   rename_i a' b';split at hc
   ·rename_i x y hx hy;injection hc with hc;injection hc with h1 h2;subst h1 h2;refine WP.seq fun K hK=>?_;refine (iha s _ h a' hx).mono ?_;intro ex s' hq;cases ex with
    | normal=>exact hK s' (ihb s' Q hq b' hy)
    | exit i=>exact hq
    | ret=>exact hq
   ·cases hc
 | cond c0 a b iha ihb=>
   intro s Q h c hc;simp only[wV] at hc;unfold rsvC at hc;split at hc <;> try (first | (cases hc;done) | (split at hc <;> (try split at hc) <;> cases hc;done))
   rename_i c' a' b';split at hc
   ·rename_i x y hx hy;injection hc with hc;injection hc with h0 h1 h2;subst h0 h1 h2;simp only[wpC] at h;split at h
    ·rename_i t ht;rw[qY] at ht;exact WP.cond ht (fun hb=>iha s Q (h.1 hb) a' hx) (fun hb=>ihb s Q (h.2 hb) b' hy)
    ·rename_i p q ht;rw[qY] at ht;exact WP.condU ht (fun hb=>iha s Q (h.1 hb) a' hx) (fun hb=>ihb s Q (h.2 hb) b' hy)
    ·exact h.elim
   ·cases hc
 | scope a iha=>
   intro s Q h c hc;simp only[wV] at hc;unfold rsvC at hc;split at hc <;> try (first | (cases hc;done) | (split at hc <;> (try split at hc) <;> cases hc;done))
   rename_i a';split at hc
   ·rename_i x hx;injection hc with hc;injection hc with h1;subst h1;exact WP.scope (iha s _ h a' hx)
   ·cases hc
 | block id a iha=>
   intro s Q h c hc;simp only[wV] at hc;unfold rsvC at hc;split at hc <;> try (first | (cases hc;done) | (split at hc <;> (try split at hc) <;> cases hc;done))
   rename_i id' a';split at hc
   ·rename_i x hx;injection hc with hc;injection hc with h0 h1;subst h0 h1;exact WP.block (iha s _ h a' hx)
   ·cases hc
 | loop a iha=>intro s Q h;exact h
 | exit id=>
   intro s Q h c hc;simp only[wV] at hc;unfold rsvC at hc;split at hc <;> try (first | (cases hc;done) | (split at hc <;> (try split at hc) <;> cases hc;done))
   injection hc with hc;injection hc with hc;subst hc;exact WP.exit h
 | ret=>
   intro s Q h c hc;simp only[wV] at hc;unfold rsvC at hc;split at hc <;> try (first | (cases hc;done) | (split at hc <;> (try split at hc) <;> cases hc;done))
   exact WP.ret h
 | stuck=>intro s Q h;exact h.elim
 | cut a iha=>
   intro s Q h c hc;obtain⟨S,hl,h⟩:=h;intro ι a w hR;obtain⟨s',hs',ι',hR'⟩:=hl ι a w hR;exact iha s' _ (h s' hs') c hc ι' a w hR'
theorem WPR.loop {α:Type} {rc:RC} {s:St} {Q:Ex→St→Prop} (hm:P.follows .mixedOrders=true) (I:α→Prop) (f:α→St) (μ:α→Nat) (x0:α) (h0:I x0) (hs:Le e s (f x0))
 (round:∀ x,I x→wpC P e kss rc (f x) (jt5 e I f μ x Q)):WPR P e kss (.loop rc) s Q:=by
 intro c hc;simp only[wV] at hc;unfold rsvC at hc;split at hc <;> try (first | (cases hc;done) | (split at hc <;> (try split at hc) <;> cases hc;done))
 rename_i a';split at hc
 ·rename_i x hx;injection hc with hc;injection hc with hc;subst hc;exact WP.loop I f μ x0 h0 hs fun x hI=>qt1 hm _ _ _ (round x hI) a' hx
 ·cases hc
end
end Go.TL
