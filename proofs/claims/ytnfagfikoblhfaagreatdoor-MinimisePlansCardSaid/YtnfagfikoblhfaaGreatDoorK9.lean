/- A part of the proof: ZzB ZzC ZzP. -/
import Derived.Carry
import Derived.ProofKit
import Derived.OpenShut
import Derived.HandedShaped
import Derived.Test.YtnfagfikoblhfaaGreatDoorK8
namespace Go.TL
open Go.RowKit Go.ChangeShapes
inductive Sh where
 | int (k:IntKind)
 | bool
 | str
 | sl (k b:Nat) (el:Sh)
 | st (fs:Sh)
 | fnil
 | fcons (n:Nat) (s:Sh) (r:Sh)
def jy5 (ts:List T):Prop:=∀ c∈ts,c.cells=[c]
def oldA (w:World) (a:Addr):Prop:=a.block<w.heap.size
def Rd (w:World) (cs:List Value) (ts:List T):Prop:=ts.length=cs.length∧∀ (j:Nat) (u:Value) (c:T),cs[j]?=some u→ts[j]?=some c→u.oneCell'=true∧Im w (oldA w) u c
theorem Rd.append {w:World} {a b:List Value} {x y:List T} (h1:Rd w a x) (h2:Rd w b y):Rd w (a++b) (x++y):=by
 refine⟨by simp [h1.1,h2.1],fun j u c hu hc=>?_⟩;by_cases hj:j<a.length
 ·rw[BK hj] at hu;rw[BK (by rw[h1.1];exact hj)] at hc;exact h1.2 j u c hu hc
 ·rw[BJ oM] at hu;rw[BJ (by rw[h1.1];omega),h1.1] at hc;exact h2.2 _ u c hu hc
theorem jy6 {w:World} {a:Addr} {u:Value} (h:w.cell? a=some u):oldA w a:=by
 unfold World.cell? at h;unfold oldA;apply AQ
 intro hn;rw[Array.getElem?_eq_none oM] at h;cases h
theorem jn4 {k:Nat}:∀ {xs:List T},(∀ x∈xs,x.cells.length=k)→∀ (i j:Nat) (x:T),xs[i]?=some x→j<k→(flat xs)[i*k+j]?=x.cells[j]?
 | [],_,i,j,x,h,_=>by simp at h
 | y::r,hk,i,j,x,h,hj=>by
   have hy:=hk y sMp;simp only[flat,Gj];cases i with
   | zero=>
     simp at h;subst h;rw[BK oM];simp
   | succ i=>
     rw[BJ (by rw[hy,Nat.succ_mul];omega),hy];have:=jn4 (xs:=r) (fun z hz=>hk z (by simp [hz])) i j x (by simpa using h) hj;rw[show (i+1)*k+j-k=i*k+j by rw[Nat.succ_mul];omega];exact this
section
variable {H:Type} {enc:TypeId×Value→H} {P:Program} {w:World} {spare:Nat→Bool} {held:Bool}
theorem qk0 {e:TypeId} {d:DataW H}:∀ {l:List (DataW H)},d∈l→∀ {y:Nat},y∈d.weights P e→y∈DataW.weightsAll P e l
 | [],h,_,_=>by simp at h
 | x::r,h,y,hy=>by
   simp only[DataW.weightsAll,Dz];rcases Ck.1 h with h | h
   ·subst h;exact .inl hy
   ·exact .inr (qk0 h hy)
end
end Go.TL
namespace Go.TL
open Go.RowKit Go.ChangeShapes
section
variable {H:Type} {enc:TypeId×Value→H} {P:Program}
theorem qE8 (hl:laidOutB P=true) {W W':World} {sp:Nat→Bool} (hsame:∀ p:MemPlace,p.block<W.heap.size→W.sameAt W' p):∀ (ts:List TypeId) (vs:List Value) (ds:List (DataW H)) (ps:List MemPlace),
 DataW.TrodAll enc P W 0 (fun _=>true) true ts vs ds ps→(∀ t∈ts,P.readableRec t=true∧t<P.types.size)→(∀ p∈ps,p.block<W.heap.size)→(∀ p∈ps,sp p.block=true)→DataW.TrodAll enc P W' 0 sp true ts vs ds ps
 | [],vs,ds,ps,h,_,_,_=>by
   obtain⟨rfl,rfl,rfl⟩:=trodAll_nil h;exact trodAll_mk0
 | t::ts,vs,ds,ps,h,ht,hp,hsp=>by
   obtain⟨v,vs',d,ds',p,q,rfl,rfl,rfl,h1,h2⟩:=trodAll_cons h;refine trodAll_cons_mk (WideElems.Trod_stays hl (ht t sMp).1 (ht t sMp).2 h1 (fun x hx=>hsame x (hp x (by simp [hx]))) (fun x hx=>hsp x (by simp [hx]))) ?_;exact qE8 hl hsame ts vs' ds' q h2 (fun u hu=>ht u (by simp [hu])) (fun x hx=>hp x (by simp [hx])) (fun x hx=>hsp x (by simp [hx]))
theorem jn5 {f:Func} {s:ChangeSpec} {apart fresh handsOn again:Bool} {W W':World} {args:Array Value} {ds gs:List (DataW H)} {before:List MemPlace} {tb:TypeId}
 (hl:laidOutB P=true) (hpar:∀ t∈f.params.toList,P.readableRec t=true∧t<P.types.size) (hrt:f.resultTypes=#[tb]) (htb:P.underlying tb=some .bool) (hvars:s.vars=[])
 (hfn:s.fn H (ds++gs)={ results:=[.lit (.bool true)],args:=ds }) (hW:DataW.Whole enc P f.params.toList s.vars apart W args.toList ds gs before) (hb:Below W.heap.size W W') :
 s.post enc P f apart fresh handsOn again W args (.bool true) W':=by
 have hlt:=hW.lt;have hW0:=hW;obtain⟨p,q,hA,hV,hpq,hz,hn⟩:=hW;rw[hvars] at hV;obtain⟨rfl,rfl⟩:=trodVars_none hV;rw[CW] at hpq;subst hpq;have hargs:∀ sp:Nat→Bool,(∀ x∈before,sp x.block=true)→DataW.TrodAll enc P W' 0 sp true f.params.toList args.toList ds before:=fun sp hsp=>
  qE8 hl (fun x hx=>hb.same hx) _ _ _ _ hA hpar hlt hsp
 have hold:∀ x∈before,(fun b=>decide (b<W.heap.size)) x.block=true:=fun x hx=>by simpa using hlt x hx
 have hres:∀ (b:Nat) (sp:Nat→Bool) (hd:Bool),DataW.TrodAll enc P W' b sp hd f.resultTypes.toList ((Value.bool true).resultList f.resultTypes.size) [.lit (.bool true)] []:=by
  intro b sp hd;rw[hrt];exact trodAll_cons_mk (RowKit.shut_bool htb true) trodAll_mk0
 refine⟨ds,[],before,[],before,[],hW0,by rw[hfn];exact hres _ _ _,by rw[hfn];exact hargs _ hold,?_,World.keptBut_mono (fun x hx=>⟨hx,.inr (.inl hx)⟩) (hb.frame _),fun _=>⟨?_,?_⟩⟩
 ·rw[hfn,hvars];rfl
 ·intro j t r hj hr;rw[hrt] at hj hr;cases j with
  | zero=>
    simp [Value.resultList] at hj hr;subst hj hr;simp [Value.okWide,htb,Cell.okWide,Cell.ok]
  | succ j=>simp at hj
 ·refine⟨[.lit (.bool true)]++ds,[],before,⟨[]++before,[],trodAll_append (hargs _ (fun _ _=>rfl)) (hres _ _ _),by rw[hvars];rfl,sMp,fun b off hp=>?_,hn⟩,fun x hx _=>hx⟩;rw[hb.frozen (hlt _ hp)];exact hz b off hp
theorem zY0 {f:FuncId} {W:World} {args:Array Value} {ts:List T} (hs:Spc P f ts [] (vB true) []) (hn:args.size=ts.length) (ha:∀ (j:Nat) (v:Value) (x:T),args[j]?=some v→ts[j]?=some x→Rp [] (fun _=>none) W (oldA W) v x) :
 Calls P f args W fun en w'=>en = .returned (.bool true)∧Below W.heap.size W w':=by
 refine (hs.2.2 (oldA W) (fun _=>none) W args ?_).mono ?_
 ·refine⟨hn,rfl,fun t x hx=>?_,fun id o h=>by simp [TL.get] at h,fun id id' k xs fz k' xs' fz' b c c' h=>by simp [TL.get] at h,fun id k xs fz b c h=>by simp [TL.get] at h,fun b hb _=>rfl,BZ _,fun a ha=>⟨ha,?_⟩,rfl,rfl,rfl,.refl _ _,fun x hx=>⟨hx,fun u hu=>hu⟩,⟨fun id es b c h=>by simp [TL.get] at h,fun id id' es es' b c c' h=>by simp [TL.get] at h⟩⟩
  ·simp only[qq0,Nat.zero_le,if_true,Nat.sub_zero] at hx;have ht:t<ts.length:=(List.getElem?_eq_some_iff.1 hx).1;have hat:args[t]?=some args[t]:=by rw[Ej oM]
   have:=ha t args[t] x hat hx;have h1:args.getD t undef=args[t]:=by simp [Dq,hat]
   rw[h1];exact this.mono (fun a ha=>⟨.inl ha,fun u hu=>hu⟩) (Goes.refl _ _)
  ·rintro ⟨id,k,xs,fz,c,h,_⟩;simp [TL.get] at h
 ·rintro en w' ⟨v,ι',rfl,hR⟩;have hv:v = .bool true:=by
   have:=hR.fr 0 (vB true) (by simp [TL.get]);simpa using this.v_inv
  subst hv;exact⟨rfl,hR.os,hR.tape,hR.output,hR.hs,fun k hk=>hR.keep k hk (by rintro ⟨id,k,xs,fz,c,h,_⟩;simp [TL.get] at h)⟩
end
end Go.TL
namespace Go.TL
theorem jX5 {n:Int} (h:(Lit.int .u8 n).wf=true):0≤n∧n≤255:=by
 simpa [Lit.wf,IntKind.min,IntKind.max,IntKind.signed,IntKind.bits] using h
end Go.TL
namespace Go.TL
end Go.TL
namespace Go.TL
end Go.TL
