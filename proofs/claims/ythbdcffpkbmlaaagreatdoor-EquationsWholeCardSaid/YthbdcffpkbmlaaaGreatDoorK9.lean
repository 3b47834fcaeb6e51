/- A part of the proof: ZzB ZzC ZzP. -/
import Derived.Carry
import Derived.ProofKit
import Derived.OpenShut
import Derived.HandedShaped
import Derived.Test.YthbdcffpkbmlaaaGreatDoorK8
namespace Go.TL
open Go.RowKit Go.ChangeShapes
inductive Sh where
 | int (k:IntKind)
 | bool
 | str
 | sl (k b:Nat) (el:Sh)
 | st (fs:Sh)
 | fnil
 | fcons (n:Nat) (s:Sh) (r:Sh)
def wY (s:Sh) (cs:List T):T:=match s with
 | .st _=>.agg cs
 | _=>cs.headD .junk
def Fits:Sh→List T→Prop
 | .int k,ts=>∃ n,ts=[.v (.int k n)]∧(Lit.int k n).wf=true
 | .bool,ts=>∃ b,ts=[.v (.bool b)]
 | .str,ts=>∃ s:ByteArray,ts=[.v (.string s)]∧s.size≤140737488351232
 | .sl k b s,ts=>∃ xs:List (List T),ts=[.sl k (xs.map (wY s))]∧xs.length*b≤140737488351232∧xs.length≤9223372036854775807∧∀ x∈xs,x.length=k∧Fits s x
 | .st fs,ts=>Fits fs ts
 | .fnil,ts=>ts=[]
 | .fcons n s r,ts=>∃ a b,ts=a++b∧a.length=n∧Fits s a∧Fits r b
def shFs (P:Program) (sh:TypeId→Option Sh):Nat→List Field→Option Sh
 | off,[]=>some .fnil
 | off,f::r=>if f.offset=off then match sh f.type,shFs P sh (off+P.cellsOf f.type) r with
   | some s,some l=>some (.fcons (P.cellsOf f.type) s l)
   | _,_=>none
   else none
def qD0:Sh→Nat
 | .fcons n _ r=>n+qD0 r
 | _=>0
def shOf (P:Program):Nat→TypeId→Option Sh
 | 0,_=>none
 | n+1,t=>match P.underlying t with
   | some .bool=>some .bool
   | some (.int k)=>some (.int k)
   | some .string=>some .str
   | some (.slice e)=>(shOf P n e).map fun s=>.sl (P.cellsOf e) (P.bytesOf e) s
   | some (.struct fs)=>match shFs P (shOf P n) 0 fs.toList with
     | some s=>if P.cellsOf t=qD0 s then some (.st s) else none
     | none=>none
   | _=>none
def jL7:Sh→Bool
 | .st _=>true
 | _=>false
def isF:Sh→Bool
 | .fnil=>true
 | .fcons ..=>true
 | _=>false
theorem zl6 {P:Program} {n:Nat} {t:TypeId} {s:Sh} (h:shOf P n t=some s):isF s=false:=by
 cases n with
 | zero=>simp [shOf] at h
 | succ n=>
   simp only[shOf] at h;split at h <;> first | (injection h with h;subst h;rfl) | (cases h;done) | skip
   ·simp only[EJ] at h;obtain⟨_,_,rfl⟩:=h;rfl
   ·split at h
    ·split at h
     ·injection h with h;subst h;rfl
     ·cases h
    ·cases h
def jT6 (ts:List T):Prop:=∀ c∈ts,c.cells=[c]
theorem jh9:∀ (s:Sh) (ts:List T),Fits s ts→jT6 ts:=by
 intro s
 induction s with
 | int k=>rintro ts ⟨n,rfl,_⟩ c hc;simp at hc;subst hc;rfl
 | bool=>rintro ts ⟨n,rfl⟩ c hc;simp at hc;subst hc;rfl
 | str=>rintro ts ⟨n,rfl,_⟩ c hc;simp at hc;subst hc;rfl
 | sl k b s ih=>rintro ts ⟨xs,rfl,_⟩ c hc;simp at hc;subst hc;rfl
 | st fs ih=>intro ts h;exact ih ts h
 | fnil=>intro ts h c hc;simp only[Fits] at h;subst h;simp at hc
 | fcons n s r ih1 ih2=>
   rintro ts ⟨a,b,rfl,_,h1,h2⟩ c hc;rcases Dz.1 hc with hc | hc
   ·exact ih1 a h1 c hc
   ·exact ih2 b h2 c hc
theorem zJ7 {s:Sh} (hr:jL7 s=false) (hf:isF s=false) {ts:List T} (h:Fits s ts):∃ c,ts=[c]:=by
 cases s with
 | int k=>obtain⟨n,rfl,_⟩:=h;exact⟨_,rfl⟩
 | bool=>obtain⟨n,rfl⟩:=h;exact⟨_,rfl⟩
 | str=>obtain⟨n,rfl,_⟩:=h;exact⟨_,rfl⟩
 | sl k b s=>obtain⟨n,rfl,_⟩:=h;exact⟨_,rfl⟩
 | st fs=>cases hr
 | fnil=>cases hf
 | fcons n s r=>cases hf
theorem qb1 {s:Sh} (hf:isF s=false) {ts:List T} (h:Fits s ts):(wY s ts).cells=ts:=by
 cases hr:jL7 s with
 | true=>cases s <;> first | (cases hr;done) | rfl
 | false=>
   obtain⟨c,rfl⟩:=zJ7 hr hf h;have:=jh9 s _ h c sMp;cases s <;> first | (cases hr;done) | exact this
def oldA (w:World) (a:Addr):Prop:=a.block<w.heap.size
def Rd (w:World) (cs:List Value) (ts:List T):Prop:=ts.length=cs.length∧∀ (j:Nat) (u:Value) (c:T),cs[j]?=some u→ts[j]?=some c→u.oneCell'=true∧Im w (oldA w) u c
theorem Rd.append {w:World} {a b:List Value} {x y:List T} (h1:Rd w a x) (h2:Rd w b y):Rd w (a++b) (x++y):=by
 refine⟨by simp [h1.1,h2.1],fun j u c hu hc=>?_⟩;by_cases hj:j<a.length
 ·rw[BK hj] at hu;rw[BK (by rw[h1.1];exact hj)] at hc;exact h1.2 j u c hu hc
 ·rw[BJ oM] at hu;rw[BJ (by rw[h1.1];omega),h1.1] at hc;exact h2.2 _ u c hu hc
theorem jw1 {w:World} {a:Addr} {u:Value} (h:w.cell? a=some u):oldA w a:=by
 unfold World.cell? at h;unfold oldA;apply AQ
 intro hn;rw[Array.getElem?_eq_none oM] at h;cases h
theorem ji0 {k:Nat}:∀ {xs:List T},(∀ x∈xs,x.cells.length=k)→∀ (i j:Nat) (x:T),xs[i]?=some x→j<k→(flat xs)[i*k+j]?=x.cells[j]?
 | [],_,i,j,x,h,_=>by simp at h
 | y::r,hk,i,j,x,h,hj=>by
   have hy:=hk y sMp;simp only[flat,Gq];cases i with
   | zero=>
     simp at h;subst h;rw[BK oM];simp
   | succ i=>
     rw[BJ (by rw[hy,Nat.succ_mul];omega),hy];have:=ji0 (xs:=r) (fun z hz=>hk z (by simp [hz])) i j x (by simpa using h) hj;rw[show (i+1)*k+j-k=i*k+j by rw[Nat.succ_mul];omega];exact this
section
variable {H:Type} {enc:TypeId×Value→H} {P:Program} {w:World} {spare:Nat→Bool} {held:Bool}
theorem WJ {e:TypeId} {d:DataW H}:∀ {l:List (DataW H)},d∈l→∀ {y:Nat},y∈d.weights P e→y∈DataW.weightsAll P e l
 | [],h,_,_=>by simp at h
 | x::r,h,y,hy=>by
   simp only[DataW.weightsAll,Dz];rcases Ck.1 h with h | h
   ·subst h;exact .inl hy
   ·exact .inr (WJ h hy)
theorem qu9 {fuel n:Nat} (ih:∀ (t:TypeId) (cs:List Value) (d:DataW H) (ps:List MemPlace) (s:Sh),DataW.trod enc P w 0 spare held fuel t cs=some (d,ps)→shOf P n t=some s→(∀ x∈d.weights P t,x≤reachBytes)→∃ ts,Fits s ts∧Rd w cs ts) (cs:List Value) :
 ∀ (fs:List Field) (off:Nat) (s:Sh) (xs:List (DataW H×List MemPlace)),shFs P (shOf P n) off fs=some s→fs.mapM (fun f=>DataW.trod enc P w 0 spare held fuel f.type ((cs.drop f.offset).take (P.cellsOf f.type)))=some xs→off+qD0 s≤cs.length→(∀ x∈DataW.weightsEach P (fs.map (·.type)) (xs.map (·.1)),x≤reachBytes)→
  ∃ ts,Fits s ts∧Rd w ((cs.drop off).take (qD0 s)) ts
 | [],off,s,xs,h1,h2,h3,h4=>by
   simp only[shFs,Option.some.injEq] at h1;subst h1;exact⟨[],rfl,by simp [qD0,Rd]⟩
 | f::r,off,s,xs,h1,h2,h3,h4=>by
   simp only[shFs] at h1;split at h1
   ·rename_i ho;split at h1
    ·rename_i s1 l hs1 hl;injection h1 with h1;subst h1;simp only[List.mapM_cons,Option.bind_eq_bind,Option.bind_eq_some_iff,Option.pure_def,Option.some.injEq] at h2;obtain⟨x,hx,ys,hys,rfl⟩:=h2;simp only[qD0] at h3;simp only[List.map_cons,DataW.weightsEach,Dz] at h4;obtain⟨ts1,f1,r1⟩:=ih f.type _ x.1 x.2 s1 hx hs1 (fun y hy=>h4 y (.inl hy));obtain⟨ts2,f2,r2⟩:=qu9 ih cs r _ l ys hl hys oM (fun y hy=>h4 y (.inr hy));rw[ho] at r1;have hlen:ts1.length=P.cellsOf f.type:=by rw[r1.1];simp;omega
     refine⟨ts1++ts2,⟨ts1,ts2,rfl,hlen,f1,f2⟩,?_⟩;have:(cs.drop off).take (qD0 (.fcons (P.cellsOf f.type) s1 l))=(cs.drop off).take (P.cellsOf f.type)++(cs.drop (off+P.cellsOf f.type)).take (qD0 l):=by
      simp only[qD0];rw[List.take_add,List.drop_drop]
     rw[this];exact r1.append r2
    ·cases h1
   ·cases h1
theorem zl7:∀ (fuel n:Nat) (t:TypeId) (cs:List Value) (d:DataW H) (ps:List MemPlace) (s:Sh),
 DataW.trod enc P w 0 spare held fuel t cs=some (d,ps)→shOf P n t=some s→(∀ x∈d.weights P t,x≤reachBytes)→∃ ts,Fits s ts∧Rd w cs ts
 | 0,_,_,_,_,_,_,h,_,_=>by simp [DataW.trod] at h
 | fuel+1,0,_,_,_,_,_,_,h,_=>by simp [shOf] at h
 | fuel+1,n+1,t,cs,d,ps,s,h,hs,hw=>by
   have IH:=fun t cs d ps s=>zl7 fuel n t cs d ps s;have one:∀ v:Value,v.oneCell'=true→Rd w [v] [.v v]:=by
    intro v hv;refine⟨rfl,fun j u c hu hc=>?_⟩;cases j with
    | zero=>simp at hu hc;subst hu hc;exact⟨hv,.v v⟩
    | succ j=>simp at hu
   simp only[shOf] at hs;unfold DataW.trod at h;split at h
   ·rename_i b hu;rw[hu] at hs;injection hs with hs;subst hs
    exact⟨[.v (.bool b)],⟨b,rfl⟩,one _ rfl⟩
   ·rename_i k k' m hu;rw[hu] at hs;injection hs with hs;subst hs
    split at h
    ·rename_i hk;obtain⟨rfl,hk⟩:=hk;exact⟨[.v (.int k' m)],⟨m,rfl,hk⟩,one _ rfl⟩
    ·cases h
   ·rename_i hu;rw[hu] at hs;cases hs
   ·rename_i str hu;rw[hu] at hs;injection hs with hs;subst hs
    split at h
    ·rename_i hk;injection h with h;injection h with h1 h2;subst h1;have:=hw str.data.toList.length (by simp [DataW.weights]);exact⟨[.v (.string str)],⟨str,rfl,by simp [reachBytes] at this;exact this⟩,one _ rfl⟩
    ·cases h
   ·rename_i hu;rw[hu] at hs;cases hs
   ·rename_i hu;rw[hu] at hs;cases hs
   ·rename_i el hu;rw[hu] at hs;simp only[EJ] at hs;obtain⟨s1,hs1,rfl⟩:=hs;refine⟨[.sl (P.cellsOf el) []],⟨[],rfl,sMp,sMp,sMp⟩,rfl,fun j u c hu hc=>?_⟩;cases j with
    | zero=>
      simp at hu hc;subst hu hc;exact⟨rfl,.sl none 0 0 _ [] [] rfl (BZ _) sMp (by simp [flat]) sMp sMp sMp⟩
    | succ j=>simp at hu
   ·rename_i el a len cap hu;rw[hu] at hs;simp only[EJ] at hs;obtain⟨s1,hs1,rfl⟩:=hs;simp only at h;split at h
    ·rename_i hg;obtain⟨_,hlc,hcm⟩:=hg;simp only[Option.bind_eq_some_iff,EJ] at h;obtain⟨elems,he,rest,_,hdp⟩:=h;injection hdp with hd1 hd2;subst hd1;have hel:=mapM_some_length he;simp only[List.length_range] at hel;have each:∀ i,i<len→∃ cs ts,w.cells? 0 (a.add (i*P.cellsOf el)) (P.cellsOf el)=some cs∧Fits s1 ts∧Rd w cs ts:=by
      intro i hi;have:=mapM_some_get he i i (by simp [hi]);rw[CK oM] at this;simp only[Option.bind_eq_some_iff] at this;obtain⟨cs,hcs,htr⟩:=this;obtain⟨ts,h1,h2⟩:=IH el cs elems[i].1 elems[i].2 s1 htr hs1 (fun y hy=>by
       refine hw y ?_;simp only[DataW.weights,hu];refine CQ _ (List.mem_append_left _ (WJ (d:=elems[i].1) (Cj.2 ⟨elems[i],AX _,rfl⟩) hy)))
      exact⟨cs,ts,hcs,h1,h2⟩
     have hF:=zl6 hs1
     let cf:Nat→List Value:=fun i=>if h:i<len then Classical.choose (each i h) else []
     let tf:Nat→List T:=fun i=>if h:i<len then Classical.choose (Classical.choose_spec (each i h)) else []
     have hcf:∀ i,i<len→w.cells? 0 (a.add (i*P.cellsOf el)) (P.cellsOf el)=some (cf i)∧Fits s1 (tf i)∧Rd w (cf i) (tf i):=by
      intro i hi;have:=Classical.choose_spec (Classical.choose_spec (each i hi));simp only[cf,tf,dif_pos hi];exact this
     have htl:∀ i,i<len→(tf i).length=P.cellsOf el:=by
      intro i hi;obtain⟨h1,h2,h3⟩:=hcf i hi;rw[h3.1];exact (World.cells?_some h1).2.1
     let xs:List (List T):=(List.range len).map tf
     have hxl:xs.length=len:=by simp [xs]
     have hmap:∀ x∈xs.map (wY s1),x.cells.length=P.cellsOf el:=by
      intro x hx;simp only[xs,Gz,Cj,Dk,Function.comp] at hx;obtain⟨i,hi,rfl⟩:=hx;rw[qb1 hF (hcf i hi).2.1];exact htl i hi
     refine⟨[.sl (P.cellsOf el) (xs.map (wY s1))],⟨xs,rfl,?_,by have:maxLen=9223372036854775807:=rfl;omega,?_⟩,rfl,fun j u c hu hc=>?_⟩
     ·have:=hw ((elems.length+rest.length)*P.bytesOf el) (by simp [DataW.weights,hu]);rw[hxl,← hel];have h1:elems.length*P.bytesOf el≤(elems.length+rest.length)*P.bytesOf el:=CZ _ (Nat.le_add_right _ _);have:reachBytes=140737488351232:=rfl;omega
     ·intro x hx;simp only[xs,Cj,Dk] at hx;obtain⟨i,hi,rfl⟩:=hx;exact⟨htl i hi,(hcf i hi).2.1⟩
     ·cases j with
      | succ j=>simp at hu
      | zero=>
        simp at hu hc;subst hu hc;refine⟨rfl,?_⟩;have hfl:(flat (xs.map (wY s1))).length=len*P.cellsOf el:=by rw[qH hmap];simp [hxl]
        have key:∀ m,m<len*P.cellsOf el→∃ i j,i<len∧j<P.cellsOf el∧m=i*P.cellsOf el+j:=by
         intro m hm;have hk:0<P.cellsOf el:=by
          rcases DQ (P.cellsOf el) with h0 | h0
          ·rw[h0] at hm;simp at hm
          ·exact h0
         refine⟨m / P.cellsOf el,m % P.cellsOf el,?_,Nat.mod_lt _ hk,?_⟩
         ·rw[Nat.div_lt_iff_lt_mul hk];exact hm
         ·rw[Nat.mul_comm];exact (Nat.div_add_mod m _).symm
        have cellAt:∀ i j,i<len→j<P.cellsOf el→w.cell? (a.add (i*P.cellsOf el+j))=(cf i)[j]?:=by
         intro i j hi hj;have:=(World.cells?_some (hcf i hi).1).2.2 j hj;have e1:(a.add (i*P.cellsOf el)).add j=a.add (i*P.cellsOf el+j):=by
          unfold Addr.add;by_cases q1:i*P.cellsOf el=0 <;> by_cases q2:j=0 <;> simp [q1,q2,Nat.add_assoc]
         rw[e1] at this;exact this
        refine .sl (some a) len cap _ (xs.map (wY s1)) ((List.range (len*P.cellsOf el)).map fun m=>(w.cell? (a.add m)).getD undef) (by simp [hxl]) hlc hmap (by rw[hfl];simp) sMp (fun m u hu=>?_) (fun m u c hu hc=>?_)
        ·simp only[DY,EJ] at hu;obtain⟨m',hm',rfl⟩:=hu;have hm:m<len*P.cellsOf el:=by
          have:=(List.getElem?_eq_some_iff.1 hm').1;simpa using this
         have:m'=m:=by rw[List.getElem?_range hm] at hm';injection hm' with h;exact h.symm
         subst this;obtain⟨i,j,hi,hj,rfl⟩:=key m' hm;have hc1:=cellAt i j hi hj;have hlen:(cf i).length=P.cellsOf el:=(World.cells?_some (hcf i hi).1).2.1;rw[CK oM] at hc1;obtain⟨c,hc⟩:∃ c,(tf i)[j]?=some c:=⟨(tf i)[j]'(by rw[htl i hi];exact hj),by simp [htl i hi,hj]⟩;have:=((hcf i hi).2.2.2 j _ c (by rw[CK oM]) hc).1;refine⟨a,rfl,jw1 hc1,?_,?_⟩
         ·rw[hc1];rfl
         ·rw[hc1];exact this
        ·simp only[DY,EJ] at hu;obtain⟨m',hm',rfl⟩:=hu;have hm:m<len*P.cellsOf el:=by
          have:=(List.getElem?_eq_some_iff.1 hm').1;simpa using this
         have:m'=m:=by rw[List.getElem?_range hm] at hm';injection hm' with h;exact h.symm
         subst this;obtain⟨i,j,hi,hj,rfl⟩:=key m' hm;have hc1:=cellAt i j hi hj;have hlen:(cf i).length=P.cellsOf el:=(World.cells?_some (hcf i hi).1).2.1;rw[CK oM] at hc1;rw[hc1];have hxi:(xs.map (wY s1))[i]?=some (wY s1 (tf i)):=by simp [xs,hi]
         rw[ji0 hmap i j _ hxi hj,qb1 hF (hcf i hi).2.1] at hc;exact ((hcf i hi).2.2.2 j _ c (by rw[CK oM];rfl) hc).2
    ·cases h
   ·rename_i cs x0 cs1 fs hu;rw[hu] at hs;obtain⟨s1,hs1,hl,rfl⟩:∃ s1,shFs P (shOf P n) 0 fs.toList=some s1∧P.cellsOf t=qD0 s1∧s = .st s1:=by
     simp only at hs;split at hs
     ·rename_i s1 hs1;split at hs
      ·rename_i hl;injection hs with hs;exact⟨s1,hs1,hl,hs.symm⟩
      ·cases hs
     ·cases hs
    split at h
    ·rename_i hlen;simp only[EJ] at h;obtain⟨xs,hxs,hdp⟩:=h;injection hdp with hd1 hd2;subst hd1;obtain⟨ts,f1,r1⟩:=qu9 IH cs fs.toList 0 s1 xs hs1 hxs oM (by simpa [DataW.weights,hu] using hw);refine⟨ts,f1,?_⟩;rw[List.drop_zero,List.take_of_length_le oM] at r1;exact r1
    ·cases h
   all_goals (first | (rename_i hu;rw[hu] at hs;cases hs;done) | (rename_i hu _;rw[hu] at hs;cases hs;done) | (cases h;done) | skip)
end
end Go.TL
namespace Go.TL
open Go.RowKit Go.ChangeShapes
section
variable {H:Type} {enc:TypeId×Value→H} {P:Program}
theorem qm0 (hl:laidOutB P=true) {W W':World} {sp:Nat→Bool} (hsame:∀ p:MemPlace,p.block<W.heap.size→W.sameAt W' p):∀ (ts:List TypeId) (vs:List Value) (ds:List (DataW H)) (ps:List MemPlace),
 DataW.TrodAll enc P W 0 (fun _=>true) true ts vs ds ps→(∀ t∈ts,P.readableRec t=true∧t<P.types.size)→(∀ p∈ps,p.block<W.heap.size)→(∀ p∈ps,sp p.block=true)→DataW.TrodAll enc P W' 0 sp true ts vs ds ps
 | [],vs,ds,ps,h,_,_,_=>by
   obtain⟨rfl,rfl,rfl⟩:=trodAll_nil h;exact trodAll_mk0
 | t::ts,vs,ds,ps,h,ht,hp,hsp=>by
   obtain⟨v,vs',d,ds',p,q,rfl,rfl,rfl,h1,h2⟩:=trodAll_cons h;refine trodAll_cons_mk (WideElems.Trod_stays hl (ht t sMp).1 (ht t sMp).2 h1 (fun x hx=>hsame x (hp x (by simp [hx]))) (fun x hx=>hsp x (by simp [hx]))) ?_;exact qm0 hl hsame ts vs' ds' q h2 (fun u hu=>ht u (by simp [hu])) (fun x hx=>hp x (by simp [hx])) (fun x hx=>hsp x (by simp [hx]))
theorem ji1 {f:Func} {s:ChangeSpec} {apart fresh handsOn again:Bool} {W W':World} {args:Array Value} {ds gs:List (DataW H)} {before:List MemPlace} {tb:TypeId}
 (hl:laidOutB P=true) (hpar:∀ t∈f.params.toList,P.readableRec t=true∧t<P.types.size) (hrt:f.resultTypes=#[tb]) (htb:P.underlying tb=some .bool) (hvars:s.vars=[])
 (hfn:s.fn H (ds++gs)={ results:=[.lit (.bool true)],args:=ds }) (hW:DataW.Whole enc P f.params.toList s.vars apart W args.toList ds gs before) (hb:Below W.heap.size W W') :
 s.post enc P f apart fresh handsOn again W args (.bool true) W':=by
 have hlt:=hW.lt;have hW0:=hW;obtain⟨p,q,hA,hV,hpq,hz,hn⟩:=hW;rw[hvars] at hV;obtain⟨rfl,rfl⟩:=trodVars_none hV;rw[CW] at hpq;subst hpq;have hargs:∀ sp:Nat→Bool,(∀ x∈before,sp x.block=true)→DataW.TrodAll enc P W' 0 sp true f.params.toList args.toList ds before:=fun sp hsp=>
  qm0 hl (fun x hx=>hb.same hx) _ _ _ _ hA hpar hlt hsp
 have hold:∀ x∈before,(fun b=>decide (b<W.heap.size)) x.block=true:=fun x hx=>by simpa using hlt x hx
 have hres:∀ (b:Nat) (sp:Nat→Bool) (hd:Bool),DataW.TrodAll enc P W' b sp hd f.resultTypes.toList ((Value.bool true).resultList f.resultTypes.size) [.lit (.bool true)] []:=by
  intro b sp hd;rw[hrt];exact trodAll_cons_mk (RowKit.shut_bool htb true) trodAll_mk0
 refine⟨ds,[],before,[],before,[],hW0,by rw[hfn];exact hres _ _ _,by rw[hfn];exact hargs _ hold,?_,World.keptBut_mono (fun x hx=>⟨hx,.inr (.inl hx)⟩) (hb.frame _),fun _=>⟨?_,?_⟩⟩
 ·rw[hfn,hvars];rfl
 ·intro j t r hj hr;rw[hrt] at hj hr;cases j with
  | zero=>
    simp [Value.resultList] at hj hr;subst hj hr;simp [Value.okWide,htb,Cell.okWide,Cell.ok]
  | succ j=>simp at hj
 ·refine⟨[.lit (.bool true)]++ds,[],before,⟨[]++before,[],trodAll_append (hargs _ (fun _ _=>rfl)) (hres _ _ _),by rw[hvars];rfl,sMp,fun b off hp=>?_,hn⟩,fun x hx _=>hx⟩;rw[hb.frozen (hlt _ hp)];exact hz b off hp
def WW:List Sh→List (List T)→Prop
 | [],[]=>True
 | s::ss,t::ts=>Fits s t∧WW ss ts
 | _,_=>False
def Kw:List Sh→List (List T)→List T
 | s::ss,t::ts=>wY s t::Kw ss ts
 | _,_=>[]
def zR2 (P:Program):List TypeId→Option (List Sh)
 | []=>some []
 | t::ts=>match shOf P 30 t,zR2 P ts with
   | some s,some l=>some (s::l)
   | _,_=>none
theorem qm1 {W:World} {base:Nat}:∀ (ts:List TypeId) (shs:List Sh) (vs:List Value) (ds:List (DataW H)) (ps:List MemPlace),zR2 P ts=some shs→DataW.TrodAll enc P W 0 (fun _=>true) true ts vs ds ps→
 (∀ (j:Nat) t v,ts[j]?=some t→vs[j]?=some v→Value.okWide P W .any base t v)→(∀ x∈DataW.weightsEach P ts ds,x≤reachBytes)→
 ∃ tss,WW shs tss∧(Kw shs tss).length=vs.length∧∀ (j:Nat) (v:Value) (x:T),vs[j]?=some v→(Kw shs tss)[j]?=some x→Rp [] (fun _=>none) W (oldA W) v x
 | [],shs,vs,ds,ps,hs,h,_,_=>by
   obtain⟨rfl,rfl,rfl⟩:=trodAll_nil h;simp only[zR2,Option.some.injEq] at hs;subst hs;exact⟨[],trivial,rfl,fun j v x hv=>by simp at hv⟩
 | t::ts,shs,vs,ds,ps,hs,h,hok,hw=>by
   obtain⟨v,vs',d,ds',p,q,rfl,rfl,rfl,h1,h2⟩:=trodAll_cons h;simp only[zR2] at hs;split at hs
   ·rename_i s l hs1 hs2;injection hs with hs;subst hs;simp only[DataW.weightsEach,Dz] at hw;obtain⟨tss,i1,i2,i3⟩:=qm1 ts l vs' ds' q hs2 h2 (fun j t' v' ht hv=>hok (j+1) t' v' (by simpa using ht) (by simpa using hv)) (fun x hx=>hw x (.inr hx));obtain⟨fuel,h1⟩:=h1;obtain⟨cs,f1,r1⟩:=zl7 fuel 30 t v.cells.toList d p s h1 hs1 (fun x hx=>hw x (.inl hx));refine⟨cs::tss,⟨f1,i1⟩,by simp [Kw,i2],fun j u x hu hx=>?_⟩;cases j with
    | succ j=>exact i3 j u x (by simpa using hu) (by simpa [Kw] using hx)
    | zero=>
      simp [Kw] at hu hx;subst hu hx;have hov:=hok 0 t v rfl rfl;have hF:=zl6 hs1;cases hr:jL7 s with
      | true=>
        cases s with
        | st fs=>
          simp only[shOf] at hs1;have hv:∃ vs,v = .agg vs:=by
           unfold Value.okWide at hov;split at hov
           ·obtain⟨c,hc,_⟩:=hov;exact⟨c,hc⟩
           ·obtain⟨c,hc,_⟩:=hov;exact⟨c,hc⟩
           ·exfalso
            rename_i hne1 hne2;split at hs1 <;> first | (cases hs1;done) | skip
            ·simp only[EJ] at hs1;obtain⟨_,_,hh⟩:=hs1;cases hh
            ·rename_i fs' hu;exact hne1 fs' hu
          obtain⟨vs,rfl⟩:=hv;have:vs=vs.toList.toArray:=by simp
          rw[this];refine .agg _ _ (by simpa [Value.cells] using r1.1.symm) fun j u c hu hc=>?_;exact .im (r1.2 j u c (by simpa [Value.cells] using hu) hc).2
        | _=>cases hr
      | false=>
        obtain⟨c,rfl⟩:=zJ7 hr hF f1;have hoc:wY s [c]=c:=by cases s <;> first | (cases hr;done) | rfl
        rw[hoc];have hl:=r1.1;have hv:v.cells.toList=[v]:=by
         cases v with
         | agg a=>
           exfalso
           cases s with
           | st _=>cases hr
           | fnil=>cases hF
           | fcons=>cases hF
           | int k=>
             simp only[shOf] at hs1;split at hs1 <;> first | (cases hs1;done) | skip
             all_goals first
              | (rename_i hu;simp [Value.okWide,hu,Cell.okWide,Cell.ok] at hov;done)
              | (simp only[EJ] at hs1;obtain⟨_,_,hh⟩:=hs1;cases hh;done)
              | (split at hs1 <;> first | (split at hs1 <;> cases hs1;done) | (cases hs1;done))
           | bool=>
             simp only[shOf] at hs1;split at hs1 <;> first | (cases hs1;done) | skip
             all_goals first
              | (rename_i hu;simp [Value.okWide,hu,Cell.okWide,Cell.ok] at hov;done)
              | (simp only[EJ] at hs1;obtain⟨_,_,hh⟩:=hs1;cases hh;done)
              | (split at hs1 <;> first | (split at hs1 <;> cases hs1;done) | (cases hs1;done))
           | str=>
             simp only[shOf] at hs1;split at hs1 <;> first | (cases hs1;done) | skip
             all_goals first
              | (rename_i hu;simp [Value.okWide,hu,Cell.okWide,Cell.ok] at hov;done)
              | (simp only[EJ] at hs1;obtain⟨_,_,hh⟩:=hs1;cases hh;done)
              | (split at hs1 <;> first | (split at hs1 <;> cases hs1;done) | (cases hs1;done))
           | sl k b s=>
             simp only[shOf] at hs1;split at hs1 <;> first | (cases hs1;done) | skip
             all_goals first
              | (rename_i hu;simp [Value.okWide,hu,Cell.okWide,Cell.ok] at hov;done)
              | (split at hs1 <;> first | (split at hs1 <;> cases hs1;done) | (cases hs1;done))
         | _=>rfl
        rw[hv] at r1;exact .im (r1.2 0 v c rfl rfl).2
   ·cases hs
theorem zR3 {f:FuncId} {W:World} {args:Array Value} {ts:List T} (hs:Spc P f ts [] (vB true) []) (hn:args.size=ts.length) (ha:∀ (j:Nat) (v:Value) (x:T),args[j]?=some v→ts[j]?=some x→Rp [] (fun _=>none) W (oldA W) v x) :
 Calls P f args W fun en w'=>en = .returned (.bool true)∧Below W.heap.size W w':=by
 refine (hs.2.2 (oldA W) (fun _=>none) W args ?_).mono ?_
 ·refine⟨hn,rfl,fun t x hx=>?_,fun id o h=>by simp [TL.get] at h,fun id id' k xs fz k' xs' fz' b c c' h=>by simp [TL.get] at h,fun id k xs fz b c h=>by simp [TL.get] at h,fun b hb _=>rfl,BZ _,fun a ha=>⟨ha,?_⟩,rfl,rfl,rfl,.refl _ _,fun x hx=>⟨hx,fun u hu=>hu⟩,⟨fun id es b c h=>by simp [TL.get] at h,fun id id' es es' b c c' h=>by simp [TL.get] at h⟩⟩
  ·simp only[qa2,Nat.zero_le,if_true,Nat.sub_zero] at hx;have ht:t<ts.length:=(List.getElem?_eq_some_iff.1 hx).1;have hat:args[t]?=some args[t]:=by rw[Eq oM]
   have:=ha t args[t] x hat hx;have h1:args.getD t undef=args[t]:=by simp [Dq,hat]
   rw[h1];exact this.mono (fun a ha=>⟨.inl ha,fun u hu=>hu⟩) (Goes.refl _ _)
  ·rintro ⟨id,k,xs,fz,c,h,_⟩;simp [TL.get] at h
 ·rintro en w' ⟨v,ι',rfl,hR⟩;have hv:v = .bool true:=by
   have:=hR.fr 0 (vB true) (by simp [TL.get]);simpa using this.v_inv
  subst hv;exact⟨rfl,hR.os,hR.tape,hR.output,hR.hs,fun k hk=>hR.keep k hk (by rintro ⟨id,k,xs,fz,c,h,_⟩;simp [TL.get] at h)⟩
end
end Go.TL
namespace Go.TL
theorem jY7 {n:Int} (h:(Lit.int .u8 n).wf=true):0≤n∧n≤255:=by
 simpa [Lit.wf,IntKind.min,IntKind.max,IntKind.signed,IntKind.bits] using h
end Go.TL
namespace Go.TL
theorem zl8 {s:Sh} {ss:List Sh} {tss:List (List T)} (h:WW (s::ss) tss):∃ t ts,tss=t::ts∧Fits s t∧WW ss ts:=by
 cases tss with
 | nil=>exact h.elim
 | cons t ts=>exact⟨t,ts,rfl,h.1,h.2⟩
theorem zx0 {tss:List (List T)} (h:WW [] tss):tss=[]:=by
 cases tss with
 | nil=>rfl
 | cons t ts=>exact h.elim
end Go.TL
namespace Go.TL
theorem ji2 {α:Type} {s:Sh} {c b:Nat} {t:List T} (f:α→T) (p:α→Prop) (hf:∀ x,Fits s x→∃ a,wY s x=f a∧p a) (h:Fits (.sl c b s) t) :
 ∃ l:List α,t=[.sl c (l.map f)]∧l.length*b≤140737488351232∧∀ a∈l,p a:=by
 obtain⟨xs,rfl,h1,h2,h3⟩:=h;have:∃ l:List α,xs.map (wY s)=l.map f∧∀ a∈l,p a:=by
  clear h1 h2
  induction xs with
  | nil=>exact⟨[],rfl,sMp⟩
  | cons x r ih=>
    obtain⟨l,h4,h5⟩:=ih fun y hy=>h3 y (by simp [hy]);obtain⟨a,h6,h7⟩:=hf x (h3 x sMp).2;exact⟨a::l,by simp [h4,h6],by simpa using ⟨h7,h5⟩⟩
 obtain⟨l,h4,h5⟩:=this;have hl:l.length=xs.length:=by
  have:=congrArg List.length h4;simpa using this.symm
 exact⟨l,by rw[h4],by rw[hl];exact h1,h5⟩
theorem zR4 {t:List T} (h:Fits (.sl 1 1 (.int .u8)) t):∃ bs:List UInt8,t=[vL bs]∧bs.length≤140737488351232:=by
 obtain⟨l,h1,h2,_⟩:=ji2 wi (fun _=>True) (fun x hx=>by
  obtain⟨n,rfl,hn⟩:=hx;have:=jY7 hn;refine⟨u8 n,?_,trivial⟩;show T.v (.int .u8 n)=_;unfold wi;rw[jT5,Int.emod_eq_of_lt this.1 oM]) h
 exact⟨l,h1,oM⟩
end Go.TL
