/- A part of the proof: ZzF ZzD ZzR. -/
import Derived.Lay
import Derived.LaidLaws
import Derived.MakeChecks
import Derived.SevenTiedAt
import Derived.Test.YtnfagfikoblhfaaGreatDoorK12
namespace Go.TL
theorem tZ:type_of% (Az @tl (Az @tl2 (Az @tl4 (Az @tl3 (Az @je.eq_1 (Az @je.eq_2 (Az @entX.eq_1 (Az @entX.eq_2 (Az @WK.eq_1 (Az @WK.eq_2 (Az @ret.eq_1 (Az @retI.eq_1 (Az @retB.eq_1 (Az @intT.eq_1 (Az @intT.eq_2 (Az @intT.eq_3 (Az @intT.eq_4 (Az @intT.eq_5 (Az @intT.eq_6 (Az @intT.eq_7 (Az @intT.eq_8 (Az @intT.eq_9 (Az @intT.eq_10 (Az @intT.eq_11 (Az @intT.eq_12 (Az @intT.eq_13 (Az @intT.eq_14 (Az @intT.eq_15 (Az @intT.eq_16 (Az @intT.eq_17 (Az @unT.eq_1 (Az @unT.eq_2 (Az @unT.eq_3 (Az @unT.eq_4 (Az @endR.eq_1 (Az @endR.eq_2 (Az @qq3.eq_1 (Az @qq3.eq_2 (Az @resR.eq_1 (Az @resR.eq_2 (Az @tupT.eq_1 (Az @tupT.eq_2 (Az @bslR.eq_1 (Az @boxR.eq_1 (Az @YD.eq_1 (Az @YD.eq_2 (Az @rmK.eq_1 (Az @rmK.eq_2 (Az @rm1.eq_1 (Az @rm1.eq_2 (Az @ne_eq.{1} (Az @not_false_eq_true (Az @decide_true (Az @decide_false (@not_true_eq_false))))))))))))))))))))))))))))))))))))))))))))))))))))))):=Az @tl (Az @tl2 (Az @tl4 (Az @tl3 (Az @je.eq_1 (Az @je.eq_2 (Az @entX.eq_1 (Az @entX.eq_2 (Az @WK.eq_1 (Az @WK.eq_2 (Az @ret.eq_1 (Az @retI.eq_1 (Az @retB.eq_1 (Az @intT.eq_1 (Az @intT.eq_2 (Az @intT.eq_3 (Az @intT.eq_4 (Az @intT.eq_5 (Az @intT.eq_6 (Az @intT.eq_7 (Az @intT.eq_8 (Az @intT.eq_9 (Az @intT.eq_10 (Az @intT.eq_11 (Az @intT.eq_12 (Az @intT.eq_13 (Az @intT.eq_14 (Az @intT.eq_15 (Az @intT.eq_16 (Az @intT.eq_17 (Az @unT.eq_1 (Az @unT.eq_2 (Az @unT.eq_3 (Az @unT.eq_4 (Az @endR.eq_1 (Az @endR.eq_2 (Az @qq3.eq_1 (Az @qq3.eq_2 (Az @resR.eq_1 (Az @resR.eq_2 (Az @tupT.eq_1 (Az @tupT.eq_2 (Az @bslR.eq_1 (Az @boxR.eq_1 (Az @YD.eq_1 (Az @YD.eq_2 (Az @rmK.eq_1 (Az @rmK.eq_2 (Az @rm1.eq_1 (Az @rm1.eq_2 (Az @ne_eq.{1} (Az @not_false_eq_true (Az @decide_true (Az @decide_false (@not_true_eq_false))))))))))))))))))))))))))))))))))))))))))))))))))))))
theorem tL:type_of% (Az @QP.eq_1 (Az @QP.eq_2 (Az @QP.eq_3 (Az @QP.eq_4 (Az @QP.eq_5 (Az @ltO2.eq_1 (Az @ltO2.eq_2 (Az @ltO2.eq_3 (Az @ltO1.eq_1 (Az @ltO1.eq_2 (Az @ltAs.eq_1 (Az @ltAs.eq_2 (Az @ltAs.eq_3 (Az @ltA.eq_1 (Az @ltA.eq_2 (Az @ltA.eq_3 (Az @ltA.eq_4 (Az @ltA.eq_5 (Az @ltC.eq_1 (Az @ltC.eq_2 (Az @ltC.eq_3 (Az @ltC0.eq_1 (Az @ltC0.eq_2 (Az @ltC0.eq_3 (Az @ltC0.eq_4 (Az @ltC0.eq_5 (Az @ltC0.eq_6 (Az @ltC0.eq_7 (Az @ltC0.eq_8 (Az @ltC0.eq_9 (Az @ltC0.eq_10 (Az @ltC0.eq_11 (Az @ltC0.eq_12 (Az @ltC0.eq_13 (Az @ltC0.eq_14 (Az @ltC0.eq_15 (Az @ltC0.eq_16 (Az @ltC0.eq_17 (Az @ltC0.eq_18 (Az @ltC0.eq_19 (Az @ltC0.eq_20 (Az @ltC0.eq_21 (Az @qN9.eq_1 (Az @qN9.eq_2 (Az @qN9.eq_3 (Az @ltCs.eq_1 (Az @ltCs.eq_2 (Az @ltCs.eq_3 (Az @ltT.eq_1 (Az @ltT.eq_2 (Az @ltT.eq_3 (Az @ltFr.eq_1 (Az @ltFr.eq_2 (Az @ltS.eq_1 (Az @ltS.eq_2 (Az @wrOk.eq_1 (Az @wrOk.eq_2 (Az @wrOk.eq_3 (Az @wrOk.eq_4 (Az @wrO.eq_1 (Az @wrO.eq_2 (Az @wrO.eq_3 (Az @Go.TL.get.eq_1 (Az @Go.TL.get.eq_2 (Az @zX8.eq_1 (Az @zX8.eq_2 (Az @rmK.eq_1 (Az @rmK.eq_2 (Az @rm1.eq_1 (Az @rm1.eq_2 (Az @Option.getD_some.{0} (Az @Option.isSome_some.{0} (Az @List.length_map.{0,0} (Az @List.length_append.{0} (Az @List.length_cons.{0} (Az @List.length_nil.{0} (Az @List.append_nil.{0} (Az @List.mem_singleton.{0} (Az @List.mem_cons.{0} (Az @List.not_mem_nil.{0} (Az @and_true (Az @true_and (Az @and_self (Az @imp_self (Az @forall_const.{0} (Az @false_implies (Az @implies_true.{0} (Az @true_implies (Az @or_false (Az @EX (Az @Bool.true_eq_false (Az @zj5 (Az @true_or (Az @or_true (Az @false_or (Az @false_and (@and_false))))))))))))))))))))))))))))))))))))))))))))))))))))))))))))))))))))))))))))))))))))))))))))))))):=Az @QP.eq_1 (Az @QP.eq_2 (Az @QP.eq_3 (Az @QP.eq_4 (Az @QP.eq_5 (Az @ltO2.eq_1 (Az @ltO2.eq_2 (Az @ltO2.eq_3 (Az @ltO1.eq_1 (Az @ltO1.eq_2 (Az @ltAs.eq_1 (Az @ltAs.eq_2 (Az @ltAs.eq_3 (Az @ltA.eq_1 (Az @ltA.eq_2 (Az @ltA.eq_3 (Az @ltA.eq_4 (Az @ltA.eq_5 (Az @ltC.eq_1 (Az @ltC.eq_2 (Az @ltC.eq_3 (Az @ltC0.eq_1 (Az @ltC0.eq_2 (Az @ltC0.eq_3 (Az @ltC0.eq_4 (Az @ltC0.eq_5 (Az @ltC0.eq_6 (Az @ltC0.eq_7 (Az @ltC0.eq_8 (Az @ltC0.eq_9 (Az @ltC0.eq_10 (Az @ltC0.eq_11 (Az @ltC0.eq_12 (Az @ltC0.eq_13 (Az @ltC0.eq_14 (Az @ltC0.eq_15 (Az @ltC0.eq_16 (Az @ltC0.eq_17 (Az @ltC0.eq_18 (Az @ltC0.eq_19 (Az @ltC0.eq_20 (Az @ltC0.eq_21 (Az @qN9.eq_1 (Az @qN9.eq_2 (Az @qN9.eq_3 (Az @ltCs.eq_1 (Az @ltCs.eq_2 (Az @ltCs.eq_3 (Az @ltT.eq_1 (Az @ltT.eq_2 (Az @ltT.eq_3 (Az @ltFr.eq_1 (Az @ltFr.eq_2 (Az @ltS.eq_1 (Az @ltS.eq_2 (Az @wrOk.eq_1 (Az @wrOk.eq_2 (Az @wrOk.eq_3 (Az @wrOk.eq_4 (Az @wrO.eq_1 (Az @wrO.eq_2 (Az @wrO.eq_3 (Az @Go.TL.get.eq_1 (Az @Go.TL.get.eq_2 (Az @zX8.eq_1 (Az @zX8.eq_2 (Az @rmK.eq_1 (Az @rmK.eq_2 (Az @rm1.eq_1 (Az @rm1.eq_2 (Az @Option.getD_some.{0} (Az @Option.isSome_some.{0} (Az @List.length_map.{0,0} (Az @List.length_append.{0} (Az @List.length_cons.{0} (Az @List.length_nil.{0} (Az @List.append_nil.{0} (Az @List.mem_singleton.{0} (Az @List.mem_cons.{0} (Az @List.not_mem_nil.{0} (Az @and_true (Az @true_and (Az @and_self (Az @imp_self (Az @forall_const.{0} (Az @false_implies (Az @implies_true.{0} (Az @true_implies (Az @or_false (Az @EX (Az @Bool.true_eq_false (Az @zj5 (Az @true_or (Az @or_true (Az @false_or (Az @false_and (@and_false))))))))))))))))))))))))))))))))))))))))))))))))))))))))))))))))))))))))))))))))))))))))))))))))
theorem tD:type_of% (Az @AZ (Az @Ay (Az @DZ (Az @FQ (Az @Bq (@FK)))))):=Az @AZ (Az @Ay (Az @DZ (Az @FQ (Az @Bq (@FK)))))
theorem Le.oA {e:Env} {st st':Sto} {fr fr':List (Nat×T)} (ρ:Ren) (B:List Nat) (hr:yz st' ρ=true:=by rfl) (hh:zw7 st' ρ e.st0=true:=by first | rfl | (rw[hst];rfl)) (hs:QP st ρ B st':=by exact clA) (hf:ltFr st ρ B fr fr':=by exact clA):Le e ⟨fr,st⟩ ⟨fr',st'⟩:=.of ρ B hr hh hs hf
theorem yx.oA {st st' st0:Sto} {x r:T} (ρ:Ren) (B:List Nat) (hr:yz st' ρ=true:=by rfl) (hh:zw7 st' ρ st0=true:=by first | rfl | (rw[hst];rfl)) (hs:QP st ρ B st':=by exact clA) (hf:ltT st ρ B x r:=by exact clA):yx st0 x st r st':=.of ρ B hr hh hs hf
end Go.TL
namespace Go.TL
open Go.RowKit Go.ChangeShapes
section
variable {H:Type} {enc:TypeId×Value→H}
end
end Go.TL
namespace Go.TL
open Go.RowKit Go.ChangeShapes
inductive Sr where
 | int (k:IntKind)
 | bool
 | str
 | sl (k b:Nat) (el:Sr)
 | st (fs:Sr)
 | fnil
 | fcons (n:Nat) (s:Sr) (r:Sr)
 | tie
def kG (s:Sr) (cs:List T):T:=match s with
 | .st _=>.agg cs
 | .tie=>.agg cs
 | _=>cs.headD .junk
def Jc (E:List T→Prop):Sr→List T→Prop
 | .int k,ts=>∃ n,ts=[.v (.int k n)]∧(Lit.int k n).wf=true
 | .bool,ts=>∃ b,ts=[.v (.bool b)]
 | .str,ts=>∃ s:ByteArray,ts=[.v (.string s)]∧s.size≤140737488351232
 | .sl k b s,ts=>∃ xs:List (List T),ts=[.sl k (xs.map (kG s))]∧xs.length*b≤140737488351232∧xs.length≤9223372036854775807∧∀ x∈xs,x.length=k∧Jc E s x
 | .st fs,ts=>Jc E fs ts
 | .fnil,ts=>ts=[]
 | .fcons n s r,ts=>∃ a b,ts=a++b∧a.length=n∧Jc E s a∧Jc E r b
 | .tie,ts=>E ts
def zz0 (P:Program) (sh:TypeId→Option Sr):Nat→List Field→Option Sr
 | off,[]=>some .fnil
 | off,f::r=>if f.offset=off then match sh f.type,zz0 P sh (off+P.cellsOf f.type) r with
   | some s,some l=>some (.fcons (P.cellsOf f.type) s l)
   | _,_=>none
   else none
def qc3:Sr→Nat
 | .fcons n _ r=>n+qc3 r
 | _=>0
def shR (P:Program) (tR:TypeId):Nat→TypeId→Option Sr
 | 0,_=>none
 | n+1,t=>if t=tR then some .tie else match P.underlying t with
   | some .bool=>some .bool
   | some (.int k)=>some (.int k)
   | some .string=>some .str
   | some (.slice e)=>(shR P tR n e).map fun s=>.sl (P.cellsOf e) (P.bytesOf e) s
   | some (.struct fs)=>match zz0 P (shR P tR n) 0 fs.toList with
     | some s=>if P.cellsOf t=qc3 s then some (.st s) else none
     | none=>none
   | _=>none
def jo9:Sr→Bool
 | .st _=>true
 | .tie=>true
 | _=>false
def isFR:Sr→Bool
 | .fnil=>true
 | .fcons ..=>true
 | _=>false
theorem zS7 {P:Program} {tR:TypeId} {n:Nat} {t:TypeId} {s:Sr} (h:shR P tR n t=some s):isFR s=false:=by
 cases n with
 | zero=>simp [shR] at h
 | succ n=>
   simp only[shR] at h;split at h
   ·injection h with h;subst h;rfl
   split at h <;> first | (injection h with h;subst h;rfl) | (cases h;done) | skip
   ·simp only[EW] at h;obtain⟨_,_,rfl⟩:=h;rfl
   ·split at h
    ·split at h
     ·injection h with h;subst h;rfl
     ·cases h
    ·cases h
theorem zY1 {E:List T→Prop} (hE:∀ ts,E ts→jy5 ts):∀ (s:Sr) (ts:List T),Jc E s ts→jy5 ts:=by
 intro s
 induction s with
 | int k=>rintro ts ⟨n,rfl,_⟩ c hc;simp at hc;subst hc;rfl
 | bool=>rintro ts ⟨n,rfl⟩ c hc;simp at hc;subst hc;rfl
 | str=>rintro ts ⟨n,rfl,_⟩ c hc;simp at hc;subst hc;rfl
 | sl k b s ih=>rintro ts ⟨xs,rfl,_⟩ c hc;simp at hc;subst hc;rfl
 | st fs ih=>intro ts h;exact ih ts h
 | fnil=>intro ts h c hc;simp only[Jc] at h;subst h;simp at hc
 | fcons n s r ih1 ih2=>
   rintro ts ⟨a,b,rfl,_,h1,h2⟩ c hc;rcases Dz.1 hc with hc | hc
   ·exact ih1 a h1 c hc
   ·exact ih2 b h2 c hc
 | tie=>intro ts h;exact hE ts h
theorem zz1 {E:List T→Prop} {s:Sr} (hr:jo9 s=false) (hf:isFR s=false) {ts:List T} (h:Jc E s ts):∃ c,ts=[c]:=by
 cases s with
 | int k=>obtain⟨n,rfl,_⟩:=h;exact⟨_,rfl⟩
 | bool=>obtain⟨n,rfl⟩:=h;exact⟨_,rfl⟩
 | str=>obtain⟨n,rfl,_⟩:=h;exact⟨_,rfl⟩
 | sl k b s=>obtain⟨n,rfl,_⟩:=h;exact⟨_,rfl⟩
 | st fs=>cases hr
 | fnil=>cases hf
 | fcons n s r=>cases hf
 | tie=>cases hr
theorem qk1 {E:List T→Prop} (hE:∀ ts,E ts→jy5 ts) {s:Sr} (hf:isFR s=false) {ts:List T} (h:Jc E s ts):(kG s ts).cells=ts:=by
 cases hr:jo9 s with
 | true=>cases s <;> first | (cases hr;done) | rfl
 | false=>
   obtain⟨c,rfl⟩:=zz1 hr hf h;have:=zY1 hE s _ h c sMp;cases s <;> first | (cases hr;done) | exact this
section
variable {H:Type} {enc:TypeId×Value→H} {P:Program} {w:World} {spare:Nat→Bool} {held:Bool} {tR:TypeId} {E:List T→Prop}
theorem qc4 {fuel n:Nat} (ih:∀ (t:TypeId) (cs:List Value) (d:DataW H) (ps:List MemPlace) (s:Sr),DataW.trod enc P w 0 spare held fuel t cs=some (d,ps)→shR P tR n t=some s→(∀ x∈d.weights P t,x≤reachBytes)→∃ ts,Jc E s ts∧Rd w cs ts) (cs:List Value) :
 ∀ (fs:List Field) (off:Nat) (s:Sr) (xs:List (DataW H×List MemPlace)),zz0 P (shR P tR n) off fs=some s→fs.mapM (fun f=>DataW.trod enc P w 0 spare held fuel f.type ((cs.drop f.offset).take (P.cellsOf f.type)))=some xs→off+qc3 s≤cs.length→(∀ x∈DataW.weightsEach P (fs.map (·.type)) (xs.map (·.1)),x≤reachBytes)→
  ∃ ts,Jc E s ts∧Rd w ((cs.drop off).take (qc3 s)) ts
 | [],off,s,xs,h1,h2,h3,h4=>by
   simp only[zz0,Option.some.injEq] at h1;subst h1;exact⟨[],rfl,by simp [qc3,Rd]⟩
 | f::r,off,s,xs,h1,h2,h3,h4=>by
   simp only[zz0] at h1;split at h1
   ·rename_i ho;split at h1
    ·rename_i s1 l hs1 hl;injection h1 with h1;subst h1;simp only[List.mapM_cons,Option.bind_eq_bind,Option.bind_eq_some_iff,Option.pure_def,Option.some.injEq] at h2;obtain⟨x,hx,ys,hys,rfl⟩:=h2;simp only[qc3] at h3;simp only[List.map_cons,DataW.weightsEach,Dz] at h4;obtain⟨ts1,f1,r1⟩:=ih f.type _ x.1 x.2 s1 hx hs1 (fun y hy=>h4 y (.inl hy));obtain⟨ts2,f2,r2⟩:=qc4 ih cs r _ l ys hl hys oM (fun y hy=>h4 y (.inr hy));rw[ho] at r1;have hlen:ts1.length=P.cellsOf f.type:=by rw[r1.1];simp;omega
     refine⟨ts1++ts2,⟨ts1,ts2,rfl,hlen,f1,f2⟩,?_⟩;have:(cs.drop off).take (qc3 (.fcons (P.cellsOf f.type) s1 l))=(cs.drop off).take (P.cellsOf f.type)++(cs.drop (off+P.cellsOf f.type)).take (qc3 l):=by
      simp only[qc3];rw[List.take_add,List.drop_drop]
     rw[this];exact r1.append r2
    ·cases h1
   ·cases h1
structure RecOk (P:Program) (tR:TypeId) (E:List T→Prop):Prop where
 flat:∀ ts,E ts→jy5 ts
 body:∃ fs m s,P.underlying tR=some (.struct fs)∧zz0 P (shR P tR m) 0 fs.toList=some s∧P.cellsOf tR=qc3 s∧∀ ts,Jc E s ts→E ts
theorem zg2 (hR:RecOk P tR E):∀ (fuel n:Nat) (t:TypeId) (cs:List Value) (d:DataW H) (ps:List MemPlace) (s:Sr),
 DataW.trod enc P w 0 spare held fuel t cs=some (d,ps)→shR P tR n t=some s→(∀ x∈d.weights P t,x≤reachBytes)→∃ ts,Jc E s ts∧Rd w cs ts
 | 0,_,_,_,_,_,_,h,_,_=>by simp [DataW.trod] at h
 | fuel+1,0,_,_,_,_,_,_,h,_=>by simp [shR] at h
 | fuel+1,n+1,t,cs,d,ps,s,h,hs,hw=>by
   have IH:=fun n t cs d ps s=>zg2 hR fuel n t cs d ps s;have one:∀ v:Value,v.oneCell'=true→Rd w [v] [.v v]:=by
    intro v hv;refine⟨rfl,fun j u c hu hc=>?_⟩;cases j with
    | zero=>simp at hu hc;subst hu hc;exact⟨hv,.v v⟩
    | succ j=>simp at hu
   by_cases htR:t=tR
   ·subst htR;rw[shR,Aj rfl] at hs;injection hs with hs;subst hs;obtain⟨fs,m,s1,hu,hs1,hl,hb⟩:=hR.body;have hst:∃ xs:List (DataW H×List MemPlace),fs.toList.mapM (fun f=>DataW.trod enc P w 0 spare held fuel f.type ((cs.drop f.offset).take (P.cellsOf f.type)))=some xs∧d = .agg (xs.map (·.1))∧cs.length=P.cellsOf t:=by
     unfold DataW.trod at h;split at h
     all_goals first | (rename_i hu2;rw[hu] at hu2;cases hu2;done) | (rename_i hu2 _;rw[hu] at hu2;cases hu2;done) | (cases h;done) | skip
     rename_i fs' hu2;rw[hu] at hu2;injection hu2 with hu2;injection hu2 with hu2;subst hu2;split at h
     ·rename_i hlen;simp only[EW] at h;obtain⟨xs,hxs,hdp⟩:=h;injection hdp with hd1 hd2;exact⟨xs,hxs,hd1.symm,hlen⟩
     ·cases h
    obtain⟨xs,hxs,rfl,hlen⟩:=hst;obtain⟨ts,f1,r1⟩:=qc4 (IH m) cs fs.toList 0 s1 xs hs1 hxs oM (by simpa [DataW.weights,hu] using hw);refine⟨ts,hb ts f1,?_⟩;rw[List.drop_zero,List.take_of_length_le oM] at r1;exact r1
   simp only[shR,Aq htR] at hs;unfold DataW.trod at h;split at h
   ·rename_i b hu;rw[hu] at hs;injection hs with hs;subst hs
    exact⟨[.v (.bool b)],⟨b,rfl⟩,one _ rfl⟩
   ·rename_i k k' m hu;rw[hu] at hs;injection hs with hs;subst hs
    split at h
    ·rename_i hk;obtain⟨rfl,hk⟩:=hk;exact⟨[.v (.int k' m)],⟨m,rfl,hk⟩,one _ rfl⟩
    ·cases h
   ·rename_i hu;rw[hu] at hs;cases hs
   ·rename_i str hu;rw[hu] at hs;injection hs with hs;subst hs
    split at h
    ·rename_i hk;injection h with h;injection h with h1 h2;subst h1;have:=hw str.data.toList.length (by simp [DataW.weights]);exact⟨[.v (.string str)],⟨str,rfl,by simp [reachBytes] at this;exact this⟩,one _ rfl⟩
    ·cases h
   ·rename_i hu;rw[hu] at hs;cases hs
   ·rename_i hu;rw[hu] at hs;cases hs
   ·rename_i el hu;rw[hu] at hs;simp only[EW] at hs;obtain⟨s1,hs1,rfl⟩:=hs;refine⟨[.sl (P.cellsOf el) []],⟨[],rfl,sMp,sMp,sMp⟩,rfl,fun j u c hu hc=>?_⟩;cases j with
    | zero=>
      simp at hu hc;subst hu hc;exact⟨rfl,.sl none 0 0 _ [] [] rfl (BZ _) sMp (by simp [flat]) sMp sMp sMp⟩
    | succ j=>simp at hu
   ·rename_i el a len cap hu;rw[hu] at hs;simp only[EW] at hs;obtain⟨s1,hs1,rfl⟩:=hs;simp only at h;split at h
    ·rename_i hg;obtain⟨_,hlc,hcm⟩:=hg;simp only[Option.bind_eq_some_iff,EW] at h;obtain⟨elems,he,rest,_,hdp⟩:=h;injection hdp with hd1 hd2;subst hd1;have hel:=mapM_some_length he;simp only[List.length_range] at hel;have each:∀ i,i<len→∃ cs ts,w.cells? 0 (a.add (i*P.cellsOf el)) (P.cellsOf el)=some cs∧Jc E s1 ts∧Rd w cs ts:=by
      intro i hi;have:=mapM_some_get he i i (by simp [hi]);rw[CK oM] at this;simp only[Option.bind_eq_some_iff] at this;obtain⟨cs,hcs,htr⟩:=this;obtain⟨ts,h1,h2⟩:=IH n el cs elems[i].1 elems[i].2 s1 htr hs1 (fun y hy=>by
       refine hw y ?_;simp only[DataW.weights,hu];refine CQ _ (List.mem_append_left _ (qk0 (d:=elems[i].1) (Cj.2 ⟨elems[i],AX _,rfl⟩) hy)))
      exact⟨cs,ts,hcs,h1,h2⟩
     have hF:=zS7 hs1
     let cf:Nat→List Value:=fun i=>if h:i<len then Classical.choose (each i h) else []
     let tf:Nat→List T:=fun i=>if h:i<len then Classical.choose (Classical.choose_spec (each i h)) else []
     have hcf:∀ i,i<len→w.cells? 0 (a.add (i*P.cellsOf el)) (P.cellsOf el)=some (cf i)∧Jc E s1 (tf i)∧Rd w (cf i) (tf i):=by
      intro i hi;have:=Classical.choose_spec (Classical.choose_spec (each i hi));simp only[cf,tf,dif_pos hi];exact this
     have htl:∀ i,i<len→(tf i).length=P.cellsOf el:=by
      intro i hi;obtain⟨h1,h2,h3⟩:=hcf i hi;rw[h3.1];exact (World.cells?_some h1).2.1
     let xs:List (List T):=(List.range len).map tf
     have hxl:xs.length=len:=by simp [xs]
     have hmap:∀ x∈xs.map (kG s1),x.cells.length=P.cellsOf el:=by
      intro x hx;simp only[xs,Gx,Cj,Dk,Function.comp] at hx;obtain⟨i,hi,rfl⟩:=hx;rw[qk1 hR.flat hF (hcf i hi).2.1];exact htl i hi
     refine⟨[.sl (P.cellsOf el) (xs.map (kG s1))],⟨xs,rfl,?_,by have:maxLen=9223372036854775807:=rfl;omega,?_⟩,rfl,fun j u c hu hc=>?_⟩
     ·have:=hw ((elems.length+rest.length)*P.bytesOf el) (by simp [DataW.weights,hu]);rw[hxl,← hel];have h1:elems.length*P.bytesOf el≤(elems.length+rest.length)*P.bytesOf el:=CZ _ (Nat.le_add_right _ _);have:reachBytes=140737488351232:=rfl;omega
     ·intro x hx;simp only[xs,Cj,Dk] at hx;obtain⟨i,hi,rfl⟩:=hx;exact⟨htl i hi,(hcf i hi).2.1⟩
     ·cases j with
      | succ j=>simp at hu
      | zero=>
        simp at hu hc;subst hu hc;refine⟨rfl,?_⟩;have hfl:(flat (xs.map (kG s1))).length=len*P.cellsOf el:=by rw[qO hmap];simp [hxl]
        have key:∀ m,m<len*P.cellsOf el→∃ i j,i<len∧j<P.cellsOf el∧m=i*P.cellsOf el+j:=by
         intro m hm;have hk:0<P.cellsOf el:=by
          rcases DQ (P.cellsOf el) with h0 | h0
          ·rw[h0] at hm;simp at hm
          ·exact h0
         refine⟨m / P.cellsOf el,m % P.cellsOf el,?_,Nat.mod_lt _ hk,?_⟩
         ·rw[Nat.div_lt_iff_lt_mul hk];exact hm
         ·rw[Nat.mul_comm];exact (Nat.div_add_mod m _).symm
        have cellAt:∀ i j,i<len→j<P.cellsOf el→w.cell? (a.add (i*P.cellsOf el+j))=(cf i)[j]?:=by
         intro i j hi hj;have:=(World.cells?_some (hcf i hi).1).2.2 j hj;have e1:(a.add (i*P.cellsOf el)).add j=a.add (i*P.cellsOf el+j):=by
          unfold Addr.add;by_cases q1:i*P.cellsOf el=0 <;> by_cases q2:j=0 <;> simp [q1,q2,Nat.add_assoc]
         rw[e1] at this;exact this
        refine .sl (some a) len cap _ (xs.map (kG s1)) ((List.range (len*P.cellsOf el)).map fun m=>(w.cell? (a.add m)).getD undef) (by simp [hxl]) hlc hmap (by rw[hfl];simp) sMp (fun m u hu=>?_) (fun m u c hu hc=>?_)
        ·simp only[DY,EW] at hu;obtain⟨m',hm',rfl⟩:=hu;have hm:m<len*P.cellsOf el:=by
          have:=(List.getElem?_eq_some_iff.1 hm').1;simpa using this
         have:m'=m:=by rw[List.getElem?_range hm] at hm';injection hm' with h;exact h.symm
         subst this;obtain⟨i,j,hi,hj,rfl⟩:=key m' hm;have hc1:=cellAt i j hi hj;have hlen:(cf i).length=P.cellsOf el:=(World.cells?_some (hcf i hi).1).2.1;rw[CK oM] at hc1;obtain⟨c,hc⟩:∃ c,(tf i)[j]?=some c:=⟨(tf i)[j]'(by rw[htl i hi];exact hj),by simp [htl i hi,hj]⟩;have:=((hcf i hi).2.2.2 j _ c (by rw[CK oM]) hc).1;refine⟨a,rfl,jy6 hc1,?_,?_⟩
         ·rw[hc1];rfl
         ·rw[hc1];exact this
        ·simp only[DY,EW] at hu;obtain⟨m',hm',rfl⟩:=hu;have hm:m<len*P.cellsOf el:=by
          have:=(List.getElem?_eq_some_iff.1 hm').1;simpa using this
         have:m'=m:=by rw[List.getElem?_range hm] at hm';injection hm' with h;exact h.symm
         subst this;obtain⟨i,j,hi,hj,rfl⟩:=key m' hm;have hc1:=cellAt i j hi hj;have hlen:(cf i).length=P.cellsOf el:=(World.cells?_some (hcf i hi).1).2.1;rw[CK oM] at hc1;rw[hc1];have hxi:(xs.map (kG s1))[i]?=some (kG s1 (tf i)):=by simp [xs,hi]
         rw[jn4 hmap i j _ hxi hj,qk1 hR.flat hF (hcf i hi).2.1] at hc;exact ((hcf i hi).2.2.2 j _ c (by rw[CK oM];rfl) hc).2
    ·cases h
   ·rename_i cs x0 cs1 fs hu;rw[hu] at hs;obtain⟨s1,hs1,hl,rfl⟩:∃ s1,zz0 P (shR P tR n) 0 fs.toList=some s1∧P.cellsOf t=qc3 s1∧s = .st s1:=by
     simp only at hs;split at hs
     ·rename_i s1 hs1;split at hs
      ·rename_i hl;injection hs with hs;exact⟨s1,hs1,hl,hs.symm⟩
      ·cases hs
     ·cases hs
    split at h
    ·rename_i hlen;simp only[EW] at h;obtain⟨xs,hxs,hdp⟩:=h;injection hdp with hd1 hd2;subst hd1;obtain⟨ts,f1,r1⟩:=qc4 (IH n) cs fs.toList 0 s1 xs hs1 hxs oM (by simpa [DataW.weights,hu] using hw);refine⟨ts,f1,?_⟩;rw[List.drop_zero,List.take_of_length_le oM] at r1;exact r1
    ·cases h
   all_goals (first | (rename_i hu;rw[hu] at hs;cases hs;done) | (rename_i hu _;rw[hu] at hs;cases hs;done) | (cases h;done) | skip)
end
section
variable {H:Type} {enc:TypeId×Value→H} {P:Program} {tR:TypeId} {E:List T→Prop}
def WQ (E:List T→Prop):List Sr→List (List T)→Prop
 | [],[]=>True
 | s::ss,t::ts=>Jc E s t∧WQ E ss ts
 | _,_=>False
def Kf:List Sr→List (List T)→List T
 | s::ss,t::ts=>kG s t::Kf ss ts
 | _,_=>[]
def zg3 (P:Program) (tR:TypeId):List TypeId→Option (List Sr)
 | []=>some []
 | t::ts=>match (if t=tR then none else shR P tR 30 t),zg3 P tR ts with
   | some s,some l=>some (s::l)
   | _,_=>none
theorem qq9 (hR:RecOk P tR E) {W:World} {base:Nat}:∀ (ts:List TypeId) (shs:List Sr) (vs:List Value) (ds:List (DataW H)) (ps:List MemPlace),zg3 P tR ts=some shs→DataW.TrodAll enc P W 0 (fun _=>true) true ts vs ds ps→
 (∀ (j:Nat) t v,ts[j]?=some t→vs[j]?=some v→Value.okWide P W .any base t v)→(∀ x∈DataW.weightsEach P ts ds,x≤reachBytes)→
 ∃ tss,WQ E shs tss∧(Kf shs tss).length=vs.length∧∀ (j:Nat) (v:Value) (x:T),vs[j]?=some v→(Kf shs tss)[j]?=some x→Rp [] (fun _=>none) W (oldA W) v x
 | [],shs,vs,ds,ps,hs,h,_,_=>by
   obtain⟨rfl,rfl,rfl⟩:=trodAll_nil h;simp only[zg3,Option.some.injEq] at hs;subst hs;exact⟨[],trivial,rfl,fun j v x hv=>by simp at hv⟩
 | t::ts,shs,vs,ds,ps,hs,h,hok,hw=>by
   obtain⟨v,vs',d,ds',p,q,rfl,rfl,rfl,h1,h2⟩:=trodAll_cons h;simp only[zg3] at hs;split at hs
   ·rename_i s l hs1 hs2;injection hs with hs;subst hs;simp only[DataW.weightsEach,Dz] at hw;obtain⟨tss,i1,i2,i3⟩:=qq9 hR ts l vs' ds' q hs2 h2 (fun j t' v' ht hv=>hok (j+1) t' v' (by simpa using ht) (by simpa using hv)) (fun x hx=>hw x (.inr hx));have htR:t≠tR:=fun e=>by rw[Aj e] at hs1;cases hs1
    rw[Aq htR] at hs1;obtain⟨fuel,h1⟩:=h1;obtain⟨cs,f1,r1⟩:=zg2 hR fuel 30 t v.cells.toList d p s h1 hs1 (fun x hx=>hw x (.inl hx));refine⟨cs::tss,⟨f1,i1⟩,by simp [Kf,i2],fun j u x hu hx=>?_⟩;cases j with
    | succ j=>exact i3 j u x (by simpa using hu) (by simpa [Kf] using hx)
    | zero=>
      simp [Kf] at hu hx;subst hu hx;have hov:=hok 0 t v rfl rfl;have hF:=zS7 hs1;cases hr:jo9 s with
      | true=>
        cases s with
        | st fs=>
          simp only[shR,Aq htR] at hs1;have hv:∃ vs,v = .agg vs:=by
           unfold Value.okWide at hov;split at hov
           ·obtain⟨c,hc,_⟩:=hov;exact⟨c,hc⟩
           ·obtain⟨c,hc,_⟩:=hov;exact⟨c,hc⟩
           ·exfalso
            rename_i hne1 hne2;split at hs1 <;> first | (cases hs1;done) | skip
            ·simp only[EW] at hs1;obtain⟨_,_,hh⟩:=hs1;cases hh
            ·rename_i fs' hu;exact hne1 fs' hu
          obtain⟨vs,rfl⟩:=hv;have:vs=vs.toList.toArray:=by simp
          rw[this];refine .agg _ _ (by simpa [Value.cells] using r1.1.symm) fun j u c hu hc=>?_;exact .im (r1.2 j u c (by simpa [Value.cells] using hu) hc).2
        | tie=>
          simp only[shR,Aq htR] at hs1;split at hs1 <;> first | (cases hs1;done) | skip
          ·simp only[EW] at hs1;obtain⟨_,_,hh⟩:=hs1;cases hh
          ·split at hs1 <;> first | (split at hs1 <;> cases hs1;done) | (cases hs1;done)
        | _=>cases hr
      | false=>
        obtain⟨c,rfl⟩:=zz1 hr hF f1;have hoc:kG s [c]=c:=by cases s <;> first | (cases hr;done) | rfl
        rw[hoc];have hl:=r1.1;have hv:v.cells.toList=[v]:=by
         cases v with
         | agg a=>
           exfalso
           cases s with
           | st _=>cases hr
           | fnil=>cases hF
           | fcons=>cases hF
           | tie=>cases hr
           | int k=>
             simp only[shR,Aq htR] at hs1;split at hs1 <;> first | (cases hs1;done) | skip
             all_goals first
              | (rename_i hu;simp [Value.okWide,hu,Cell.okWide,Cell.ok] at hov;done)
              | (simp only[EW] at hs1;obtain⟨_,_,hh⟩:=hs1;cases hh;done)
              | (split at hs1 <;> first | (split at hs1 <;> cases hs1;done) | (cases hs1;done))
           | bool=>
             simp only[shR,Aq htR] at hs1;split at hs1 <;> first | (cases hs1;done) | skip
             all_goals first
              | (rename_i hu;simp [Value.okWide,hu,Cell.okWide,Cell.ok] at hov;done)
              | (simp only[EW] at hs1;obtain⟨_,_,hh⟩:=hs1;cases hh;done)
              | (split at hs1 <;> first | (split at hs1 <;> cases hs1;done) | (cases hs1;done))
           | str=>
             simp only[shR,Aq htR] at hs1;split at hs1 <;> first | (cases hs1;done) | skip
             all_goals first
              | (rename_i hu;simp [Value.okWide,hu,Cell.okWide,Cell.ok] at hov;done)
              | (simp only[EW] at hs1;obtain⟨_,_,hh⟩:=hs1;cases hh;done)
              | (split at hs1 <;> first | (split at hs1 <;> cases hs1;done) | (cases hs1;done))
           | sl k b s=>
             simp only[shR,Aq htR] at hs1;split at hs1 <;> first | (cases hs1;done) | skip
             all_goals first
              | (rename_i hu;simp [Value.okWide,hu,Cell.okWide,Cell.ok] at hov;done)
              | (split at hs1 <;> first | (split at hs1 <;> cases hs1;done) | (cases hs1;done))
         | _=>rfl
        rw[hv] at r1;exact .im (r1.2 0 v c rfl rfl).2
   ·cases hs
theorem qW0 {C:Checked} {f:FuncId} {fn:Func} {s:ChangeSpec} {conds:List PathCond} {os:Os} (started:os.Started) {a:Assume} {apart fresh handsOn again:Bool} {tb:TypeId} {shs:List Sr} {laid:List (String×DataW Unit)} {tR:TypeId} {E:List T→Prop} (hR:RecOk C.prog tR E)
 (own:ownKnob C.prog.godebug=none) (noInit:C.prog.inits.idxOf? f=none) (hfn:C.prog.funcs[f]?=some fn)
 (witness:∃ (w:World) (tape:Tape) (i:Input),w.os=os∧(w.forCall tape i).Shaped C.prog∧i.vars=[]∧Input.okWide C.prog (w.forCall tape i) .any w.heap.size f i∧
   ((s.pre enc C.prog fn conds apart (w.forCall tape i).memory i.args∧laidMetH C.prog laid (w.forCall tape i).memory)∧sizedMet enc C.prog fn (OpenSpec.ofChange s) apart (w.forCall tape i).memory i.args)∧a.holds C.prog (lone (Frame.enter C.prog f i.args .normal) [] (w.forCall tape i)))
 (hl:laidOutB C.prog=true) (hpar:fn.params.toList.all (fun t=>C.prog.readableRec t&&decide (t<C.prog.types.size))=true) (hrt:fn.resultTypes=#[tb]) (htb:C.prog.underlying tb=some .bool) (hvars:s.vars=[])
 (hspec:∀ ds:List (DataW H),ds.length=fn.params.size→s.fn H ds={ results:=[.lit (.bool true)],args:=ds }) (hsh:zg3 C.prog tR fn.params.toList=some shs)
 (hc:∀ tss,WQ E shs tss→Spc C.prog f (Kf shs tss) [] (vB true) []) :
 ReturnsInHanded a C os f .any (fun w args=>(s.pre enc C.prog fn conds apart w args∧laidMetH C.prog laid w)∧sizedMet enc C.prog fn (OpenSpec.ofChange s) apart w args) (s.post enc C.prog fn apart fresh handsOn again):=by
 refine returnsInHanded_of_change_and (X:=fun w _=>laidMetH C.prog laid w) (fun _ _ _ hh h=>h.of_heap hh) own started noInit hfn witness ?_;intro W base args ds gs before hok hW _ hw _ _;have hW0:=hW;obtain⟨p,q,hA,hV,hpq,_,_⟩:=hW;rw[hvars] at hV;obtain⟨rfl,rfl⟩:=trodVars_none hV;have hlen:∀ (ts:List TypeId) (vs:List Value) (ds:List (DataW H)) (ps:List MemPlace),DataW.TrodAll enc C.prog W 0 (fun _=>true) true ts vs ds ps→ds.length=ts.length:=by
  intro ts
  induction ts with
  | nil=>intro vs ds ps h;obtain⟨_,rfl,_⟩:=trodAll_nil h;rfl
  | cons t ts ih=>intro vs ds ps h;obtain⟨v,vs',d,ds',p,q,_,rfl,_,_,h2⟩:=trodAll_cons h;simp [ih _ _ _ h2]
 have hdl:ds.length=fn.params.size:=by simpa using hlen _ _ _ _ hA
 have hpl:s.plain.varTypes C.prog=[]:=by
  have:s.plain.vars=s.vars:=rfl;simp [DataSpec.varTypes,ChangeSpec.plain,hvars]
 obtain⟨tss,h1,h2,h3⟩:=qq9 (base:=base) hR fn.params.toList shs args.toList ds p hsh hA (fun j t v ht hv=>hok j t v (by simpa using ht) (by simpa using hv)) (fun x hx=>by
  have:=Bk.1 hw x (by simpa [hpl] using hx);simpa using this)
 refine (zY0 (hc tss h1) (by simpa using h2.symm) (fun j v x hv hx=>h3 j v x (by simpa using hv) hx)).mono ?_;rintro en w' ⟨rfl,hb⟩;refine⟨_,rfl,jn5 hl (fun t ht=>?_) hrt htb hvars (by rw[CW];exact hspec ds hdl) hW0 hb⟩;have:=Bk.1 hpar t ht;simpa using this
end
theorem ZI {E:List T→Prop} {s:Sr} {ss:List Sr} {tss:List (List T)} (h:WQ E (s::ss) tss):∃ t ts,tss=t::ts∧Jc E s t∧WQ E ss ts:=by
 cases tss with
 | nil=>exact h.elim
 | cons t ts=>exact⟨t,ts,rfl,h.1,h.2⟩
theorem zz2 {E:List T→Prop} {tss:List (List T)} (h:WQ E [] tss):tss=[]:=by
 cases tss with
 | nil=>rfl
 | cons t ts=>exact h.elim
theorem Wh {α:Type} {E:List T→Prop} {s:Sr} {c b:Nat} {t:List T} (f:α→T) (p:α→Prop) (hf:∀ x,Jc E s x→∃ a,kG s x=f a∧p a) (h:Jc E (.sl c b s) t) :
 ∃ l:List α,t=[.sl c (l.map f)]∧l.length*b≤140737488351232∧l.length≤9223372036854775807∧∀ a∈l,p a:=by
 obtain⟨xs,rfl,h1,h2,h3⟩:=h;have:∃ l:List α,xs.map (kG s)=l.map f∧∀ a∈l,p a:=by
  clear h1 h2
  induction xs with
  | nil=>exact⟨[],rfl,sMp⟩
  | cons x r ih=>
    obtain⟨l,h4,h5⟩:=ih fun y hy=>h3 y (by simp [hy]);obtain⟨a,h6,h7⟩:=hf x (h3 x sMp).2;exact⟨a::l,by simp [h4,h6],by simpa using ⟨h7,h5⟩⟩
 obtain⟨l,h4,h5⟩:=this;have hl:l.length=xs.length:=by
  have:=congrArg List.length h4;simpa using this.symm
 exact⟨l,by rw[h4],by rw[hl];exact h1,oM,h5⟩
theorem zY2 {E:List T→Prop} {t:List T} (h:Jc E (.sl 1 8 (.int .i64)) t):∃ l:List Int,t=[vIs l]∧l.length*8≤140737488351232:=by
 obtain⟨l,h1,h2,_⟩:=Wh vI (fun _=>True) (fun x hx=>by
  obtain⟨n,rfl,hn⟩:=hx;exact⟨n,rfl,trivial⟩) h
 exact⟨l,h1,h2⟩
theorem zG4 {E:List T→Prop} {t:List T} (h:Jc E (.sl 1 1 (.int .u8)) t):∃ bs:List UInt8,t=[vL bs]∧bs.length≤140737488351232:=by
 obtain⟨l,h1,h2,_⟩:=Wh Qm (fun _=>True) (fun x hx=>by
  obtain⟨n,rfl,hn⟩:=hx;have:=jX5 hn;refine⟨u8 n,?_,trivial⟩;show T.v (.int .u8 n)=_;unfold Qm;rw[jU7,Int.emod_eq_of_lt this.1 oM]) h
 exact⟨l,h1,oM⟩
end Go.TL
