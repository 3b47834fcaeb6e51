/- A part of the proof: trees of Go values, short forms, contracts. -/
import Derived.Test.YthbdcffpkbmlaaaGreatDoorK24
namespace Go.Proofs
open Go Go.TL
set_option maxRecDepth 4000
set_option maxHeartbeats 4000000
abbrev nilT:T:=.v (.slice none 0 0)
def ofT (s:Sch) (ds:List Pk) (i:Nat):List T:=(List.range ds.length).map fun a=>if plD s ds a<i then vIs (ofD s ds a) else nilT
def dmV (s:Sch) (ds:List Pk) (j:Nat):Int:=if dmAt ds ((qK s 2).getD j 0)<ds.length then (dmAt ds ((qK s 2).getD j 0):Int) else -1
def pcP (s:Sch) (ds:List Pk) (i:Nat):List Int:=(List.range (qK s 2).length).map fun j=>if j<i then dmV s ds j else 0
theorem jr9 (s:Sch) (ds:List Pk) (i:Nat):(ofT s ds i).length=ds.length:=by unfold ofT;simp
theorem js0 (s:Sch) (ds:List Pk) (i:Nat):(pcP s ds i).length=(qK s 2).length:=by unfold pcP;simp
theorem jR2 {s:Sch} {ds:List Pk} (hD:DmsOk s ds) {i:Nat} (hi:i<(qK s 2).length) (h:dmAt ds (qK s 2)[i]<ds.length):ofT s ds (i+1)=(ofT s ds i).set (dmAt ds (qK s 2)[i]) (vIs (ofD s ds (dmAt ds (qK s 2)[i])))∧ofT s ds i=(ofT s ds i).set (dmAt ds (qK s 2)[i]) nilT:=by
 have h1:=jB9 hi h;have h2:∀ a,a<ds.length→plD s ds a=i→a=dmAt ds (qK s 2)[i]:=fun a ha e=>(zV7 hD hi ha e).symm;refine⟨zf2 (plD s ds) (fun a=>vIs (ofD s ds a)) nilT _ _ _ h1 h2,?_⟩;generalize dmAt ds (qK s 2)[i]=m at h h1;have e:(ofT s ds i)[m]'(by rw[jr9];exact h)=nilT:=by
  unfold ofT;rw[Fj,List.getElem_range,Aq oM]
 exact (by rw[← e,List.set_getElem_self]:(ofT s ds i).set m nilT=ofT s ds i).symm
theorem jY6 {s:Sch} {ds:List Pk} (hD:DmsOk s ds) {i:Nat} (hi:i<(qK s 2).length) (h:¬ dmAt ds (qK s 2)[i]<ds.length):ofT s ds (i+1)=ofT s ds i:=
 jq4 _ _ _ _ _ fun a ha e=>h (by rw[zV7 hD hi ha e];exact ha)
theorem jR3 {s:Sch} {ds:List Pk} (hD:DmsOk s ds):ofT s ds (qK s 2).length=((List.range ds.length).map (ofD s ds)).map vIs:=by
 rw[Gz];exact Ew fun a ha=>Aj (zQ0 hD (Dk.1 ha))
theorem jC6 (s:Sch) (ds:List Pk):ofT s ds 0=List.replicate ds.length nilT:=by
 unfold ofT;rw[Ew (g:=fun _=>nilT) fun a _=>Aq oM];exact List.eq_replicate_iff.2 ⟨sMp,sMp⟩
theorem jR4 (s:Sch) (ds:List Pk) (i:Nat):pcP s ds (i+1)=(pcP s ds i).set i (dmV s ds i):=zf2 (fun j=>j) (dmV s ds) 0 _ _ _ rfl fun _ _ h=>h
theorem jC7 (s:Sch) (ds:List Pk):pcP s ds 0=List.replicate (qK s 2).length 0:=by
 unfold pcP;rw[Ew (g:=fun _=>(0:Int)) fun a _=>Aq oM];exact List.eq_replicate_iff.2 ⟨sMp,sMp⟩
theorem jR5 (s:Sch) (ds:List Pk):pcP s ds (qK s 2).length=(List.range (qK s 2).length).map (dmV s ds):=
 Ew fun a ha=>Aj (Dk.1 ha)
theorem jK0 {s:Sch} {ds:List Pk} {j:Nat} (h:j<(qK s 2).length):dmV s ds j=if dmAt ds (qK s 2)[j]<ds.length then (dmAt ds (qK s 2)[j]:Int) else -1:=by
 unfold dmV;rw[qg h]
theorem zu8 (n:Int):∀ (l:List Int) (j:Nat) (h:j<l.length),(zB l n).getD j 0=(zy (l.drop (j+1)) n).2 % l[j]
 | [],_,h=>by simp at h
 | k::r,0,_=>rfl
 | k::r,j+1,h=>by
   have:=zu8 n r j (by simpa using h);rw[List.getElem_cons_succ,List.drop_succ_cons,← this]
   rfl
theorem jC8 {l:List T} {k:Nat} (v:T) (h:k<l.length):(l.set k v).getD k .junk=v:=by
 rw[CY,List.getElem?_set_self h];rfl
theorem qF2 {st:Sto} {ρ:Ren} {B:List Nat} {k:Nat} {x y:T} (h:x.cells.length=k∧y.cells.length=k∧ltCs st ρ B x.cells y.cells) {a b:List T} (i:Nat) (h2:ltXs st ρ B k a b):ltXs st ρ B k (a.set i x) (b.set i y):=by
 refine⟨by rw[Fw,Fw];exact h2.1,fun j u v hu hv=>?_⟩;rw[List.getElem?_set] at hu hv;by_cases e:i=j
 ·rw[Aj e] at hu hv;split at hu
  ·split at hv
   ·obtain rfl:=Option.some.inj hu;obtain rfl:=Option.some.inj hv;exact h
   ·cases hv
  ·cases hu
 ·rw[Aq e] at hu hv;exact h2.2 j u v hu hv
theorem Qx (s:Sch) (ds:List Pk) (i:Nat):ImXs 1 (ofT s ds i):=by
 unfold ofT;refine qH (fun a=>?_) _;split <;> exact⟨rfl,rfl⟩
theorem jR6 (f:Int→Int) (l:List Int):(grpF f l).1.length=l.length∧(grpF f l).2.length≤l.length:=⟨(zs6 f l).len,(zs6 f l).le⟩
set_option maxHeartbeats 8000000
theorem zu9 (t:Tbl) (codes:List Int) (hn:t.cells.length<4611686018427387904) (hl:∀ c∈t.cells,c.codes.length<4611686018427387904):Sp 61 [tblT t,vIs codes] [] (vI (fndC t.cells codes)) []:=by
 refine sIr qX6 fun e _ hst=>?_;unfold Jp;refine sW ?_;refine qk mixm (α:=Nat) [5] (fun i=>i≤t.cells.length∧(t.cells.take i).any (fun c=>ZH c.codes codes)=false) (fun i=>[(5,vI i)]) (fun i=>[aR 4096 3 [tblT t]]) (fun i=>t.cells.length-i) 0 ⟨oM,rfl⟩ ?_ fun i hi=>?_
 ·exact .oA (U1 4096) []
 refine sD ?_;refine⟨fun h2=>?_,fun h2=>?_⟩
 ·have hi2:i<t.cells.length:=by omega
  have hwi:=qh (i:=i) oM;have sI:=zq4 t.cells[i].codes codes (hl _ (AX hi2));simp only[tZ,↓uU,simprocAttr,Ax,qd hi2];refine⟨oM,?_⟩;refine C1.im sI rF rF ?_;simp only[tZ,↓uU,simprocAttr,hwi];refine⟨fun h3=>?_,fun h3=>?_⟩
  ·have h4:t.cells.any (fun c=>ZH c.codes codes)=true:=DJ.2 ⟨_,AX hi2,h3⟩;have h5:=jt (p:=fun c:TCl=>ZH c.codes codes) hi2 hi.2 h3;unfold fndC;rw[Aj h4,h5];exact .oA [] []
  ·refine⟨i+1,⟨oM,zG hi2 hi.2 h3⟩,oM,?_⟩;exact .oA (U1 4096) []
 ·have hil:i=t.cells.length:=by omega
  have h5:=hi.2;rw[hil,Bw] at h5;unfold fndC;rw[Aq (by rw[h5];simp)];exact .oA [] []
theorem zf7 (s:Sch) (hok:SchOk s) (c:Nat) (hc:c<s.cols.length) (h2:(qj s c).kind=2) (lev:Int):Sp 59 [schT s,vI c,vI lev] [] (vIs ((qJ s c).map fun v=>upC (qQ s c) v lev)) []:=by
 have hat:qj s c=s.cols[c]:=by rw[qj,qg hc]
 obtain⟨d1,d2⟩:=hok.cdl hc h2;obtain⟨d3,d4⟩:=(zi (hok.cs c hc)).2.2.2.1 h2;have hcl:qQ s c=s.lists.getD s.cols[c].list.toNat default:=by rw[qQ,hat]
 have hlp:=ze d2;rw[hat] at d1 d3 d4;have hgl:s.lists.getD s.cols[c].list.toNat default=s.lists[s.cols[c].list.toNat]:=qg d1;have hll:=jn hok hc h2;have sL:=ZL s hok c hc h2;obtain⟨f,hf⟩:∃ f:Int→Int,f=fun v=>upC (qQ s c) v lev:=⟨_,rfl⟩;have hU:∀ v,Sp 110 [cdlT s.lists[s.cols[c].list.toNat],vI v,vI lev] [] (vI (f v)) []:=fun v=>by
  have:=qj6 s.lists[s.cols[c].list.toNat] v lev (by rw[hcl,hgl] at hlp;omega);rw[hf,hcl,hgl];exact this
 rw[← hf];generalize qJ s c=L at sL hll;refine sIr qH9 fun e _ hst=>?_;unfold QZ;simp only[tZ,↓uU,simprocAttr,Ax,qd hc,qd d1];refine⟨oM,oM,kR,?_⟩;refine C1.im sL rF rF ?_;refine sW ?_;refine qk mixm (α:=Nat) [7,25] (fun i=>i≤L.length) (fun i=>[(7,.asl 1 i),(25,vI i)]) (fun i=>[aR 12328 2 [cdlT s.lists[s.cols[c].list.toNat]],aR 1 1 (((L.take i).map f).map vI)]) (fun i=>L.length-i) 0 oM ?_ fun i hi=>?_
 ·show Le _ _ ⟨_,[aR 12328 2 [cdlT s.lists[s.cols[c].list.toNat]],aR 1 1 []]⟩;exact .oA [uI 12328,(1,none)] []
 have hil2:((L.take i).map f).length=i:=by rw[BY,Cz];omega
 refine sD ?_;refine⟨fun h2=>?_,fun h2=>?_⟩
 ·have hi2:i<L.length:=by omega
  have hwi:=qh (i:=i) oM;have sU:=hU L[i];have hsn:(L.take (i+1)).map f=(L.take i).map f++[f L[i]]:=by rw[qz hi2,By];rfl
  generalize (L.take i).map f=Y at hil2 hsn;simp only[tZ,↓uU,simprocAttr,Ax,qd hi2];refine⟨oM,?_⟩;refine C1.im sU rF rF ?_;simp only[tZ,↓uU,simprocAttr,hwi];refine⟨⟨oM,oM⟩,i+1,oM,oM,?_⟩;rw[hsn];exact .oA (U2 12328 1) []
 ·have hil:i=L.length:=by omega
  subst hil;rw[Bw];exact .oA [] [1]
theorem qg6 (s:Sch) (hs:jO s):Sp 13 [schT s] [] (.tup [spT (spcS s),vIs (spcC s),vI (spcE s)]) []:=by
 have hV:=zt s hs;refine zU [13] qG2 mixm sMp fun e _ hst=>kL ?_;unfold QR;simp only[wV,List.contains_cons,List.contains_nil,Nat.reduceBEq,Bool.or_false,Bool.or_true,Bool.true_or,Bool.false_or,cond_true,cond_false];refine sW ?_;refine C1.im hV rF rF ?_;simp only[tZ,↓uU,simprocAttr,Bj,Aw];refine⟨fun h=>?_,fun h=>?_⟩
 ·have e:spcE s=schE s:=Aj h;have e1:spcS s=[]:=Aj (by rw[e];exact h);have e2:spcC s=[]:=Aj (by rw[e];exact h);rw[e,e1,e2];exact .oA [] []
 have hok:=qU h;have e:spcE s=chkS (spSz s):=Aq (by rw[h];simp);have hnc:=hok.nc;refine qk mixm (α:=Nat) [7,20] (fun i=>i≤s.cols.length) (fun i=>[(7,.asl 2 (wN s 2 i).length),(20,vI i)]) (fun i=>[aR 4096 2 [schT s],aR 4100 1 [spT []],aR 20480 1 [.agg [.asl 1 (wN s 2 i).length]],aR 1 1 ((szF s i).map vI),aR 2 1 ((wN s 2 i).map vI)]) (fun i=>s.cols.length-i) 0 oM ?_ fun i hi=>?_
 ·show Le _ _ ⟨_,[aR 4096 2 [schT s],aR 4100 1 [spT []],aR 20480 1 [.agg [.asl 1 0]],aR 1 1 [],aR 2 1 []]⟩;exact .oA [uI 4096,uI 4100,uI 20480,(1,none),(2,none)] []
 have hfl:=Qt s 2 i;have hzl:=jq6 s i;refine sD ?_;refine⟨fun h2=>?_,fun h2=>?_⟩
 ·have hi2:i<s.cols.length:=by omega
  have hwi:=qh (i:=i) oM;have hat:qj s i=s.cols[i]:=by rw[qj,qg hi2]
  have hsu:=jv s 2 i;have hzu:=zQ1 s i;simp only[tZ,↓uU,simprocAttr,Ax,qd hi2,hwi,AY,Ak];refine⟨oM,fun h3=>?_,fun h3=>?_⟩
  ·rw[← hat] at h3;have sL:=ZL s hok i hi2 h3;rw[Aj h3] at hsu hzu;refine C1.im sL rF rF ?_;refine sW ?_;refine⟨oM,oM,kR,oM,i+1,oM,oM,?_⟩;rw[hsu,hzu];exact .oA (U5 4096 4100 20480 1 2) []
  ·rw[← hat] at h3;rw[Aq h3,CW] at hsu hzu;refine⟨i+1,oM,oM,?_⟩;rw[hsu,hzu];exact .oA (U5 4096 4100 20480 1 2) []
 ·have hil:i=s.cols.length:=by omega
  subst hil;have hz:szF s s.cols.length=spSz s:=rfl;rw[hz] at hzl ⊢
  have hcl:(wN s 2 s.cols.length)=qK s 2:=rfl;rw[hcl] at hzl hfl ⊢
  refine W_le [(2,.ptr 4100 1 0 0),(6,.ptr 20480 1 0 0),(7,vIs (qK s 2))] [aR 4100 1 [spT []],aR 20480 1 [spT (spSz s)]] ?_ ?_
  ·refine .of (U2 4100 20480) [1,2] rfl (by first | rfl | (rw[hst];rfl)) ?_ ?_
   all_goals (try simp only[tL,simprocAttr,By,List.map_cons,List.map_nil,BW,Cy,hzl])
   all_goals (try (repeat' (first | exact qZ | (apply zk;intro _;exact⟨rfl,rfl⟩) | (apply qH;intro _;exact⟨rfl,rfl⟩) | with_reducible apply qV | with_reducible refine qW ⟨rfl,rfl⟩ ?_ | exact zd | with_reducible apply qR | with_reducible refine qY ⟨rfl,rfl,?_⟩ ?_ | with_reducible apply Az | exact qS rfl | exact qS (by assumption) | (refine⟨⟨?_,rfl,?_,rfl,?_⟩,trivial⟩ <;> first | (simp;done) | (apply qH;intro _;exact⟨rfl,rfl⟩)) | trivial | rfl | (rw[qh oM]) | omega)))
   show ltCs _ _ _ [T.asl 1 (qK s 2).length] [vIs (spSz s)];simp only[tL,simprocAttr];exact⟨hzl,(by apply qH;intro _;exact⟨rfl,rfl⟩)⟩
  have sC:=ze9 (spSz s) oM;refine sW ?_;refine C1.im sC rF rF ?_;simp only[tZ,↓uU,simprocAttr,Bj,Aw];refine⟨fun h3=>?_,fun h3=>?_⟩
  ·have e1:spcS s=[]:=Aj (by rw[e];exact h3);have e2:spcC s=[]:=Aj (by rw[e];exact h3);rw[e,e1,e2];exact .oA [] []
  ·have e1:spcS s=spSz s:=Aq (by rw[e,h3];simp);have e2:spcC s=qK s 2:=Aq (by rw[e,h3];simp);rw[e,e1,e2,h3];exact .oA [] []
set_option maxHeartbeats 16000000
theorem jR7 {s:Sch} (hE:schE s=0) {p:Pk} (h0:0≤p.col) (h1:p.col<s.cols.length) (hk:(qj s p.col.toNat).kind=2):jj s p=0↔0≤p.lev∧p.lev<zC (qQ s p.col.toNat):=by
 have hc0:=(qU hE).c0;have hne:p.col≠0:=fun e=>by rw[e] at hk;rw[show (0:Int).toNat=0 from rfl,hc0] at hk;cases hk
 have hf:finI s p.col=zC (qQ s p.col.toNat)-1:=by rw[finI,Aq oM,Aj hk]
 constructor
 ·intro h;have:=jC h;omega
 ·intro h;rw[jj,Aq (by rw[hE];simp),Aq oM,Aq];rw[hf,Ez,inB];simp only[Bq,AZ];omega
theorem jR8 {s:Sch} {l:List Pk} {i:Nat} (hi:i<l.length) (h:l[i].col<0∨l[i].col≥s.cols.length):qk8 s l i=false:=by
 rw[qk8,qg hi,Ak.2 (fun e=>by have:=jC e;omega)]
 rfl
theorem js1 (k:Nat) (st:Sto) (x:T):ixLR k st x T.junk=none:=by
 unfold ixLR
 rfl
theorem js2 (l:Option Nat) (st:Sto):ldR l st (T.v undef)=none:=by
 cases l <;> rfl
theorem qs9 {st:Sto} {ρ:Ren} {B:List Nat} (s:Sch) (ds:List Pk) (i k m:Nat) (h:TL.get ρ 4=some (some 4)):ltXs st ρ B 1 ((ofT s ds i).set k (T.asl 4 m)) ((ofT s ds i).set k (T.asl 4 m)):=by
 refine qF2 (k:=1) ⟨rfl,rfl,?_⟩ k (je (Qx s ds i));show ltCs _ _ _ [T.asl 4 _] [T.asl 4 _];simp [ltCs,ltC,ltC0,h]
theorem zf8 (s:Sch) (hs:jO s) (t:Tbl) (n:Int) (hd:t.dims.length<1000) (hcn:t.cells.length<4611686018427387904) (hcl:∀ c∈t.cells,c.codes.length<4611686018427387904):Sp 15 [schT s,tblT t,vI n] [] (.tup [rlsT (wtbR s t n),vI (wtbE s t n)]) []:=by
 have sSp:=qg6 s hs;have hsp:=jr4 (s:=s) (t:=t) (n:=n);have hdm:=jJ7 (s:=s) (t:=t) (n:=n);have hno:=fun h h2 k hk h3=>jJ8 (s:=s) (t:=t) (n:=n) h h2 (k:=k) hk h3;have hbd:=jr6 (s:=s) (t:=t) (n:=n);have hgd:=jJ9 (s:=s) (t:=t) (n:=n);generalize wtbE s t n=E at hsp hdm hno hbd hgd ⊢
 generalize wtbR s t n=Z at hsp hdm hno hbd hgd ⊢
 refine zU [39,43,44] qG4 mixm sMp fun e _ hst=>kL ?_;unfold QS;simp only[wV,List.contains_cons,List.contains_nil,Nat.reduceBEq,Bool.or_false,Bool.or_true,Bool.true_or,Bool.false_or,cond_true,cond_false];refine sW ?_;refine C1.im sSp rF rF ?_;simp only[tZ,↓uU,simprocAttr,Bj,Aw];refine⟨fun h=>?_,fun h=>?_⟩
 ·obtain⟨a1,a2⟩:=hsp h;rw[a1,a2];exact .oA [] []
 have hSp0:schE s=0∧chkS (spSz s)=0:=by
  unfold spcE at h;split at h
  ·rename_i h2;exact absurd h h2
  ·rename_i h2;exact⟨AQ h2,h⟩
 obtain⟨hE,hS⟩:=hSp0;have hok:=qU hE;have hnc:=hok.nc;have e1:spcS s=spSz s:=Aq (by rw[h];simp);have e2:spcC s=qK s 2:=Aq (by rw[h];simp);rw[e1,e2];have hnoD:=fun i (hi:i<t.dims.length) h2=>hdm h (jr7 (s:=s) hi h2);refine qk mixm (α:=Nat) [50] (fun i=>i≤t.dims.length∧∀ j,j<i→qk8 s t.dims j=true) (fun i=>[(50,vI i)]) (fun i=>[aR 4096 2 [schT s],aR 4100 3 [tblT t],aR 4104 3 [rlsT ⟨0,[],[]⟩]]) (fun i=>t.dims.length-i) 0 ⟨oM,fun j h=>by omega⟩ ?_ fun i hi=>?_
 ·exact .oA (U3 4096 4100 4104) []
 refine sD ?_;refine⟨fun h2=>?_,fun h2=>?_⟩
 ·have hi2:i<t.dims.length:=by omega
  have hwi:=qh (i:=i) oM;have hA:qk8 s t.dims i=((jj s t.dims[i]==0)&&((qj s t.dims[i].col.toNat).kind==2)&&(t.dims.take i).all fun x=>x.col != t.dims[i].col):=by rw[qk8,qg hi2]
  have hout:=jR8 (s:=s) hi2;have hpc:=jR7 hE (p:=t.dims[i]);have hnoi:=hnoD i hi2;simp only[tZ,↓uU,simprocAttr,Ax,qd hi2];refine⟨oM,?_⟩;generalize t.dims[i]=d at hA hout hpc ⊢
  by_cases h3:d.col<0
  ·obtain⟨a1,a2⟩:=hnoi (hout (.inl h3));rw[a1,a2];have q0:d.col.toNat=0:=by omega
   have hc0:0<s.cols.length:=by omega
   simp only[tZ,↓uU,simprocAttr,h3,decide_true,q0,qd hc0];refine C2.no (fun h=>h) ?_;simp only[tZ,↓uU,simprocAttr,qv1,YZ,QN,not_false_eq_true,true_and,show binR BinOp.geq false (vI d.lev) (T.v undef)=none from rfl];refine⟨kR,?_⟩;exact .oA [] []
  by_cases h4:d.col≥s.cols.length
  ·obtain⟨a1,a2⟩:=hnoi (hout (.inr h4));rw[a1,a2];have hj:(s.cols.map colT).getD d.col.toNat .junk = .junk:=by
    rw[CY,List.getElem?_eq_none (by rw[BY];omega)];rfl
   simp only[tZ,↓uU,simprocAttr,h3,h4,decide_true,decide_false,hj,show binR BinOp.neq false ((List.drop 1 T.junk.cells).getD 0 T.junk) (T.v (Value.int IntKind.i64 2))=none from rfl,qv1,YZ,QN,js1,js2,not_false_eq_true,true_and];refine C2.no (fun h=>h) ?_;simp only[tZ,↓uU,simprocAttr,qv1,YZ,QN,not_false_eq_true,true_and,show binR BinOp.geq false (vI d.lev) (T.v undef)=none from rfl];refine⟨kR,?_⟩;exact .oA [] []
  obtain⟨c,hc⟩:=AJ (show 0≤d.col by omega);have hc2:c<s.cols.length:=by omega
  have hat:qj s c=s.cols[c]:=by rw[qj,qg hc2]
  rw[hc,Ax] at hpc hA;have hpc:=hpc oM oM;have u1:decide ((c:Int)<0)=false:=Cq oM;have u2:decide ((s.cols.length:Int)≤(c:Int))=false:=Cq oM;by_cases h5:s.cols[c].kind=2
  ·have hk2:=hat ▸ h5;obtain⟨d1,d2⟩:=hok.cdl hc2 hk2;obtain⟨d3,d4⟩:=(zi (hok.cs c hc2)).2.2.2.1 hk2;have hcl2:qQ s c=s.lists.getD s.cols[c].list.toNat default:=by rw[qQ,hat]
   obtain⟨_,_,d6⟩:=ze d2;rw[hat] at d1 d3 d4;have hgl:s.lists.getD s.cols[c].list.toNat default=s.lists[s.cols[c].list.toNat]:=qg d1;have sLv:=jY s.lists[s.cols[c].list.toNat] (by rw[hcl2,hgl] at d6;omega);rw[hcl2,hgl] at hpc;have hpc:=hpc hk2;simp only[tZ,↓uU,simprocAttr,hc,u1,u2,h5,Ax,qd hc2,qd d1];refine⟨oM,fun _=>by omega,fun _=>by omega,?_⟩;refine C2.im (fun _=>sLv) (fun _=>rfl) rF ?_;refine sD ?_;refine⟨kR,fun h6=>?_,fun h6=>?_⟩
   ·obtain⟨a1,a2⟩:=hnoi (by rw[hA,Ak.2 (fun e=>by have:=hpc.1 e;omega)];rfl);rw[a1,a2];exact .oA [] []
   rw[hpc.2 oM,hat,h5] at hA;refine⟨oM,?_⟩;rw[QO,qw5];have hL:(t.dims.take i).length=i:=by rw[Cz];omega
   generalize t.dims.take i=L at hA hL ⊢
   refine sW ?_;refine qk mixm (α:=Nat) [104] (fun k=>k≤L.length∧(L.take k).any (fun x=>x.col==(c:Int))=false) (fun k=>[(104,vI k)]) (fun k=>[aR 4096 2 [schT s],aR 4100 3 [tblT t],aR 4104 3 [rlsT ⟨0,[],[]⟩],aR 28684 2 [.agg [vI c,vI d.lev]]]) (fun k=>L.length-k) 0 ⟨oM,rfl⟩ ?_ fun k hk=>?_
   ·exact .oA (U4 4096 4100 4104 28684) []
   refine sD ?_;refine⟨fun h7=>?_,fun h7=>?_⟩
   ·have hk2:k<L.length:=by omega
    have hwk:=qh (i:=k) oM;simp only[tZ,↓uU,simprocAttr,Ax,qd hk2,hwk];refine⟨oM,fun h8=>?_,fun h8=>?_⟩
    ·obtain⟨a1,a2⟩:=hnoi (by
      rw[hA];simp only[beq_self_eq_true,Fq];rw[List.all_eq_false];exact⟨L[k],AX hk2,by rw[AY.1 h8];simp⟩)
     rw[a1,a2];exact .oA [] []
    ·refine⟨k+1,⟨oM,zG hk2 hk.2 h8⟩,oM,?_⟩;exact .oA (U4 4096 4100 4104 28684) []
   ·have hkl:k=L.length:=by omega
    have h9:=hk.2;rw[hkl,Bw] at h9;simp only[tZ,↓uU,simprocAttr,hwi];refine⟨i+1,⟨oM,fun j hj=>?_⟩,oM,?_⟩
    ·by_cases e:j=i
     ·subst e;rw[hA];simp only[beq_self_eq_true,Fq];rw[Bk];intro x hx;have:=List.any_eq_false.1 h9 x hx;simpa using this
     ·exact hi.2 j oM
    exact .oA (U3 4096 4100 4104) []
  ·have u3:(s.cols[c].kind != 2)=true:=Bj.2 h5;have u4:((qj s c).kind==2)=false:=Ak.2 (by rw[hat];exact h5);obtain⟨a1,a2⟩:=hnoi (by rw[hA,u4];simp);rw[a1,a2];simp only[tZ,↓uU,simprocAttr,hc,u1,u2,u3,Ax,qd hc2];refine⟨oM,?_⟩;refine C2.no (fun h=>h) ?_;simp only[tZ,↓uU,simprocAttr,qv1,YZ,QN,not_false_eq_true,true_and,show binR BinOp.geq false (vI d.lev) (T.v undef)=none from rfl];refine⟨kR,?_⟩;exact .oA [] []
 have hB:qf4 s t.dims=true:=Bk.2 fun j hj=>hi.2 j (by have:=Dk.1 hj;omega);clear hi h2;have hD:=ze6 hB;have hV:=ze2 hE hS t.dims;have hSl:=qs8 s;have hcl4:(qK s 2).length≤4:=by have:=hV.sp.len;omega
 have htn:(t.dims.length:Int).toNat=t.dims.length:=Ax _;have htc:((qK s 2).length:Int).toNat=(qK s 2).length:=Ax _;have z1:=jC6 s t.dims;have z2:=jC7 s t.dims;refine⟨oM,oM,?_⟩;refine qk mixm (α:=Nat) [127] (fun i=>i≤(qK s 2).length) (fun i=>[(127,vI i),(16,.asl 73740 t.dims.length),(17,.asl 77832 (qK s 2).length)]) (fun i=>[aR 4096 2 [schT s],aR 4100 3 [tblT t],aR 4104 3 [rlsT ⟨0,[],[]⟩],aR 69640 3 [.agg [vI n,.asl 1 i,.asl 2 0]],aR 73740 1 (ofT s t.dims i),aR 77832 1 ((pcP s t.dims i).map vI),aR 1 1 (((tabG s t.dims).take i).map vIs),aR 2 1 []]) (fun i=>(qK s 2).length-i) 0 oM ?_ fun i hi=>?_
 ·have him:=Qx s t.dims 0;rw[z2];rw[z1] at him ⊢
  simp only[htn,htc];refine .of [uI 4096,uI 4100,uI 4104,uI 69640,uI 73740,uI 77832,(1,none),(2,none)] [] rfl (by first | rfl | (rw[hst];rfl)) ?_ ?_
  all_goals (try simp only[tL,simprocAttr,By,List.map_cons,List.map_nil,BW,Cy,zD0])
  all_goals (try (repeat' (first | exact qZ | (apply zk;intro _;exact⟨rfl,rfl⟩) | (apply qH;intro _;exact⟨rfl,rfl⟩) | with_reducible apply qV | with_reducible refine qW ⟨rfl,rfl⟩ ?_ | exact zd | with_reducible apply qR | with_reducible refine qY ⟨rfl,rfl,?_⟩ ?_ | with_reducible apply Az | exact qS rfl | exact qS (by assumption) | (refine⟨⟨?_,rfl,?_,rfl,?_⟩,trivial⟩ <;> first | (simp;done) | (apply qH;intro _;exact⟨rfl,rfl⟩)) | trivial | rfl | (rw[qh oM]) | omega)))
  exact je him
 have hgl:=zf6 s t.dims;have hgi:((tabG s t.dims).take i).length=i:=by rw[Cz];omega
 have hol:=jr9 s t.dims i;have hpl:=js0 s t.dims i;refine sD ?_;refine⟨fun h3=>?_,fun h3=>?_⟩
 ·have hi2:i<(qK s 2).length:=by omega
  have hwi:=qh (i:=i) oM;have hcd:=jp3 (AX hi2);have hsn:=zu7 s t.dims hi2;have hvw:vwG s t.dims (qK s 2)[i]=if dmAt t.dims (qK s 2)[i]<t.dims.length then (grpL s (qK s 2)[i].toNat (t.dims.getD (dmAt t.dims (qK s 2)[i]) default).lev).1 else List.replicate (qJ s (qK s 2)[i].toNat).length 0:=rfl
  have hhit:=jR2 hD hi2;have hnoh:=jY6 hD hi2;have hpc:=jR4 s t.dims i;rw[jK0 hi2] at hpc;have hofd:∀ a,ofD s t.dims a=(grpL s (t.dims.getD a default).col.toNat (t.dims.getD a default).lev).2:=fun _=>rfl;have hdg:∀ h:dmAt t.dims (qK s 2)[i]<t.dims.length,(t.dims[dmAt t.dims (qK s 2)[i]]'h).col=(qK s 2)[i]:=fun h=>qs6 h;have hun:∀ (k:Nat) (hk:k<t.dims.length),t.dims[k].col=(qK s 2)[i]→k=dmAt t.dims (qK s 2)[i]:=fun k hk e=>by rw[← e,hD.at_ hk]
  have hdg2:∀ (k:Nat) (hk:k<t.dims.length),k=dmAt t.dims (qK s 2)[i]→t.dims[k].col=(qK s 2)[i]:=fun k hk e=>by subst e;exact qs6 hk
  have hpi:i<(pcP s t.dims i).length:=by omega
  simp only[tZ,↓uU,simprocAttr,Ax,qd hi2,qd hpi,show ∀ a b:Int,repl (vI a) 0 (vI b)=vI b from fun _ _=>rfl]
  repeat (first | refine⟨⟨oM,oM,rfl⟩,?_⟩ | refine⟨⟨oM,oM⟩,?_⟩ | refine⟨oM,?_⟩)
  rw[← List.map_set];generalize (qK s 2)[i]=c at hcd hsn hvw hhit hnoh hpc hdg hdg2 hun ⊢
  have hrg:=hcd.rng;have hkd:=hcd.kind;obtain⟨cn,rfl⟩:=AJ hrg.1;rw[Ax] at hkd hvw;have hll:=jn hok (i:=cn) oM hkd;obtain⟨a,ha⟩:∃ a,a=dmAt t.dims (cn:Int):=⟨_,rfl⟩;rw[← ha] at hvw hhit hnoh hpc hun hdg2;refine qk mixm (α:=Nat) [20,138] (fun k=>k≤t.dims.length) (fun k=>[(20,.asl 3 (if a<k then vwG s t.dims (cn:Int) else []).length),(138,vI k)]) (fun k=>[aR 4096 2 [schT s],aR 4100 3 [tblT t],aR 4104 3 [rlsT ⟨0,[],[]⟩],aR 69640 3 [.agg [vI n,.asl 1 i,.asl 2 0]],aR 73740 1 (if a<k then ofT s t.dims (i+1) else ofT s t.dims i),aR 77832 1 ((if a<k then pcP s t.dims (i+1) else (pcP s t.dims i).set i (-1)).map vI),aR 1 1 (((tabG s t.dims).take i).map vIs),aR 2 1 [],aR 3 1 ((if a<k then vwG s t.dims (cn:Int) else []).map vI)]) (fun k=>t.dims.length-k) 0 oM ?_ fun k hk=>?_
  ·have him:=Qx s t.dims i;simp only[Aq (show ¬ a<0 by omega)];show Le _ _ ⟨_,[aR 4096 2 [schT s],aR 4100 3 [tblT t],aR 4104 3 [rlsT ⟨0,[],[]⟩],aR 69640 3 [.agg [vI n,.asl 1 i,.asl 2 0]],aR 73740 1 (ofT s t.dims i),aR 77832 1 (((pcP s t.dims i).set i (-1)).map vI),aR 1 1 (((tabG s t.dims).take i).map vIs),aR 2 1 [],aR 3 1 []]⟩;exact .oA [uI 4096,uI 4100,uI 4104,uI 69640,uI 73740,uI 77832,uI 1,uI 2,(3,none)] []
  refine sD ?_;refine⟨fun h5=>?_,fun h5=>?_⟩
  ·have hk2:k<t.dims.length:=by omega
   have hwk:=qh (i:=k) oM;have hunk:=hun k hk2;simp only[tZ,↓uU,simprocAttr,Ax,qd hk2,AY,Ak];refine⟨oM,fun h6=>?_,fun h6=>?_⟩
   ·have hka:=hunk h6;subst hka;obtain⟨q1,q2⟩:=hhit hk2;rw[Aj hk2] at hpc hvw;rw[qg hk2] at hvw;have hof:=hofd k;rw[qg hk2,h6,Ax] at hof;have sA:=zf7 s hok cn oM hkd t.dims[k].lev;obtain⟨f,hf⟩:∃ f:Int→Int,f=fun v=>upC (qQ s cn) v t.dims[k].lev:=⟨_,rfl⟩;have hgr:grpL s cn t.dims[k].lev=grpF f (qJ s cn):=by rw[hf];rfl
    rw[← hf] at sA;rw[hgr] at hvw hof;clear hhit hnoh hdg hdg2 hun hofd hunk hf hgr;generalize qJ s cn=L at sA hvw hof hll ⊢
    simp only[Aq (show ¬ k<k by omega)];have hpi2:i<((pcP s t.dims i).set i (-1)).length:=by rw[Fw];exact hpi
    simp only[tZ,↓uU,simprocAttr,Ax,qd hpi2,Fw,show ∀ a b:Int,repl (vI a) 0 (vI b)=vI b from fun _ _=>rfl];refine⟨oM,oM,?_⟩;rw[← List.map_set,List.set_set,← hpc];refine C1.im sA rF rF ?_;have hx:=fun j=>jR6 f (L.take j);have hUl:(L.map f).length=L.length:=BY _;simp only[tZ,↓uU,simprocAttr,hUl];refine qk mixm (α:=Nat) [20,157] (fun j=>j≤L.length) (fun j=>[(20,.asl 3 (grpF f (L.take j)).1.length),(157,vI j)]) (fun j=>[aR 4096 2 [schT s],aR 4100 3 [tblT t],aR 4104 3 [rlsT ⟨0,[],[]⟩],aR 69640 3 [.agg [vI n,.asl 1 i,.asl 2 0]],aR 73740 1 ((ofT s t.dims i).set k (.asl 4 (grpF f (L.take j)).2.length)),aR 77832 1 ((pcP s t.dims (i+1)).map vI),aR 1 1 (((tabG s t.dims).take i).map vIs),aR 2 1 [],aR 3 1 ((grpF f (L.take j)).1.map vI),aR 4 1 ((grpF f (L.take j)).2.map vI)]) (fun j=>L.length-j) 0 oM ?_ fun j hj=>?_
    ·show Le _ _ ⟨_,[aR 4096 2 [schT s],aR 4100 3 [tblT t],aR 4104 3 [rlsT ⟨0,[],[]⟩],aR 69640 3 [.agg [vI n,.asl 1 i,.asl 2 0]],aR 73740 1 ((ofT s t.dims i).set k (.asl 4 0)),aR 77832 1 ((pcP s t.dims (i+1)).map vI),aR 1 1 (((tabG s t.dims).take i).map vIs),aR 2 1 [],aR 3 1 [],aR 4 1 []]⟩;rw[q2];simp only[List.set_set];refine .of [uI 4096,uI 4100,uI 4104,uI 69640,uI 73740,uI 77832,uI 1,uI 2,uI 3,(4,none)] [] rfl (by first | rfl | (rw[hst];rfl)) ?_ ?_
     all_goals (try simp only[tL,simprocAttr,By,List.map_cons,List.map_nil,BW,Cy])
     all_goals (try (repeat' (first | exact qZ | (apply zk;intro _;exact⟨rfl,rfl⟩) | (apply qH;intro _;exact⟨rfl,rfl⟩) | with_reducible apply qV | with_reducible refine qW ⟨rfl,rfl⟩ ?_ | exact zd | with_reducible apply qR | with_reducible refine qY ⟨rfl,rfl,?_⟩ ?_ | with_reducible apply Az | exact qS rfl | exact qS (by assumption) | (refine⟨⟨?_,rfl,?_,rfl,?_⟩,trivial⟩ <;> first | (simp;done) | (apply qH;intro _;exact⟨rfl,rfl⟩)) | trivial | rfl | (rw[qh oM]) | omega)))
     refine qF2 (k:=1) ⟨rfl,rfl,?_⟩ k (je (Qx s t.dims i));show ltCs _ _ _ [nilT] [T.asl 4 0];simp [ltCs,ltC,ltC0,TL.get]
    have hxj:=hx j;have hLj:(L.take j).length=j:=by rw[Cz];omega
    rw[hLj] at hxj;have hsj:=fun h:j<L.length=>qf3 f h;refine sD ?_;refine⟨fun h7=>?_,fun h7=>?_⟩
    ·have hj2:j<L.length:=by omega
     have hwj:=qh (i:=j) oM;have hsj:=hsj hj2;unfold YX at hsj;generalize grpF f (L.take j)=x at hxj hsj;have hj3:j<(L.map f).length:=by omega
     have hUj:(L.map f)[j]=f L[j]:=Fj ..
     simp only[tZ,↓uU,simprocAttr,Ax,qd hj3,hUj];refine⟨oM,?_⟩;generalize f L[j]=v at hsj ⊢
     have hols:((ofT s t.dims i).set k (T.asl 4 x.2.length)).length=t.dims.length:=by rw[Fw];exact hol
     have hget:=jC8 (l:=ofT s t.dims i) (k:=k) (T.asl 4 x.2.length) oM;have himT:=Qx s t.dims i;refine qk mixm (α:=Nat) [25] (fun g=>g≤x.2.length∧v∉x.2.take g) (fun g=>[(25,vI g)]) (fun g=>[aR 4096 2 [schT s],aR 4100 3 [tblT t],aR 4104 3 [rlsT ⟨0,[],[]⟩],aR 69640 3 [.agg [vI n,.asl 1 i,.asl 2 0]],aR 73740 1 ((ofT s t.dims i).set k (.asl 4 x.2.length)),aR 77832 1 ((pcP s t.dims (i+1)).map vI),aR 1 1 (((tabG s t.dims).take i).map vIs),aR 2 1 [],aR 3 1 (x.1.map vI),aR 4 1 (x.2.map vI)]) (fun g=>x.2.length-g) 0 ⟨oM,sMp⟩ ?_ fun g hg=>?_
     ·refine .of [uI 4096,uI 4100,uI 4104,uI 69640,uI 73740,uI 77832,uI 1,uI 2,uI 3,uI 4] [] rfl (by first | rfl | (rw[hst];rfl)) ?_ ?_
      all_goals (try simp only[tL,simprocAttr,By,List.map_cons,List.map_nil,BW,Cy])
      all_goals (try (repeat' (first | exact qZ | (apply zk;intro _;exact⟨rfl,rfl⟩) | (apply qH;intro _;exact⟨rfl,rfl⟩) | with_reducible apply qV | with_reducible refine qW ⟨rfl,rfl⟩ ?_ | exact zd | with_reducible apply qR | with_reducible refine qY ⟨rfl,rfl,?_⟩ ?_ | with_reducible apply Az | exact qS rfl | exact qS (by assumption) | (refine⟨⟨?_,rfl,?_,rfl,?_⟩,trivial⟩ <;> first | (simp;done) | (apply qH;intro _;exact⟨rfl,rfl⟩)) | trivial | rfl | (rw[qh oM]) | omega)))
      exact qs9 _ _ _ _ _ rfl
     have hkn:k<((ofT s t.dims i).set k (T.asl 4 x.2.length)).length:=by omega
     by_cases hg2:g<x.2.length
     ·have q3:decide ((g:Int)<x.2.length)=true:=Cx oM;have hwg:=qh (i:=g) oM;simp only[tZ,↓uU,simprocAttr,Ax,hget,q3,qd hg2,true_implies];refine⟨⟨hols,oM⟩,⟨hols,hkn⟩,⟨hols,oM⟩,⟨hols,hkn⟩,oM,hg2,fun h8=>?_,fun h8=>⟨⟨hols,oM⟩,⟨hols,hkn⟩,fun h9=>absurd (AY.1 h9) oM,fun _=>⟨oM,?_⟩⟩⟩
      ·refine⟨g+1,⟨oM,?_⟩,oM,?_⟩
       ·rw[qz hg2,Dz];rintro (h9 | h9)
        ·exact hg.2 h9
        ·rw[Ey] at h9;exact absurd h9.symm (Bj.1 h8)
       ·rw[hwg];refine .of [uI 4096,uI 4100,uI 4104,uI 69640,uI 73740,uI 77832,uI 1,uI 2,uI 3,uI 4] [] rfl (by first | rfl | (rw[hst];rfl)) ?_ ?_
        all_goals (try simp only[tL,simprocAttr,By,List.map_cons,List.map_nil,BW,Cy])
        all_goals (try (repeat' (first | exact qZ | (apply zk;intro _;exact⟨rfl,rfl⟩) | (apply qH;intro _;exact⟨rfl,rfl⟩) | with_reducible apply qV | with_reducible refine qW ⟨rfl,rfl⟩ ?_ | exact zd | with_reducible apply qR | with_reducible refine qY ⟨rfl,rfl,?_⟩ ?_ | with_reducible apply Az | exact qS rfl | exact qS (by assumption) | (refine⟨⟨?_,rfl,?_,rfl,?_⟩,trivial⟩ <;> first | (simp;done) | (apply qH;intro _;exact⟨rfl,rfl⟩)) | trivial | rfl | (rw[qh oM]) | omega)))
        exact qs9 _ _ _ _ _ rfl
      ·have hv9:x.2[g]=v:=by simpa using h8
       have hmv:v∈x.2:=by rw[← hv9];exact AX hg2
       have hs3:grpF f (L.take (j+1))=(x.1++[(g:Int)],x.2):=by rw[hsj,Aj hmv,zB3 hg2 hg.2 hv9]
       refine⟨j+1,oM,oM,?_⟩;rw[hwj,hs3];refine .of [uI 4096,uI 4100,uI 4104,uI 69640,uI 73740,uI 77832,uI 1,uI 2,uI 3,uI 4] [] rfl (by first | rfl | (rw[hst];rfl)) ?_ ?_
       all_goals (try simp only[tL,simprocAttr,By,List.map_cons,List.map_nil,BW,Cy,AW,CJ,Cw,By])
       all_goals (try (repeat' (first | exact qZ | (apply zk;intro _;exact⟨rfl,rfl⟩) | (apply qH;intro _;exact⟨rfl,rfl⟩) | with_reducible apply qV | with_reducible refine qW ⟨rfl,rfl⟩ ?_ | exact zd | with_reducible apply qR | with_reducible refine qY ⟨rfl,rfl,?_⟩ ?_ | with_reducible apply Az | exact qS rfl | exact qS (by assumption) | (refine⟨⟨?_,rfl,?_,rfl,?_⟩,trivial⟩ <;> first | (simp;done) | (apply qH;intro _;exact⟨rfl,rfl⟩)) | trivial | rfl | (rw[qh oM]) | omega)))
       exact qs9 _ _ _ _ _ rfl
     ·have q3:decide ((g:Int)<x.2.length)=false:=Cq oM;obtain rfl:g=x.2.length:=by omega
      have hvn:=hg.2;rw[Bw] at hvn;have hs3:grpF f (L.take (j+1))=(x.1++[(x.2.length:Int)],x.2++[v]):=by rw[hsj,Aq hvn]
      have hj8:(x.2.map vI).getD x.2.length .junk = .junk:=by rw[CY,List.getElem?_eq_none (by rw[BY];omega)];rfl
      simp only[tZ,↓uU,simprocAttr,Ax,hget,q3,hj8,qv1,YZ,QN,not_false_eq_true,true_and];refine⟨⟨hols,oM⟩,⟨hols,hkn⟩,⟨hols,oM⟩,⟨hols,hkn⟩,⟨hols,oM⟩,⟨hols,hkn⟩,oM,⟨hols,oM⟩,⟨hols,hkn⟩,oM,j+1,oM,oM,?_⟩;rw[hwj,hs3];have e8:((ofT s t.dims i).set k (T.asl 4 x.2.length)).set k (T.asl 4 (x.2.length+1))=(ofT s t.dims i).set k (T.asl 4 (x.2++[v]).length):=by rw[List.set_set,AW];rfl
      rw[e8];refine .of [uI 4096,uI 4100,uI 4104,uI 69640,uI 73740,uI 77832,uI 1,uI 2,uI 3,uI 4] [] rfl (by first | rfl | (rw[hst];rfl)) ?_ ?_
      all_goals (try simp only[tL,simprocAttr,By,List.map_cons,List.map_nil,BW,Cy,AW,CJ,Cw,By])
      all_goals (try (repeat' (first | exact qZ | (apply zk;intro _;exact⟨rfl,rfl⟩) | (apply qH;intro _;exact⟨rfl,rfl⟩) | with_reducible apply qV | with_reducible refine qW ⟨rfl,rfl⟩ ?_ | exact zd | with_reducible apply qR | with_reducible refine qY ⟨rfl,rfl,?_⟩ ?_ | with_reducible apply Az | exact qS rfl | exact qS (by assumption) | (refine⟨⟨?_,rfl,?_,rfl,?_⟩,trivial⟩ <;> first | (simp;done) | (apply qH;intro _;exact⟨rfl,rfl⟩)) | trivial | rfl | (rw[qh oM]) | omega)))
      exact qs9 _ _ _ _ _ rfl
    ·have hjl:j=L.length:=by omega
     subst hjl;rw[Bw] at hxj ⊢
     rw[← hvw,← hof];rw[← hof] at hxj;refine W_le [(2,vI n),(3,.ptr 4096 1 0 0),(4,.ptr 4100 1 0 0),(6,.ptr 4104 1 0 0),(9,vIs (qK s 2)),(15,.ptr 69640 1 0 0),(16,.asl 73740 t.dims.length),(17,.asl 77832 (qK s 2).length),(18,vI i),(19,vI cn),(20,.asl 3 (vwG s t.dims (cn:Int)).length),(125,vIs (qK s 2)),(126,vI (qK s 2).length),(127,vI i),(136,vPs t.dims),(137,vI t.dims.length),(138,vI k)] [aR 4096 2 [schT s],aR 4100 3 [tblT t],aR 4104 3 [rlsT ⟨0,[],[]⟩],aR 69640 3 [.agg [vI n,.asl 1 i,.asl 2 0]],aR 73740 1 (ofT s t.dims (i+1)),aR 77832 1 ((pcP s t.dims (i+1)).map vI),aR 1 1 (((tabG s t.dims).take i).map vIs),aR 2 1 [],aR 3 1 ((vwG s t.dims (cn:Int)).map vI)] ?_ ?_
     ·rw[q1];refine .of [uI 4096,uI 4100,uI 4104,uI 69640,uI 73740,uI 77832,uI 1,uI 2,uI 3] [4] rfl (by first | rfl | (rw[hst];rfl)) ?_ ?_
      all_goals (try simp only[tL,simprocAttr,By,List.map_cons,List.map_nil,BW,Cy])
      all_goals (try (repeat' (first | exact qZ | (apply zk;intro _;exact⟨rfl,rfl⟩) | (apply qH;intro _;exact⟨rfl,rfl⟩) | with_reducible apply qV | with_reducible refine qW ⟨rfl,rfl⟩ ?_ | exact zd | with_reducible apply qR | with_reducible refine qY ⟨rfl,rfl,?_⟩ ?_ | with_reducible apply Az | exact qS rfl | exact qS (by assumption) | (refine⟨⟨?_,rfl,?_,rfl,?_⟩,trivial⟩ <;> first | (simp;done) | (apply qH;intro _;exact⟨rfl,rfl⟩)) | trivial | rfl | (rw[qh oM]) | omega)))
      refine qF2 (k:=1) ⟨rfl,rfl,?_⟩ k (je (Qx s t.dims i));show ltCs _ _ _ [T.asl 4 _] [vIs _];simp only[tL,simprocAttr];exact (by apply qH;intro _;exact⟨rfl,rfl⟩)
     simp only[tZ,↓uU,simprocAttr,hwk];refine⟨k+1,oM,oM,?_⟩;simp only[Aj (show k<k+1 by omega)];have him2:=Qx s t.dims (i+1);exact .oA [uI 4096,uI 4100,uI 4104,uI 69640,uI 73740,uI 77832,uI 1,uI 2,uI 3] []
   ·have hne:k≠a:=fun e=>h6 (hdg2 k hk2 e);refine W_le _ _ (fun ι a w hR=>⟨ι,hR⟩) ?_;simp only[tZ,↓uU,simprocAttr,hwk];refine⟨k+1,oM,oM,?_⟩;have e9:(a<k+1)=(a<k):=propext oM;simp only[e9];have him1:=Qx s t.dims i;have him2:=Qx s t.dims (i+1);by_cases hak:a<k
    ·simp only[Aj hak];exact .oA [uI 4096,uI 4100,uI 4104,uI 69640,uI 73740,uI 77832,uI 1,uI 2,uI 3] []
    ·simp only[Aq hak];exact .oA [uI 4096,uI 4100,uI 4104,uI 69640,uI 73740,uI 77832,uI 1,uI 2,uI 3] []
  ·have hkl:k=t.dims.length:=by omega
   subst hkl;have hpl2:=js0 s t.dims (i+1);have hpi2:i<(pcP s t.dims (i+1)).length:=by omega
   have him2:=Qx s t.dims (i+1);by_cases hm:a<t.dims.length
   ·simp only[Aj hm] at hvw hpc ⊢
    obtain⟨q1,q2⟩:=hhit hm;have hge:∀ h,(pcP s t.dims (i+1))[i]'h=(a:Int):=fun h=>by simp only[hpc,List.getElem_set_self]
    simp only[tZ,↓uU,simprocAttr,Ax,qd hpi2,hge,tD];refine⟨oM,⟨oM,oM⟩,fun h9=>absurd h9 oM,fun _=>?_⟩
    repeat (first | refine⟨oM,?_⟩ | refine⟨kR,?_⟩)
    refine W_le [(2,vI n),(3,.ptr 4096 1 0 0),(4,.ptr 4100 1 0 0),(6,.ptr 4104 1 0 0),(9,vIs (qK s 2)),(15,.ptr 69640 1 0 0),(16,.asl 73740 t.dims.length),(17,.asl 77832 (qK s 2).length),(125,vIs (qK s 2)),(126,vI (qK s 2).length),(127,vI i)] [aR 4096 2 [schT s],aR 4100 3 [tblT t],aR 4104 3 [rlsT ⟨0,[],[]⟩],aR 69640 3 [.agg [vI n,.asl 1 (i+1),.asl 2 0]],aR 73740 1 (ofT s t.dims (i+1)),aR 77832 1 ((pcP s t.dims (i+1)).map vI),aR 1 1 (((tabG s t.dims).take (i+1)).map vIs),aR 2 1 []] ?_ ?_
    ·rw[hsn];exact .oA [uI 4096,uI 4100,uI 4104,uI 69640,uI 73740,uI 77832,uI 1,uI 2] [3]
    simp only[tZ,↓uU,simprocAttr,hwi];refine⟨i+1,oM,oM,?_⟩;exact .oA [uI 4096,uI 4100,uI 4104,uI 69640,uI 73740,uI 77832,uI 1,uI 2] []
   ·simp only[Aq hm] at hvw hpc ⊢
    have q1:=hnoh hm;rw[← hpc];have hge:∀ h,(pcP s t.dims (i+1))[i]'h = -1:=fun h=>by simp only[hpc,List.getElem_set_self]
    have sLf:=ZL s hok cn oM hkd;simp only[tZ,↓uU,simprocAttr,Ax,qd hpi2,hge,tD];refine⟨oM,⟨oM,oM⟩,?_⟩;refine C1.im sLf rF rF ?_;have hll2:=jn hok (i:=cn) oM hkd;obtain⟨V,hV2⟩:∃ V,V=List.replicate (qJ s cn).length (0:Int):=⟨_,rfl⟩;have hvl:V.length=(qJ s cn).length:=by rw[hV2,List.length_replicate]
    rw[← hV2] at hvw;rw[hvw] at hsn;simp only[tZ,↓uU,simprocAttr,Ax,List.length_replicate];refine⟨oM,oM,oM,?_⟩;rw[zD0,← hV2,← hvl];refine W_le [(2,vI n),(3,.ptr 4096 1 0 0),(4,.ptr 4100 1 0 0),(6,.ptr 4104 1 0 0),(9,vIs (qK s 2)),(15,.ptr 69640 1 0 0),(16,.asl 73740 t.dims.length),(17,.asl 77832 (qK s 2).length),(125,vIs (qK s 2)),(126,vI (qK s 2).length),(127,vI i)] [aR 4096 2 [schT s],aR 4100 3 [tblT t],aR 4104 3 [rlsT ⟨0,[],[]⟩],aR 69640 3 [.agg [vI n,.asl 1 (i+1),.asl 2 0]],aR 73740 1 (ofT s t.dims (i+1)),aR 77832 1 ((pcP s t.dims (i+1)).map vI),aR 1 1 (((tabG s t.dims).take (i+1)).map vIs),aR 2 1 []] ?_ ?_
    ·rw[hsn,q1];have him3:=Qx s t.dims i;exact .oA [uI 4096,uI 4100,uI 4104,uI 69640,uI 73740,uI 77832,uI 1,uI 2] [172048]
    simp only[tZ,↓uU,simprocAttr,hwi];refine⟨i+1,oM,oM,?_⟩;exact .oA [uI 4096,uI 4100,uI 4104,uI 69640,uI 73740,uI 77832,uI 1,uI 2] []
 ·have hil:i=(qK s 2).length:=by omega
  subst hil;rw[jR3 hD,jR5,List.take_of_length_le oM];obtain⟨O,hO⟩:∃ O,O=(List.range t.dims.length).map (ofD s t.dims):=⟨_,rfl⟩;obtain⟨Pc,hPc⟩:∃ Pc,Pc=(List.range (qK s 2).length).map (dmV s t.dims):=⟨_,rfl⟩;have hOl:O.length=t.dims.length:=by rw[hO];simp
  have hPcl:Pc.length=(tabG s t.dims).length:=by rw[hPc,hgl];simp
  have hOg:∀ a (h:a<t.dims.length),O[a]'oM=ofD s t.dims a:=fun a h=>by subst hO;rw[Fj,List.getElem_range]
  have hPg:∀ a (h:a<(qK s 2).length),Pc[a]'oM=dmV s t.dims a:=fun a h=>by subst hPc;rw[Fj,List.getElem_range]
  rw[← hO,← hPc,← hgl];clear hO hPc z1 z2;have hcs:(qK s 2).length≤4:=hcl4;refine W_le [(2,vI n),(4,.ptr 4100 1 0 0),(6,.ptr 4104 1 0 0),(9,vIs (qK s 2)),(15,.ptr 69640 1 0 0),(16,vvIs O),(17,vIs Pc)] [aR 4100 3 [tblT t],aR 4104 3 [rlsT ⟨0,[],[]⟩],aR 69640 3 [.agg [vI n,vvIs (tabG s t.dims),.asl 2 0]],aR 2 1 []] ?_ ?_
  ·refine .of (U4 4100 4104 69640 2) [1,73740,77832] rfl (by first | rfl | (rw[hst];rfl)) ?_ ?_
   all_goals (try simp only[tL,simprocAttr,By,List.map_cons,List.map_nil,BW,Cy])
   all_goals (try (repeat' (first | exact qZ | (apply zk;intro _;exact⟨rfl,rfl⟩) | (apply qH;intro _;exact⟨rfl,rfl⟩) | with_reducible apply qV | with_reducible refine qW ⟨rfl,rfl⟩ ?_ | exact zd | with_reducible apply qR | with_reducible refine qY ⟨rfl,rfl,?_⟩ ?_ | with_reducible apply Az | exact qS rfl | exact qS (by assumption) | (refine⟨⟨?_,rfl,?_,rfl,?_⟩,trivial⟩ <;> first | (simp;done) | (apply qH;intro _;exact⟨rfl,rfl⟩)) | trivial | rfl | (rw[qh oM]) | omega)))
   simp only[T.cells,tL,simprocAttr]
   all_goals (try exact clA)
  have hpb:=hV.pub;have hpN:pubN (tabG s t.dims)=(tabN s t:Int):=by unfold tabN;omega
  have hN:tabN s t≤48:=by omega
  have hNp:∀ k:Nat,k<tabN s t→(k:Int)<pubN (tabG s t.dims):=fun k h=>by omega
  obtain⟨sz,hsz⟩:∃ sz,sz=(tabG s t.dims).map gN:=⟨_,rfl⟩;have hszl:sz.length=(tabG s t.dims).length:=by rw[hsz,BY]
  have hsza:sz.all szOk=true:=by rw[hsz];exact hV.gsz
  have hszg:∀ j (h:j<(tabG s t.dims).length),sz[j]'oM=gN (tabG s t.dims)[j]:=fun j h=>by subst hsz;rw[Fj]
  have hszp:zq sz=(tabN s t:Int):=by rw[hsz];exact hpN
  have hGr:=fun j (h:j<(tabG s t.dims).length)=>hV.g h;have hsr:∀ j (h:j<sz.length),1≤sz[j]∧sz[j]≤8:=fun j h=>by simpa [szOk] using Bk.1 hsza sz[j] (AX h)
  refine sW ?_;refine qk mixm (α:=Nat) [26,227] (fun i=>i≤(tabG s t.dims).length) (fun i=>[(26,vI (zq (sz.take i))),(227,vI i)]) (fun i=>[aR 4100 3 [tblT t],aR 4104 3 [rlsT ⟨0,[],[]⟩],aR 69640 3 [.agg [vI n,vvIs (tabG s t.dims),.asl 2 0]],aR 2 1 []]) (fun i=>(tabG s t.dims).length-i) 0 oM ?_ fun i hi=>?_
  ·exact .oA (U4 4100 4104 69640 2) []
  refine sD ?_;refine⟨fun h4=>?_,fun h4=>?_⟩
  ·have hi2:i<(tabG s t.dims).length:=by omega
   have hwi:=qh (i:=i) oM;have hg:=hGr i hi2;have sG:=Yc (tabG s t.dims)[i] (fun x hx=>by have:=hg.all x hx;have:=hg.n;omega) (by have:=hg.len;omega);rw[← hszg i hi2] at sG;have hp1:=Wq (l:=sz.take i) (Bk.2 fun x hx=>Bk.1 hsza x (EX hx)) (by rw[Cz];omega);have hsri:=hsr i oM;have hp2:0≤zq (sz.take i)*sz[i]'oM∧zq (sz.take i)*sz[i]'oM≤4096*8:=⟨Int.mul_nonneg oM oM,Int.mul_le_mul hp1.2 hsri.2 oM oM⟩;have hw9:IntKind.i64.wrap (zq (sz.take i)*sz[i]'oM)=zq (sz.take i)*sz[i]'oM:=AK _ oM;simp only[tZ,↓uU,simprocAttr,Ax,qd hi2];refine⟨oM,?_⟩;refine C1.im sG rF rF ?_;simp only[tZ,↓uU,simprocAttr,hwi,hw9];refine⟨i+1,oM,oM,?_⟩;rw[zp5 (show i<sz.length by omega)];exact .oA (U4 4100 4104 69640 2) []
  have hil2:i=sz.length:=by omega
  rw[hil2,Bw,hszp];clear hi h4 hil2;refine qk mixm (α:=Nat) [29] (fun k=>k≤tabN s t∧∀ j,j<k→0≤tabK s t j) (fun k=>[(29,vI k)]) (fun k=>[aR 4100 3 [tblT t],aR 4104 3 [rlsT ⟨0,[],[]⟩],aR 69640 3 [.agg [vI n,vvIs (tabG s t.dims),.asl 2 k]],aR 2 1 (((List.range k).map (tabV s t)).map vI)]) (fun k=>tabN s t-k) 0 ⟨oM,fun j h=>by omega⟩ ?_ fun k hk=>?_
  ·exact .oA (U4 4100 4104 69640 2) []
  have hvk:((List.range k).map (tabV s t)).length=k:=by simp
  refine sD ?_;refine⟨fun h4=>?_,fun h4=>?_⟩
  ·have hk2:k<tabN s t:=by omega
   have hwk:=qh (i:=k) oM;have hnk:=hNp k hk2;have hrg:=fun a ha=>zQ2 hE hS hD hnk (a:=a) ha;have hck:=fun a ha=>zP4 (s:=s) (ds:=t.dims) (k:=k) (a:=a) ha;have hck2:=qg0 s t.dims k;have hwe:=jC2 hD k;have hw0:=jq5 s t.dims k;have hwh:=fun c h=>jC1 hD k (i:=c) h;have hwn:=fun c h=>jQ6 hD k (i:=c) h;have sF:=zu9 t (JS s t.dims k) hcn hcl;have hvs:(List.range (k+1)).map (tabV s t)=(List.range k).map (tabV s t)++[tabV s t k]:=by rw[List.range_succ,By];rfl
   rw[show fndC t.cells (JS s t.dims k)=tabK s t k from rfl] at sF;have hfl:=fun m (h:tabK s t k=(m:Nat))=>jJ6 (l:=t.cells) (y:=JS s t.dims k) h;have htv:tabV s t k=(t.cells.getD (tabK s t k).toNat ⟨[],0,0,0,0,0,[]⟩).cnt:=rfl;have hnok:=hno h hB k hk2;have hpg:=fun c h=>zu8 (k:Int) sz c h;rw[← hsz] at hrg hck;generalize JS s t.dims k=C at hck hck2 sF hfl hw0 hwh;generalize zB sz k=P at hrg hck hpg;have hwc:IntKind.i64.wrap (((qK s 2).length:Int)-1)=((qK s 2).length:Int)-1:=AK _ oM;simp only[tZ,↓uU,simprocAttr,hwc];refine⟨oM,?_⟩;have hwl:∀ j,(wntP s t.dims k j).length=t.dims.length:=fun j=>by unfold wntP;simp
   refine qk mixm (α:=Nat) [31,32] (fun j=>j≤(qK s 2).length) (fun j=>[(31,vI (zy (sz.drop j) k).2),(32,vI ((j:Int)-1)),(30,.asl 221196 t.dims.length)]) (fun j=>[aR 4100 3 [tblT t],aR 4104 3 [rlsT ⟨0,[],[]⟩],aR 69640 3 [.agg [vI n,vvIs (tabG s t.dims),.asl 2 k]],aR 2 1 (((List.range k).map (tabV s t)).map vI),aR 221196 1 ((wntP s t.dims k j).map vI)]) (fun j=>j) (qK s 2).length oM ?_ fun j hj=>?_
   ·have e2:(zy (sz.drop (qK s 2).length) (k:Int)).2=k:=by rw[List.drop_eq_nil_of_le oM];rfl
    rw[e2,hwe];simp only[htn];refine .of (U5 4100 4104 69640 2 221196) [] rfl (by first | rfl | (rw[hst];rfl)) ?_ ?_
    all_goals (try simp only[tL,simprocAttr,By,List.map_cons,List.map_nil,BW,Cy,zD0])
    all_goals (try (exact clA))
   simp only[tZ,↓uU,simprocAttr,AZ,Ay];refine⟨fun h5=>?_,fun h5=>?_⟩
   ·obtain⟨c,rfl⟩:∃ c,j=c+1:=⟨j-1,oM⟩;have hc1:c<(qK s 2).length:=by omega
    have hc2:c<(tabG s t.dims).length:=by omega
    have hc3:c<sz.length:=by omega
    have hj1:(((c+1:Nat):Int)-1)=(c:Int):=by omega
    have hwj:IntKind.i64.wrap ((c:Int)-1)=(c:Int)-1:=AK _ oM;have hg:=hGr c hc2;have sG:=Yc (tabG s t.dims)[c] (fun x hx=>by have:=hg.all x hx;have:=hg.n;omega) (by have:=hg.len;omega);rw[← hszg c hc2] at sG;have hsrc:=hsr c hc3;have hn0:=Wf (n:=(k:Int)) hsza oM (c+1);have hn1:=zf4 (n:=(k:Int)) hsza oM (c+1);have hpd:=Wz (n:=(k:Int)) hc3;have hpgc:=hpg c hc3;have hq:0≤(zy (sz.drop (c+1)) k).2 / sz[c]∧(zy (sz.drop (c+1)) k).2 / sz[c]≤k:=⟨Int.ediv_nonneg hn0 oM,Int.le_trans (Int.ediv_le_self _ hn0) hn1⟩;have hw3:IntKind.i64.wrap ((zy (sz.drop (c+1)) k).2 / sz[c])=(zy (sz.drop (c+1)) k).2 / sz[c]:=AK _ oM;have hPg2:=hPg c hc1;rw[jK0 hc1] at hPg2;have hpa:=fun h=>jB9 (s:=s) (ds:=t.dims) hc1 h;have hwhc:=hwh c hc1;have hwnc:=hwn c hc1;have hPc2:c<Pc.length:=by omega
    simp only[hj1];generalize (qK s 2)[c]=col at hPg2 hpa hwhc hwnc;simp only[tZ,↓uU,simprocAttr,Ax,qd hc2];refine⟨oM,?_⟩;refine C1.im sG rF rF ?_;generalize (zy (sz.drop (c+1)) (k:Int)).2=lf at hn0 hn1 hpd hpgc hq hw3 ⊢
    by_cases hm:dmAt t.dims col<t.dims.length
    ·rw[Aj hm] at hPg2;have hpm:=hpa hm;have hwhm:=hwhc hm;obtain⟨r1,r2,r3⟩:=hrg _ hm;have hc:=hck _ hm;have hOm:=hOg _ hm;rw[hpm,hpgc] at r2 r3 hc;generalize dmAt t.dims col=m at hm hPg2 hpm hwhm r1 r2 r3 hc hOm;rw[qg r3] at hc;rw[hc] at hwhm;have hO2:m<O.length:=by omega
     have hwlc:=hwl (c+1);have hwm:m<(wntP s t.dims k (c+1)).length:=by omega
     simp only[tZ,↓uU,simprocAttr,Ax,qd hPc2,hPg2,qd hO2,hOm,Int.tmod_eq_emod_of_nonneg hn0,Int.tdiv_eq_ediv_of_nonneg hn0,hw3,qd r3,hwj,tD,qd hwm,show ∀ a b:Int,repl (vI a) 0 (vI b)=vI b from fun _ _=>rfl];refine⟨oM,fun _=>?_,fun h9=>absurd h9 oM⟩;refine⟨oM,oM,oM,oM,oM,⟨oM,oM⟩,⟨oM,oM⟩,?_⟩;rw[← List.map_set,← hwhm];refine⟨kR,oM,c,oM,oM,?_⟩;rw[hpd];exact .oA (U5 4100 4104 69640 2 221196) []
    ·rw[Aq hm] at hPg2;have hwnm:=hwnc hm;simp only[tZ,↓uU,simprocAttr,Ax,qd hPc2,hPg2,Int.tdiv_eq_ediv_of_nonneg hn0,hw3,hwj,tD];refine⟨oM,oM,c,oM,oM,?_⟩;rw[hpd,hwnm];exact .oA (U5 4100 4104 69640 2 221196) []
   ·have:j=0:=by omega
    subst this;rw[hw0];refine C1.lend [221196] sF ?_ rF rfl ?_
    ·all_goals (try exact clA)
    refine sD ?_;refine⟨fun h6=>?_,fun h6=>?_⟩
    ·obtain⟨a1,a2⟩:=hnok h6;rw[a1,a2];exact .oA [] []
    obtain⟨m,hm⟩:=AJ (show 0≤tabK s t k by omega);have hml:=hfl m hm;rw[hm,Ax,qg hml] at htv;rw[hm];simp only[tZ,↓uU,simprocAttr,Ax,qd hml,← htv];have hvk2:(List.range k).length=k:=by simp
    refine⟨oM,oM,oM,kR,?_⟩;simp only[tZ,↓uU,simprocAttr,hwk];refine⟨k+1,⟨oM,fun j hj=>?_⟩,oM,?_⟩
    ·by_cases e:j=k
     ·subst e;omega
     ·exact hk.2 j oM
    rw[hvs];exact .oA (U4 4100 4104 69640 2) []
  ·have hkl:k=tabN s t:=by omega
   subst hkl;have hw0:=zQ4 s t n;refine⟨fun h5=>?_,fun h5=>⟨sMp,?_⟩⟩
   ·obtain⟨a1,a2⟩:=hbd h hB hk.2 (by
     unfold wrB;rw[DZ];left
     simp only[DZ,AZ];omega)
    rw[a1,a2];exact .oA [] []
   have hn5:wrB s t n 0=false:=by
    rw[hw0];simp only[FX,Ay];exact h5
   have hws:=fun i=>zQ3 s t n i;have hwbad:∀ i,i<tabN s t→okV (tabV s t i)=false→wrB s t n (tabN s t)=true:=fun i hi hv=>by
    unfold wrB;rw[DZ];right
    exact DJ.2 ⟨i,Dk.2 hi,by rw[hv];rfl⟩
   have hvk2:(List.range (tabN s t)).length=tabN s t:=by simp
   refine qk mixm (α:=Nat) [313] (fun i=>i≤tabN s t∧wrB s t n i=false) (fun i=>[(313,vI i)]) (fun i=>[aR 4100 3 [tblT t],aR 4104 3 [rlsT ⟨0,[],[]⟩],aR 69640 3 [.agg [vI n,vvIs (tabG s t.dims),.asl 2 (tabN s t)]],aR 2 1 (((List.range (tabN s t)).map (tabV s t)).map vI)]) (fun i=>tabN s t-i) 0 ⟨oM,hn5⟩ ?_ fun i hi=>?_
   ·exact .oA (U4 4100 4104 69640 2) []
   refine sD ?_;refine⟨fun h6=>?_,fun h6=>?_⟩
   ·have hi2:i<tabN s t:=by omega
    have hwi:=qh (i:=i) oM;have hi3:i<((List.range (tabN s t)).map (tabV s t)).length:=by omega
    have hgv:((List.range (tabN s t)).map (tabV s t))[i]=tabV s t i:=by rw[Fj,List.getElem_range]
    have hbi:=hwbad i hi2;have hsi:=hws i;have hok9:okV (tabV s t i)=(decide (0≤tabV s t i)&&decide (tabV s t i≤1000000)):=rfl;simp only[tZ,↓uU,simprocAttr,Ax,qd hi3,hgv,hwi,tD];refine⟨⟨hvk2,oM,oM⟩,⟨hvk2,oM⟩,fun h7=>?_,fun h7=>⟨i+1,⟨oM,?_⟩,oM,?_⟩⟩
    ·obtain⟨a1,a2⟩:=hbd h hB hk.2 (hbi (by
      rw[hok9];simp only[FJ,Ay];omega))
     rw[a1,a2];exact .oA [] []
    ·rw[hsi,hi.2,hok9];simp only[Bool.false_or,Bz,Bq,AZ];omega
    ·exact .oA (U4 4100 4104 69640 2) []
   ·have hil:i=tabN s t:=by omega
    obtain⟨a1,a2⟩:=hgd h hB hk.2 (by rw[← hil];exact hi.2);rw[a1,a2];refine⟨hvk2,?_⟩;refine .of [] [2] rfl (by first | rfl | (rw[hst];rfl)) ?_ ?_
    all_goals (try simp only[tL,simprocAttr,By,List.map_cons,List.map_nil,BW,Cy,hvk,hvk2])
    all_goals (try (exact clA))
set_option maxHeartbeats 8000000
theorem WO (n:Int):Sp 65 [vI n] [] (vB (!okV n)) []:=by
 refine sIr KH fun e _ hst=>?_;unfold jG;refine sW ?_;refine C1.im (wB n) rfl rF ?_;refine sW ?_;exact .oA [] []
theorem js3 {l:List Eqn} {t:List Int} {i:Nat} (h:i<l.length) (hf:agr1 t l[i]=false):WX l t=false:=by
 unfold WX;rw[FJ];right
 rw[List.all_eq_false];exact⟨l[i],AX h,by simp [hf]⟩
def inT (t:List Int) (k:Int):Bool:=decide (0≤k)&&decide (k<(t.length:Int))
theorem jR9 (t:List Int) (x:Eqn):agr1 t x=(x.cells.all (inT t)&&(sumT t x.cells==x.val)):=rfl
theorem QM (l:List Eqn) (t:List Int) (hl:l.length<4611686018427387904) (ht:t.length<4611686018427387904) (hx:∀ x∈l,x.cells.length<1000000):Sp 22 [vQs l,vIs t] [] (vB (WX l t)) []:=by
 refine sIr Yp fun e _ hst=>?_;unfold ki;refine sW ?_;refine C1.shut [] (jZ (fun n=>!okV n) 65 [] rfl t (fun n _=>WO n) ht) ?_ rF rfl ?_
 ·all_goals (try exact clA)
 rw[jr3];simp only[tZ,↓uU,simprocAttr,Bx,Bz];refine⟨fun hk0=>?_,fun hk0=>?_⟩
 ·have:WX l t=false:=by unfold WX;rw[hk0];rfl
  rw[this];exact .oA [] []
 refine qk mixm (α:=Nat) [14] (fun i=>i≤l.length∧((l.take i).all (agr1 t)=true)) (fun i=>[(14,vI i)]) (fun i=>[]) (fun i=>l.length-i) 0 ⟨oM,?_⟩ ?_ fun i hi=>?_
 ·rfl
 ·exact .oA [] []
 simp only[tZ,↓uU,simprocAttr,AZ,Ay];refine⟨fun h=>?_,fun h=>?_⟩
 ·have hxi:=hx _ (AX (show i<l.length by omega));have hi2:i<l.length:=by omega
  have hwi:=qh (i:=i) oM;simp only[tZ,↓uU,simprocAttr,Ax,qd hi2,hwi];have hbad:agr1 t l[i]=false→WX l t=false:=fun hf=>js3 hi2 hf;have hgood:agr1 t l[i]=true→(l.take (i+1)).all (agr1 t)=true:=fun hf=>by
   rw[qz hi2,FK,hi.2];simp [hf]
  obtain⟨x,hxd⟩:∃ x,x=l[i]:=⟨_,rfl⟩;rw[← hxd] at hxi hbad hgood ⊢
  refine⟨oM,?_⟩;rw[jR9] at hbad hgood;refine qk mixm (α:=Nat) [7,21] (fun j=>j≤x.cells.length∧((x.cells.take j).all (inT t)=true)) (fun j=>[(7,vI (sumT t (x.cells.take j))),(21,vI j)]) (fun j=>[aR 24584 2 [eqnT x]]) (fun j=>x.cells.length-j) 0 ⟨oM,?_⟩ ?_ fun j hj=>?_
  ·rfl
  ·exact .oA (U1 24584) []
  refine sD ?_;refine⟨fun h5=>?_,fun h5=>?_⟩
  ·have hj2:j<x.cells.length:=by omega
   have hwj:=qh (i:=j) oM;simp only[tZ,↓uU,simprocAttr,Ax,qd hj2,hwj,tD];refine⟨oM,fun h6=>?_,fun h6=>?_⟩
   ·have hf:x.cells.all (inT t)=false:=jp8 hj2 (by simp only[inT,FJ,Ay];omega);rw[hbad (by rw[hf];rfl)];exact .oA [] []
   ·have hk:x.cells[j].toNat<t.length:=by omega
    have hb1:=(qS7 hk0 (x.cells.take (j+1)));have hsn:=jl7 (t:=t) hj2;rw[qg hk] at hsn;have hlj:(x.cells.take (j+1)).length≤x.cells.length:=by rw[Cz];omega
    have hw:IntKind.i64.wrap (sumT t (x.cells.take j)+t[x.cells[j].toNat])=sumT t (x.cells.take (j+1)):=by
     rw[← hsn,AK _ oM]
    simp only[qd hk];simp only[tZ,↓uU,simprocAttr,hw];refine⟨oM,j+1,⟨oM,?_⟩,oM,?_⟩
    ·rw[qz hj2,FK,hj.2];simp only[List.all_cons,List.all_nil,Bool.and_true,Fq,inT,Bq,AZ];omega
    ·exact .oA (U1 24584) []
  ·have hj2:j=x.cells.length:=by omega
   subst hj2;have h7:=hj.2;rw[Bw] at h7 ⊢
   rw[h7,Fq] at hbad hgood;simp only[tZ,↓uU,simprocAttr,Bj,Aw];refine⟨fun h8=>?_,fun h8=>⟨i+1,⟨oM,hgood (by simpa using h8)⟩,oM,?_⟩⟩
   ·rw[hbad (by simpa using h8)];exact .oA [] []
   ·exact .oA [] []
 ·have hi2:i=l.length:=by omega
  subst hi2;have h3:=hi.2;rw[Bw] at h3;have:WX l t=true:=by unfold WX;rw[hk0,h3];rfl
  rw[this];exact .oA [] []
theorem wT (a b:List Int) (ha:a.length<4611686018427387904) (hb:b.length<4611686018427387904):Sp 16 [.sl 1 (a.map vI),.sl 1 (b.map vI)] [] (vB (QP (fun x y:Int=>x==y) a b)) []:=by
 refine sIr qX0 fun e _ hst=>?_;unfold Jk;refine sW ?_;refine⟨fun h=>?_,fun h=>?_⟩
 ·rw[qs0 (by simp at h;omega)];exact .imR rfl rfl
 have hl:a.length=b.length:=by simp at h;omega
 refine qk mixm (α:=Nat) [13] (fun i=>i≤a.length∧(QP (fun x y:Int=>x==y) (a.take i) (b.take i)=true)) (fun i=>[(13,vI i)]) (fun i=>[]) (fun i=>a.length-i) 0 ⟨oM,?_⟩ ?_ fun i hi=>?_
 ·simp [QP]
 ·exact .oA [] []
 simp only[tZ,↓uU,simprocAttr,AZ,Ay];refine⟨fun h=>?_,fun h=>?_⟩
 ·have hib:i<b.length:=by omega
  have hi2:i<a.length:=by omega
  have hwi:=qh (i:=i) oM;simp only[tZ,↓uU,simprocAttr,Ax,qd hi2,hwi,qd hib,Kz];refine⟨oM,oM,kR,fun h3=>?_,fun h3=>⟨i+1,⟨oM,?_⟩,oM,?_⟩⟩
  ·rw[Yi (i:=i) hl oM (by simpa  using h3)];exact .imR rfl rfl
  ·rw[Wp hi2 hib,hi.2];simpa  using h3
  ·exact .oA [] []
 ·have h2:i=a.length:=by omega
  subst h2;have h3:=hi.2;rw[Bw,List.take_of_length_le oM] at h3;rw[h3];exact .imR rfl rfl
theorem qg7 (l:List Int):QP (fun x y:Int=>x==y) l l=true:=qS4 (fun x=>by simp) l
theorem zv0 (l:List Eqn) (hl:l.length<4611686018427387904) (hx:∀ x∈l,x.cells.length<4611686018427387904):Sp 43 [vQs l,vQs l] [] (vB true) []:=by
 refine sIr qX4 fun e _ hst=>?_;unfold Jm;simp only[tZ,↓uU,simprocAttr,bne_self_eq_false];refine qk mixm (α:=Nat) [13] (fun i=>i≤l.length) (fun i=>[(13,vI i)]) (fun _=>[]) (fun i=>l.length-i) 0 oM ?_ fun i hi=>?_
 ·exact .oA [] []
 simp only[tZ,↓uU,simprocAttr,AZ,Ay];refine⟨fun h=>?_,fun h=>?_⟩
 ·have hxi:=hx _ (AX (show i<l.length by omega));have hi2:i<l.length:=by omega
  have hwi:=qh (i:=i) oM;simp only[tZ,↓uU,simprocAttr,Ax,qd hi2,hwi,bne_self_eq_false];have hI:=wT l[i].cells l[i].cells hxi hxi;rw[qg7] at hI;refine⟨oM,oM,oM,oM,C2.one trivial (C1.im hI rfl rF ?_)⟩;refine sW ?_;refine⟨kR,i+1,oM,oM,?_⟩;exact .oA [] []
 ·exact .oA [] []
theorem qO9 (sz:List Int) (r:Rls) (hl:sz.length<4611686018427387904) (hr:RlsSm r) :
 Sp 21 [spT sz,rlsT r] [] (.tup [vQs (allA sz [r]).1,vI (allA sz [r]).2]) []:=by
 refine sIr qw8 fun e _ hst=>?_;unfold yQ;refine sW ?_;refine C1.shut [8200] (qF1 sz [r] hl sMp (fun x hx=>by simp only[Ck,List.not_mem_nil,or_false] at hx;rw[hx];exact hr)) ?_ rF rfl ?_
 ·all_goals (try exact clA)
 refine sW ?_;exact .oA [] []
theorem zv1 (gs:List (List Int)) (hl:gs.length<4611686018427387904) (hg:∀ g∈gs,g.length<4611686018427387904):Sp 62 [vwT gs,vwT gs] [] (vB true) []:=by
 refine sIr qX8 fun e _ hst=>?_;unfold Jq;simp only[tZ,↓uU,simprocAttr,bne_self_eq_false];refine qk mixm (α:=Nat) [16] (fun i=>i≤gs.length) (fun i=>[(16,vI i)]) (fun i=>[aR 4096 1 [vwT gs],aR 4100 1 [vwT gs]]) (fun i=>gs.length-i) 0 oM ?_ fun i hi=>?_
 ·exact .oA (U2 4096 4100) []
 refine sD ?_;refine⟨fun h2=>?_,fun h2=>?_⟩
 ·have hi2:i<gs.length:=by omega
  have hwi:=qh (i:=i) oM;have hgi:=hg _ (AX hi2);have sI:=wT gs[i] gs[i] hgi hgi;rw[qg7] at sI;simp only[tZ,↓uU,simprocAttr,Ax,qd hi2];refine⟨oM,oM,?_⟩;refine C1.im sI rF rF ?_;simp only[tZ,↓uU,simprocAttr,hwi];refine⟨kR,i+1,oM,oM,?_⟩;exact .oA (U2 4096 4100) []
 ·exact .oA [] []
theorem qr4 (r:Rls) (h:RlsSm r):Sp 17 [rlsT r,rlsT r] [] (vB true) []:=by
 have sS:=zv1 r.gs (by have:=h.gs;omega) (fun g hg=>by have:=h.g g hg;omega);have sI:=wT r.vals r.vals (by have:=h.vals;omega) (by have:=h.vals;omega);rw[qg7] at sI;refine sIr qi0 fun e _ hst=>?_;unfold wm;simp only[tZ,↓uU,simprocAttr,beq_self_eq_true];refine C2.one trivial (C1.im sS rF rF ?_);refine sW ?_;refine C2.one trivial (C1.im sI rF rF ?_);refine sW ?_;exact .oA [] []
def awR:Rls:=⟨0,[[0,1],[0,0]],[3,-1]⟩
def awQ:List Eqn:=[⟨[0,1],3⟩]
theorem jY7:allA [2,2] [awR]=(awQ,0):=by
 have h1:rlsC [2,2] [awR]=0:=by kernel_rfl
 have h2:qj4 [2,2] [awR]=awQ:=by kernel_rfl
 rw[allA,Aq (fun e=>e h1),h2]
theorem jY8:WX awQ [1,2,0,0]=true:=by kernel_rfl
theorem ka2:WX awQ [1,1,0,0]=false:=by kernel_rfl
theorem jY9:RlsSm awR:=⟨by decide,by decide,by decide⟩
theorem qg8:Sp 10 [] [] (vB true) []:=by
 have hOf:=qO9 [2,2] awR (by decide) jY9;rw[jY7] at hOf;have hS:=zv0 awQ (by decide) (by decide);have hY:=QM awQ [1,2,0,0] (by decide) (by decide) (by decide);have hN:=QM awQ [1,1,0,0] (by decide) (by decide) (by decide);rw[jY8] at hY;rw[ka2] at hN;refine sIr qG0 fun e _ hst=>?_;unfold QQ;refine sW ?_;refine C1.shutD [8192,12288,12292,12296,12304] hOf ?_ rF rfl ?_
 ·simp [ptw,ltAD,ltD,TL.get,T.cells,imT,imL,awR]
  all_goals (try (repeat' apply Az))
  all_goals (try rfl)
 refine sW ?_;refine C2.lendD [20504,20496] (fun _=>hS) (fun _=>?_) rF rF ?_
 ·simp [ptw,ltAD,ltD,TL.get,T.cells,imT,imL,awQ]
  all_goals (try (repeat' apply Az))
  all_goals (try rfl)
 refine sW ?_;refine C2.lendD [20524] (fun _=>hY) (fun _=>?_) rF rF ?_
 ·simp [ptw,ltAD,ltD,TL.get,T.cells,imT,imL,awQ]
  all_goals (try (repeat' apply Az))
  all_goals (try rfl)
 refine sW ?_;refine C2.lendD [20544] (fun _=>hN) (fun _=>?_) rF rF ?_
 ·simp [ptw,ltAD,ltD,TL.get,T.cells,imT,imL,awQ]
  all_goals (try (repeat' apply Az))
  all_goals (try rfl)
 refine sW ?_;exact .oA [] []
def modI (n m:Int):Int:=if m<1 then 0 else n % m
theorem ql9 (n m:Int) (hm:m≤1000000000):Sp 11 [vI n,vI m] [] (vI (modI n m)) []:=by
 refine sIr zy4 fun e _ hst=>?_;unfold Yn;simp only[tZ,↓uU,simprocAttr,AZ,Ay];refine⟨fun h=>?_,fun h=>?_⟩
 ·rw[modI,Aj h];exact .imR rfl rfl
 rw[modI,Aq h];have h1:=Int.tmod_lt_of_pos n (show 0<m by omega);have h2:=Int.lt_tmod_of_pos n (show 0<m by omega);have h3:=Int.emod_nonneg n (b:=m) oM;have h4:=Int.emod_lt_of_pos n (b:=m) oM;have h5:n % m=n.tmod m∨n % m=n.tmod m+m:=by
  rw[Int.tmod_eq_emod];split
  ·left;omega
  ·right
   rw[show (m.natAbs:Int)=m by omega];omega
 refine⟨oM,fun h=>?_,fun h=>?_⟩
 ·have hw:IntKind.i64.wrap (n.tmod m+m)=n % m:=by rw[AK _ oM];omega
  rw[hw];exact .imR rfl rfl
 ·have hw:n.tmod m=n % m:=by omega
  rw[hw];exact .imR rfl rfl
end Go.Proofs
