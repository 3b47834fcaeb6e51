/- A part of the proof: trees of Go values, short forms, contracts. -/
import Derived.Test.YthbdcffpkbmlaaaGreatDoorK19
namespace Go.Proofs
open Go Go.TL
set_option maxHeartbeats 8000000
def depL (cs:List Cod):List Int:=(List.range cs.length).map fun i=>(dep cs i:Int)
def depO (cs:List Cod) (i:Nat):List Int:=((List.range i).map fun i=>(dep cs i:Int))++List.replicate (cs.length-i) 0
theorem qe6 (cs:List Cod):(depL cs).length=cs.length:=by simp [depL]
theorem jy7 {cs:List Cod} {i:Nat} (h:i≤cs.length):(depO cs i).length=cs.length:=by simp [depO];omega
theorem jm2 (cs:List Cod):depO cs 0=List.replicate cs.length 0:=by simp [depO]
theorem jy8 (cs:List Cod):depO cs cs.length=depL cs:=by simp [depO,depL]
theorem jy9 {cs:List Cod} {i:Nat} (h:i<cs.length) (v:Int) (hv:v=dep cs i):(depO cs i).set i v=depO cs (i+1):=by
 unfold depO;rw[List.set_append_right _ _ sMp,BY,List.length_range,Nat.sub_self,show cs.length-i=(cs.length-(i+1))+1 by omega,List.replicate_succ,List.set_cons_zero,List.range_succ,By,Dj,hv]
 rfl
theorem jm3 {cs:List Cod} {i:Nat} (h:i<cs.length) (h0:dep cs i=0):depO cs i=depO cs (i+1):=by
 unfold depO;rw[show cs.length-i=(cs.length-(i+1))+1 by omega,List.replicate_succ,List.range_succ,By,Dj,List.map_cons,h0]
 rfl
theorem jN1 {cs:List Cod} {i k:Nat} (h:k<i) (hi:i≤cs.length):(depO cs i).getD k 0=dep cs k:=by
 unfold depO;rw[CY,BK (by simp;omega),DY,List.getElem?_range oM]
 rfl
theorem jU4 (n:Nat):List.replicate n (T.v (Value.int IntKind.i64 0))=(List.replicate n (0:Int)).map vI:=by simp
structure ParR (cs:List Cod):Prop where
 ok:qi6 cs
 kid:∀ i,0<i→i<cs.length→0≤parC cs i
 root:parC cs 0<0∨cs.length=0
 len:cs.length≤60
theorem wI (l:CodL) (h:ParR l.codes):Sp 147 [cdlT l] [] (vIs (depL l.codes)) []:=by
 have hl:=h.len;refine sIr qy3 fun e _ hst=>?_;unfold Qj;refine sW ?_;refine⟨oM,?_⟩;refine qt mixm (α:=Nat) [13] (fun i=>i≤l.codes.length) (fun i=>[(13,vI i)]) (fun i=>[aR 4096 2 [cdlT l],aR 8204 1 ((depO l.codes i).map vI)]) (fun i=>l.codes.length-i) 0 oM ?_ fun i hi=>?_
 ·rw[jm2];refine .of (U2 4096 8204) [] rfl (by first | rfl | (rw[hst];rfl)) ?_ ?_
  all_goals (try simp only[tL,simprocAttr,By,List.map_cons,List.map_nil,BW,Cy,Ax,jU4])
  all_goals (try (exact clA))
 have hol:=jy7 (cs:=l.codes) hi;refine sD ?_;refine⟨fun h2=>?_,fun h2=>?_⟩
 ·have hi2:i<l.codes.length:=by omega
  have hwi:=qh (i:=i) oM;have hp:=h.ok i hi2;have hat:cdAt l.codes i=l.codes[i]:=by rw[cdAt,qg hi2]
  have hpar:l.codes[i].par=parC l.codes i:=by rw[parC,hat]
  simp only[tZ,↓uU,simprocAttr,Ax,qd hi2,hpar,gt_iff_lt,tD];refine⟨oM,fun h4=>?_,fun h4=>?_⟩
  ·have hk:=h.kid i oM hi2;have hdk:=YC h.ok hi2 hk;obtain⟨q,hq⟩:=AJ hk;have hqi:q<i:=by omega
   have hq3:q<(depO l.codes i).length:=by omega
   have hq4:(depO l.codes i)[q]=dep l.codes q:=by
    have:=jN1 (cs:=l.codes) hqi hi;rw[qg hq3] at this;exact this
   have hdl:=qQ3 h.ok q oM;have hwd:=qh (i:=dep l.codes q) oM;rw[hq,Ax] at hdk;have hi3:i<(depO l.codes i).length:=by omega
   have hset:=jy9 hi2 ((dep l.codes q+1:Nat):Int) (by rw[hdk]);simp only[tZ,↓uU,simprocAttr,hq,Ax,qd hq3,qd hi3,hq4,hwd,hwi,show ∀ a b:Int,repl (vI a) 0 (vI b)=vI b from fun _ _=>rfl];refine⟨oM,oM,oM,oM,i+1,oM,oM,?_⟩;rw[← List.map_set,hset];exact .oA (U2 4096 8204) []
  ·have hz:i=0:=by omega
   subst hz;have hr:=h.root.resolve_right oM;have hn:=jm3 hi2 (qd4 hr);simp only[tZ,↓uU,simprocAttr,hwi];refine⟨1,oM,oM,?_⟩;rw[← hn];exact .oA (U2 4096 8204) []
 ·have hil:i=l.codes.length:=by omega
  subst hil;rw[jy8,Ax];have hdl:=qe6 l.codes;exact .oA [] [8204]
def aboL (cs:List Cod) (i:Nat):List Bool:=(List.range cs.length).map fun (k:Nat)=>(cs.take i).any fun x=>x.par==(k:Int)
theorem JM (cs:List Cod) (i:Nat):(aboL cs i).length=cs.length:=by simp [aboL]
theorem jm4 (cs:List Cod):aboL cs 0=List.replicate cs.length false:=by
 rw[List.eq_replicate_iff];refine⟨JM cs 0,fun b hb=>?_⟩;obtain⟨k,_,rfl⟩:=Cj.1 hb;simp
theorem qe7 {cs:List Cod} {i k:Nat} (h:k<(aboL cs i).length):(aboL cs i)[k]=(cs.take i).any fun x=>x.par==(k:Int):=by simp [aboL]
theorem jm5 {cs:List Cod} {i:Nat} (h:i<cs.length) (hp:cs[i].par<0):aboL cs (i+1)=aboL cs i:=by
 refine List.ext_getElem (by rw[JM,JM]) fun k h1 h2=>?_;have h3:(cs[i].par==(k:Int))=false:=Ak.2 oM;rw[qe7,qe7,qy h,FW,List.any_cons,List.any_nil,h3];simp
theorem jz0 {cs:List Cod} {i p:Nat} (h:i<cs.length) (hp:cs[i].par=p):(aboL cs i).set p true=aboL cs (i+1):=by
 refine List.ext_getElem (by rw[Fw,JM,JM]) fun k h1 h2=>?_;rw[Fk,qe7,qe7,qy h,FW,List.any_cons,List.any_nil,hp];by_cases e:p=k
 ·subst e;simp
 ·have:((p:Int)==(k:Int))=false:=Ak.2 oM;rw[Aq e,this];simp
theorem jz1 {cs:List Cod} {k:Nat} (h:k<(aboL cs cs.length).length):(aboL cs cs.length)[k]=!qp7 cs k:=by
 rw[qe7,Bw,qp7,Bool.not_not]
theorem jU5 (n:Nat):List.replicate n (T.v (Value.bool false))=(List.replicate n false).map vB:=by simp
def zA0 (cs:List Cod):List (ByteArray×Bool):=cs.map fun c=>(c.name,true)
theorem zr4 {nm:ByteArray}:∀ {cs:List Cod},(TL.look TL.eqS nm (zA0 cs)).getD false=cs.any fun x=>eqB x.name nm
 | []=>rfl
 | c::cs=>by
   have h:TL.eqS nm c.name=eqB c.name nm:=by
    rw[Bool.eq_iff_iff,TL.eqS,eqB,AY,AY];exact⟨fun h=>h.symm,fun h=>h.symm⟩
   simp only[zA0,List.map_cons,TL.look,List.any_cons,h];cases eqB c.name nm with
   | true=>rfl
   | false=>rw[Aq sMp,Bool.false_or];exact zr4
theorem zL9 {c:Cod}:∀ {cs:List Cod},(cs.any fun x=>eqB x.name c.name)=false→TL.asg TL.eqS c.name true (zA0 cs)=zA0 (cs++[c])
 | [],_=>rfl
 | x::cs,h=>by
   rw[List.any_cons,FX] at h;have h1:TL.eqS c.name x.name=eqB x.name c.name:=by
    rw[Bool.eq_iff_iff,TL.eqS,eqB,AY,AY];exact⟨fun h=>h.symm,fun h=>h.symm⟩
   simp only[zA0,List.map_cons,TL.asg,h1,h.1,BW];rw[Aq sMp]
   congr 1
   exact zL9 h.2
theorem jU6 {cs:List Cod} (h:cdEs cs cs.length=0) (hl:cs.length≤60):ParR cs:=by
 refine⟨jH4 h,fun i h0 hi=>(qZ4 (Wk h i hi)).2.2.2 h0,?_,hl⟩;rcases DQ cs.length with h0 | h0
 ·exact .inr h0
 ·have:=(qZ4 (Wk h 0 h0)).2.2.1 rfl;exact .inl oM
theorem qe8 {l:CodL} (h:lstE l=0):ParR l.codes:=by
 obtain⟨_,_,h3⟩:=ze h;refine jU6 ?_ h3;unfold lstE at h;split at h
 ·cases h
 ·split at h
  ·cases h
  ·split at h
   ·cases h
   ·split at h
    ·rename_i h2;exact absurd h h2
    ·rename_i h4;exact AQ h4
theorem yD (l:CodL):Sp 91 [cdlT l] [] (vI (lstE l)) []:=by
 refine sIr qH0 fun e _ hst=>?_;unfold Zd;refine sW ?_;refine C1.im (KV l.name) rF rF ?_;simp only[tZ,↓uU,simprocAttr,Bx,Bz];refine⟨fun h=>?_,fun h1=>?_⟩
 ·rw[lstE,Aj h];exact .oA [] []
 simp only[tZ,↓uU,simprocAttr,AY,Ak];refine⟨fun h=>?_,fun h2=>?_⟩
 ·rw[lstE,Aq (by rw[h1];simp),Aj oM];exact .oA [] []
 refine sD ?_;refine⟨fun h=>?_,fun h3=>?_⟩
 ·rw[lstE,Aq (by rw[h1];simp),Aq oM,Aj oM];exact .oA [] []
 have hE1:cdEs l.codes l.codes.length≠0→lstE l=cdEs l.codes l.codes.length:=fun h=>by
  rw[lstE,Aq (by rw[h1];simp),Aq oM,Aq oM,Aj h]
 have hE2:cdEs l.codes l.codes.length=0→lvs l.codes l.codes.length=none→lstE l=5:=fun h k=>by
  rw[lstE,Aq (by rw[h1];simp),Aq oM,Aq oM,Aq (by rw[h];simp),k]
 have hE3:∀ v,cdEs l.codes l.codes.length=0→lvs l.codes l.codes.length=some v→lstE l=0:=fun v h k=>by
  rw[lstE,Aq (by rw[h1];simp),Aq oM,Aq oM,Aq (by rw[h];simp),k]
 refine⟨oM,kR,?_⟩;refine qt mixm (α:=Nat) [33] (fun i=>i≤l.codes.length∧cdEs l.codes i=0) (fun i=>[(33,vI i)]) (fun i=>[aR 4096 2 [cdlT l],(32768,.mp (.sb (zA0 (l.codes.take i)))),aR 32784 1 ((aboL l.codes i).map vB)]) (fun i=>l.codes.length-i) 0 ⟨oM,rfl⟩ ?_ fun i hi=>?_
 ·simp only[List.take_zero,zA0,List.map_nil,jm4];refine .of (U3 4096 32768 32784) [] rfl (by first | rfl | (rw[hst];rfl)) ?_ ?_
  all_goals (try simp only[tL,simprocAttr,By,List.map_cons,List.map_nil,BW,Cy,Ax,jU5])
  all_goals (try (exact clA))
 obtain⟨i1,i2⟩:=hi;have hbl:=JM l.codes i;refine sD ?_;refine⟨fun h4=>?_,fun h4=>?_⟩
 ·have hi2:i<l.codes.length:=by omega
  have hwi:=qh (i:=i) oM;have hat:cdAt l.codes i=l.codes[i]:=by rw[cdAt,qg hi2]
  have hs:cdEs l.codes (i+1)=cdE l.codes i:=by rw[cdEs,Aq (by rw[i2];simp)]
  have hbad:cdE l.codes i≠0→lstE l=cdE l.codes i:=fun hb=>by
   have:=qQ4 (by rw[hs];exact hb) l.codes.length (show i+1≤l.codes.length by omega);rw[hE1 (by rw[this,hs];exact hb),this,hs]
  simp only[tZ,↓uU,simprocAttr,Ax,qd hi2];refine⟨oM,?_⟩;refine C1.im (KV l.codes[i].name) rF rF ?_;simp only[tZ,↓uU,simprocAttr,Bx,Bz,zr4];refine⟨fun h5=>?_,fun h5=>?_⟩
  ·have hc:cdE l.codes i=3:=by rw[cdE,hat,Aj h5]
   rw[hbad (by rw[hc];decide),hc];exact .oA [] []
  refine⟨fun h6=>?_,fun h6=>?_⟩
  ·have hc:cdE l.codes i=10:=by rw[cdE,hat,Aq (by rw[h5];simp),Aj h6]
   rw[hbad (by rw[hc];decide),hc];exact .oA [] []
  have hpar:l.codes[i].par=parC l.codes i:=by rw[parC,hat]
  have hcE:cdE l.codes i=if (i=0∧parC l.codes i≠-1)∨(0<i∧(parC l.codes i<0∨parC l.codes i≥i)) then 6 else 0:=by
   rw[cdE,hat,Aq (by rw[h5];simp),Aq (by rw[h6];simp)]
  have hasg:=zL9 (c:=l.codes[i]) (cs:=l.codes.take i) h6;rw[← qy hi2] at hasg;simp only[tZ,↓uU,simprocAttr,hasg,hpar,tD,AY,Ak,Bj,Aw];refine⟨fun h7=>?_,fun h7=>?_⟩
  ·have hc:cdE l.codes i=6:=by rw[hcE,Aj oM]
   rw[hbad (by rw[hc];decide),hc];exact .oA [] []
  have hc0:cdEs l.codes (i+1)=0:=by rw[hs,hcE,Aq oM]
  refine⟨fun h8=>?_,fun h8=>?_⟩
  ·obtain⟨q,hq⟩:=AJ (show 0≤parC l.codes i by omega);have hq3:q<(aboL l.codes i).length:=by omega
   have hset:=jz0 (p:=q) hi2 (by rw[hpar,hq]);simp only[hq,Ax,qd hq3,show ∀ a b:Bool,repl (vB a) 0 (vB b)=vB b from fun _ _=>rfl,hwi];refine⟨⟨oM,oM,oM⟩,⟨oM,oM,rfl⟩,i+1,⟨oM,hc0⟩,oM,?_⟩;rw[← List.map_set,hset];exact .oA (U3 4096 32768 32784) []
  ·have hsk:=jm5 hi2 oM;simp only[hwi];refine⟨i+1,⟨oM,hc0⟩,oM,?_⟩;rw[hsk];exact .oA (U3 4096 32768 32784) []
 ·have hil:i=l.codes.length:=by omega
  subst hil;have hP:=jU6 i2 oM;have hdl:=qe6 l.codes;refine C1.im (wI l hP) rF rF ?_;refine sW ?_;have hbl:=JM l.codes l.codes.length;refine qt mixm (α:=Nat×Int) [7,84] (fun x=>x.1≤l.codes.length∧lvs l.codes x.1=some x.2) (fun x=>[(7,vI x.2),(84,vI x.1)]) (fun x=>[aR 32784 1 ((aboL l.codes l.codes.length).map vB)]) (fun x=>l.codes.length-x.1) (0,-1) ⟨sMp,rfl⟩ ?_ fun x hx=>?_
  ·rw[Ax];exact .oA (U1 32784) []
  obtain⟨j,v⟩:=x;obtain⟨j1,j2⟩:=hx;dsimp only at j1 j2;refine sD ?_;refine⟨fun h5=>?_,fun h5=>?_⟩
  ·have hj2:j<l.codes.length:=by omega
   have hwj:=qh (i:=j) oM;have hs:=qq9 l.codes j;rw[j2,lvS] at hs;have hj3:j<(depL l.codes).length:=by omega
   have hj4:j<(aboL l.codes l.codes.length).length:=by omega
   have hd1:(depL l.codes)[j]=dep l.codes j:=by simp [depL]
   have ha1:=jz1 hj4;simp only[tZ,↓uU,simprocAttr,Ax,qd hj3,qd hj4,hd1,ha1,hwj,Bx,Bz,tD,Bj,Aw];refine⟨oM,oM,oM,fun h6=>?_,fun h6=>?_⟩
   ·rw[Aq (by rw[h6];simp)] at hs;refine⟨(j+1,v),⟨by dsimp only;omega,hs⟩,by dsimp only;omega,?_⟩;exact .oA (U1 32784) []
   ·rw[Aj h6] at hs;refine⟨fun h7=>?_,fun h7=>?_⟩
    ·rw[Aj oM] at hs;rw[hE2 i2 (zK5 hs _ oM)];exact .oA [] []
    ·rw[Aq oM] at hs;refine⟨(j+1,(dep l.codes j:Int)),⟨by dsimp only;omega,hs⟩,by dsimp only;omega,?_⟩;exact .oA (U1 32784) []
  ·have hjl:j=l.codes.length:=by omega
   subst hjl;rw[hE3 v i2 j2];exact .oA [] []
set_option maxRecDepth 4000
theorem Qt (p:CodL→Bool) (f:FuncId) (caps:List T) (hcap:imL caps=true) (l:List CodL) (hf:∀ y∈l,Sp f (cdlT y::caps) [] (vB (p y)) []) (hl:l.length<4611686018427387904) :
 Sp 148 [.sl 2 (l.map cdlT),.clo f caps] [] (vI (idxI p l)) []:=by
 refine sIr yz fun e _ hst=>?_;unfold zL;refine sW ?_;refine qt mixm (α:=Nat) [8] (fun i=>i≤l.length∧((l.take i).any p=false)) (fun i=>[(8,vI i)]) (fun i=>[]) (fun i=>l.length-i) 0 ⟨oM,?_⟩ ?_ fun i hi=>?_
 ·simp
 ·exact .oA [] []
 simp only[tZ,↓uU,simprocAttr,AZ,Ay];refine⟨fun h=>?_,fun h=>?_⟩
 ·have hi2:i<l.length:=by omega
  have hwi:=qh (i:=i) oM;simp only[tZ,↓uU,simprocAttr,Ax,qd hi2,hwi,Kr];refine⟨oM,?_⟩;refine C1.im (hf l[i] (AX hi2)) (Kv rfl hcap) rfl ?_;refine sW ?_;refine⟨fun h3=>?_,fun h3=>⟨i+1,⟨oM,zV hi2 hi.2 h3⟩,oM,?_⟩⟩
  ·rw[idxI,Aj (ql9 hi2 h3),jI hi2 hi.2 h3];exact .imR rfl rfl
  ·exact .oA [] []
 ·have h2:i=l.length:=by omega
  have h3:=hi.2;rw[h2,Bw] at h3;rw[idxI,Aq (by rw[h3];simp)];exact .imR rfl rfl
theorem wU (p:CodL→Bool) (f:FuncId) (caps:List T) (hcap:imL caps=true) (l:List CodL) (hf:∀ y∈l,Sp f (cdlT y::caps) [] (vB (p y)) []) (hl:l.length<4611686018427387904) :
 Sp 92 [.sl 2 (l.map cdlT),.clo f caps] [] (vB (l.any p)) []:=by
 refine sIr wv fun e _ hst=>?_;unfold zw;refine sW ?_;refine C1.im (Qt p f caps hcap l hf hl) (qq7 rfl hcap) rfl ?_;refine sW ?_;rw[show decide (idxI p l≥0)=l.any p from qU3 p l];exact .imR rfl rfl
theorem ZC (p:Col→Bool) (f:FuncId) (caps:List T) (hcap:imL caps=true) (l:List Col) (hf:∀ y∈l,Sp f (colT y::caps) [] (vB (p y)) []) (hl:l.length<4611686018427387904) :
 Sp 172 [.sl 7 (l.map colT),.clo f caps] [] (vI (idxI p l)) []:=by
 refine sIr QB fun e _ hst=>?_;unfold zY;refine sW ?_;refine qt mixm (α:=Nat) [8] (fun i=>i≤l.length∧((l.take i).any p=false)) (fun i=>[(8,vI i)]) (fun i=>[]) (fun i=>l.length-i) 0 ⟨oM,?_⟩ ?_ fun i hi=>?_
 ·simp
 ·exact .oA [] []
 simp only[tZ,↓uU,simprocAttr,AZ,Ay];refine⟨fun h=>?_,fun h=>?_⟩
 ·have hi2:i<l.length:=by omega
  have hwi:=qh (i:=i) oM;simp only[tZ,↓uU,simprocAttr,Ax,qd hi2,hwi,Kr];refine⟨oM,?_⟩;refine C1.im (hf l[i] (AX hi2)) (Kv rfl hcap) rfl ?_;refine sW ?_;refine⟨fun h3=>?_,fun h3=>⟨i+1,⟨oM,zV hi2 hi.2 h3⟩,oM,?_⟩⟩
  ·rw[idxI,Aj (ql9 hi2 h3),jI hi2 hi.2 h3];exact .imR rfl rfl
  ·exact .oA [] []
 ·have h2:i=l.length:=by omega
  have h3:=hi.2;rw[h2,Bw] at h3;rw[idxI,Aq (by rw[h3];simp)];exact .imR rfl rfl
theorem yE (p:Col→Bool) (f:FuncId) (caps:List T) (hcap:imL caps=true) (l:List Col) (hf:∀ y∈l,Sp f (colT y::caps) [] (vB (p y)) []) (hl:l.length<4611686018427387904) :
 Sp 149 [.sl 7 (l.map colT),.clo f caps] [] (vB (l.any p)) []:=by
 refine sIr yh fun e _ hst=>?_;unfold zH;refine sW ?_;refine C1.im (ZC p f caps hcap l hf hl) (qq7 rfl hcap) rfl ?_;refine sW ?_;rw[show decide (idxI p l≥0)=l.any p from qU3 p l];exact .imR rfl rfl
theorem qp8 (x y:CodL):Sp 93 [cdlT x,.ip (cdlT y).cells] [] (vB (eqB x.name y.name)) []:=by
 refine sIr qh9 fun e _ hst=>?_;unfold ww;refine sW ?_;rw[show (x.name.toList==y.name.toList)=eqB x.name y.name from rfl];exact .oA [] []
theorem Kd (x y:Col):Sp 150 [colT x,.ip (colT y).cells] [] (vB (eqB x.name y.name)) []:=by
 refine sIr Jz fun e _ hst=>?_;unfold jq;refine sW ?_;rw[show (x.name.toList==y.name.toList)=eqB x.name y.name from rfl];exact .oA [] []
def unuB (c:Col):Bool:=!(((c.kind != 2)&&(c.list != 0))||((c.kind != 3)&&((c.low != 0)||(c.high != 0)||(c.widths.length != 0)||c.opt)))
theorem Qu (c:Col):Sp 152 [colT c] [] (vB (unuB c)) []:=by
 refine sIr qo7 fun e _ hst=>?_;unfold yi;refine sW ?_;refine⟨fun h=>?_,fun h=>?_⟩
 ·have:unuB c=false:=by unfold unuB;rw[h];rfl
  rw[this];exact .oA [] []
 ·have e:((c.widths.length:Int)==0)=(c.widths.length==0):=by rw[Bool.eq_iff_iff,AY,AY];omega
  have:unuB c=(c.kind==3||c.low==0&&c.high==0&&((c.widths.length:Int)==0)&&!c.opt):=by
   unfold unuB;rw[h,e];simp only[Bool.false_or,bne,Bool.not_and,Bool.not_or,Bool.not_not]
  rw[this];exact .oA [] []
def zr5 (ws:List Int) (i:Nat):Int:=if i=0 then 1 else ws.getD (i-1) 0
theorem KW (c:Col):Sp 151 [colT c] [] (vI (measE c)) []:=by
 refine sIr JW fun e _ hst=>?_;unfold jx;refine sW ?_;simp only[tZ,↓uU,simprocAttr,tD,Bx,Bz,AY,Ak];have hin:∀ n:Int,inB n (-1000000) 1000000=false↔(n < -1000000∨n>1000000):=fun n=>by
  unfold inB;rw[FJ,Ay,Ay];omega
 refine⟨fun h=>?_,fun h=>?_⟩
 ·have k:inB c.low (-1000000) 1000000=false∨inB c.high (-1000000) 1000000=false∨c.low>c.high:=by
   rw[hin,hin];omega
  rw[measE,Aj k];exact .oA [] []
 have hA:¬ (inB c.low (-1000000) 1000000=false∨inB c.high (-1000000) 1000000=false∨c.low>c.high):=by
  rw[hin,hin];omega
 refine⟨fun h2=>?_,fun h2=>?_⟩
 ·rw[measE,Aq hA,Aj oM];exact .oA [] []
 have hm:measE c=if jx2 c.widths=false then 2 else 0:=by rw[measE,Aq hA,Aq oM]
 refine qt mixm (α:=Nat) [3,36] (fun i=>i≤c.widths.length∧(∀ j,j<i→wdOk c.widths j=true)) (fun i=>[(3,vI (zr5 c.widths i)),(36,vI i)]) (fun i=>[]) (fun i=>c.widths.length-i) 0 ⟨oM,?_⟩ ?_ fun i hi=>?_
 ·intro j hj;omega
 ·exact .oA [] []
 have hbad:i<c.widths.length→wdOk c.widths i=false→measE c=2:=fun h1 h2=>by
  rw[hm,Aj];exact List.all_eq_false.2 ⟨i,Dk.2 h1,by rw[h2];simp⟩
 have hok:wdOk c.widths i=true→∀ j,j<i+1→wdOk c.widths j=true:=fun h1 j hj=>by
  by_cases e:j=i
  ·rw[e];exact h1
  ·exact hi.2 j oM
 simp only[tZ,↓uU,simprocAttr,AZ,Ay];refine⟨fun h=>?_,fun h=>?_⟩
 ·have hi2:i<c.widths.length:=by omega
  have hwi:=qh (i:=i) oM;have hnx:zr5 c.widths (i+1)=c.widths[i]:=by rw[zr5,Aq oM,Nat.add_sub_cancel,qg hi2]
  rcases DQ i with h0 | h0
  ·subst h0;have hw0:wdOk c.widths 0=(c.widths[0]==1):=by rw[wdOk,Aj rfl,qg hi2]
   have hz:((0:Nat):Int)=0:=rfl;rw[hz] at hwi;simp only[tZ,↓uU,simprocAttr,Ax,hz,beq_self_eq_true,gt_iff_lt,Int.lt_irrefl,decide_false,Bool.false_and,Bool.or_false,Fq,qd hi2,Bj,Aw];have hwz:IntKind.i64.wrap 1=((1:Nat):Int):=by decide
   refine⟨oM,fun h3=>?_,fun h3=>?_⟩
   ·rw[hbad hi2 (by rw[hw0];simpa using h3)];exact .oA [] []
   ·rw[hwz];refine⟨1,⟨oM,hok (by rw[hw0];simpa using h3)⟩,oM,?_⟩;rw[hnx];exact .oA [] []
  ·have e1:((i:Int)==0)=false:=Ak.2 oM;have e2:decide ((i:Int)>0)=true:=Cx oM;have hw1:wdOk c.widths i=(decide (zr5 c.widths i<c.widths[i])&&decide (c.widths[i]≤1000000)&&(c.widths[i].tmod (zr5 c.widths i)==0)):=by
    rw[wdOk,Aq oM,qg hi2,zr5,Aq oM]
   have hp1:1≤zr5 c.widths i:=by
    have:=zo9 (ws:=c.widths) hi.2 (i-1) oM;rw[zr5,Aq oM];exact this
   simp only[tZ,↓uU,simprocAttr,Ax,qd hi2,e1,e2,hwi,tD,Bj,Aw];refine⟨oM,fun _=>by omega,fun h3=>?_,fun h3=>?_⟩
   ·rw[hbad hi2 (by rw[hw1];grind)];exact .oA [] []
   ·refine⟨i+1,⟨oM,hok (by rw[hw1];grind)⟩,oM,?_⟩;rw[hnx];exact .oA [] []
 ·have hi2:i=c.widths.length:=by omega
  subst hi2;rw[hm,Aq]
  ·exact .oA [] []
  ·rw[Ez];exact Bk.2 fun j hj=>hi.2 j (Dk.1 hj)
theorem WE (s:Sch) (i:Nat) (hi:i<s.cols.length) (hn:s.cols.length<4611686018427387904) (hl:s.lists.length<4611686018427387904):Sp 94 [schT s,vI i] [] (vI (colE s i)) []:=by
 have hat:qj s i=s.cols[i]:=by rw[qj,qg hi]
 have hE:colE s i=if jr s.cols[i].name=false then 3
  else if ((s.cols.take i).any fun x=>eqB x.name s.cols[i].name)=true then 10
  else if inB s.cols[i].kind 1 3=false∨(0<i∧s.cols[i].kind=1) then 4
  else if s.cols[i].kind=2∧inB s.cols[i].list 0 (s.lists.length-1)=false then 5
  else if s.cols[i].kind=3∧measE s.cols[i]≠0 then measE s.cols[i]
  else if (s.cols[i].kind≠2∧s.cols[i].list≠0)∨(s.cols[i].kind≠3∧(s.cols[i].low≠0∨s.cols[i].high≠0∨0<s.cols[i].widths.length∨s.cols[i].opt=true)) then 11 else 0:=by rw[colE,hat]
 rw[hE];refine sIr KE fun e _ hst=>?_;unfold jD;simp only[tZ,↓uU,simprocAttr,Ax,qd hi];generalize s.cols[i]=c;refine⟨oM,?_⟩;refine C1.im (KV c.name) rF rF ?_;simp only[tZ,↓uU,simprocAttr,Bx,Bz];refine⟨fun h=>?_,fun h=>?_⟩
 ·rw[Aj h];exact .oA [] []
 rw[Aq (by rw[h];simp)];have hCF:=yE (fun x=>eqB x.name c.name) 150 [.ip (colT c).cells] rfl (s.cols.take i) (fun x _=>Kd x c) (by rw[Cz];omega);refine⟨oM,?_⟩;rw[Kt,zl1];refine C1.lend [8212] hCF ?_ rF rF ?_
 ·all_goals (try simp only[tL,simprocAttr,By,List.map_cons,List.map_nil,BW,Cy])
  all_goals (try (repeat' (first | exact zq | (apply jm;intro _;exact⟨rfl,rfl⟩) | (apply qV;intro _;exact⟨rfl,rfl⟩) | with_reducible apply zm | with_reducible refine zj ⟨rfl,rfl⟩ ?_ | exact zC | with_reducible apply zg | with_reducible refine zf ⟨rfl,rfl,?_⟩ ?_ | with_reducible apply Az | exact zh rfl | exact zh (by assumption) | (refine⟨⟨?_,rfl,?_,rfl,?_⟩,trivial⟩ <;> first | (simp;done) | (apply qV;intro _;exact⟨rfl,rfl⟩)) | trivial | rfl | (rw[qh oM]) | omega)))
  simp only[ltP];exact⟨rfl,by decide,rfl,zj ⟨rfl,rfl⟩ zC⟩
 simp only[tZ,↓uU,simprocAttr,tD,Bx,Bz,AY,Ak];refine⟨fun h2=>?_,fun h2=>?_⟩
 ·rw[Aj h2];exact .oA [] []
 rw[Aq (by rw[h2];simp)];have hI:inB c.kind 1 3=false↔¬ (1≤c.kind∧c.kind≤3):=by unfold inB;rw[FJ,Ay,Ay];omega
 have hL:inB c.list 0 (s.lists.length-1)=false↔(c.list<0∨(s.lists.length:Int)≤c.list):=by unfold inB;rw[FJ,Ay,Ay];omega
 have hU:unuB c=false↔((c.kind≠2∧c.list≠0)∨(c.kind≠3∧(c.low≠0∨c.high≠0∨0<c.widths.length∨c.opt=true))):=by
  have hw0:c.widths.length≠0↔0<c.widths.length:=by omega
  unfold unuB;rw[Bz,DZ,Bq,Bq,Bj,Bj,Bj,DZ,DZ,DZ,Bj,Bj,Bj,hw0,or_assoc,or_assoc]
 have hfin:∀ (v:Int),(unuB c=false→v=11)→(unuB c=true→v=0)→v=if (c.kind≠2∧c.list≠0)∨(c.kind≠3∧(c.low≠0∨c.high≠0∨0<c.widths.length∨c.opt=true)) then 11 else 0:=fun v h11 h00=>by
  by_cases k:unuB c=false
  ·rw[Aj (hU.1 k),h11 k]
  ·rw[Aq (fun e=>k (hU.2 e)),h00 (by simpa using k)]
 refine⟨fun k1=>⟨fun h3=>?_,fun h3=>?_⟩,fun k1=>⟨fun k2=>⟨fun h3=>?_,fun h3=>?_⟩,fun k2=>⟨fun k3=>?_,fun k3=>?_⟩⟩⟩
 ·rw[Aj (.inr ⟨oM,k1⟩)];exact .oA [] []
 ·rw[Aq (by rw[hI];omega),Aq oM,Aq oM];refine C1.im (Qu c) rF rF ?_;simp only[tZ,↓uU,simprocAttr,Bx,Bz];refine⟨fun h4=>?_,fun h4=>?_⟩
  ·rw[← hfin 11 (fun _=>rfl) (fun k=>by rw[h4] at k;cases k)];exact .oA [] []
  ·rw[← hfin 0 (fun k=>by rw[h4] at k;cases k) (fun _=>rfl)];exact .oA [] []
 ·rw[Aq (by rw[hI];omega),Aj ⟨k2,hL.2 h3⟩];exact .oA [] []
 ·rw[Aq (by rw[hI];omega),Aq (by rw[hL];omega),Aq oM];refine C1.im (Qu c) rF rF ?_;simp only[tZ,↓uU,simprocAttr,Bx,Bz];refine⟨fun h4=>?_,fun h4=>?_⟩
  ·rw[← hfin 11 (fun _=>rfl) (fun k=>by rw[h4] at k;cases k)];exact .oA [] []
  ·rw[← hfin 0 (fun k=>by rw[h4] at k;cases k) (fun _=>rfl)];exact .oA [] []
 ·rw[Aq (by rw[hI];omega),Aq oM];refine C1.im (KW c) rF rF ?_;simp only[tZ,↓uU,simprocAttr,Bj,Aw];refine⟨fun h3=>?_,fun h3=>?_⟩
  ·rw[Aj ⟨k3,h3⟩];exact .oA [] []
  rw[Aq oM];refine C1.im (Qu c) rF rF ?_;simp only[tZ,↓uU,simprocAttr,Bx,Bz];refine⟨fun h4=>?_,fun h4=>?_⟩
  ·rw[← hfin 11 (fun _=>rfl) (fun k=>by rw[h4] at k;cases k)];exact .oA [] []
  ·rw[← hfin 0 (fun k=>by rw[h4] at k;cases k) (fun _=>rfl)];exact .oA [] []
 ·rw[Aj (.inl (hI.2 oM))];exact .oA [] []
theorem WN (s:Sch) (hn:s.cols.length<4611686018427387904) (hl:s.lists.length<4611686018427387904):Sp 44 [schT s] [] (vI (schE s)) []:=by
 refine sIr qw1 fun e _ hst=>?_;unfold yU;refine sD ?_;refine⟨fun h=>?_,fun h=>?_⟩
 ·rw[schE,Aj oM];exact .oA [] []
 have hE1:kE s s.lists.length≠0→schE s=kE s s.lists.length:=fun k=>by rw[schE,Aq oM,Aj k]
 refine qt mixm (α:=Nat) [21] (fun i=>i≤s.lists.length∧kE s i=0) (fun i=>[(21,vI i)]) (fun i=>[aR 4096 2 [schT s]]) (fun i=>s.lists.length-i) 0 ⟨oM,rfl⟩ ?_ fun i hi=>?_
 ·exact .oA (U1 4096) []
 obtain⟨i1,i2⟩:=hi;refine sD ?_;refine⟨fun h2=>?_,fun h2=>?_⟩
 ·have hi2:i<s.lists.length:=by omega
  have hwi:=qh (i:=i) oM;have hat:s.lists.getD i default=s.lists[i]:=qg hi2;have hstep:kE s (i+1)=if lstE s.lists[i]≠0 then lstE s.lists[i] else if ((s.lists.take i).any fun x=>eqB x.name s.lists[i].name)=true then 10 else 0:=by
   rw[kE,Aq (by rw[i2];simp),hat]
  have hbad:kE s (i+1)≠0→schE s=kE s (i+1):=fun k=>by
   have:=qz4 k s.lists.length oM;rw[hE1 (by rw[this];exact k),this]
  have hCF:=wU (fun x=>eqB x.name s.lists[i].name) 93 [.ip (cdlT s.lists[i]).cells] rfl (s.lists.take i) (fun x _=>qp8 x s.lists[i]) (by rw[Cz];omega);simp only[tZ,↓uU,simprocAttr,Ax,qd hi2,hwi];generalize s.lists[i]=c at *
  refine⟨oM,?_⟩;refine C1.im (yD c) rF rF ?_;simp only[tZ,↓uU,simprocAttr,Bj,Aw];refine⟨fun h3=>?_,fun h3=>?_⟩
  ·rw[Aj h3] at hstep;rw[hbad (by rw[hstep];exact h3),hstep];exact .oA [] []
  rw[Aq (by rw[h3];simp)] at hstep;refine⟨oM,?_⟩;rw[Kt,zl1];refine C1.lend [24588] hCF ?_ rF rF ?_
  ·all_goals (try simp only[tL,simprocAttr,By,List.map_cons,List.map_nil,BW,Cy])
   all_goals (try (repeat' (first | exact zq | (apply jm;intro _;exact⟨rfl,rfl⟩) | (apply qV;intro _;exact⟨rfl,rfl⟩) | with_reducible apply zm | with_reducible refine zj ⟨rfl,rfl⟩ ?_ | exact zC | with_reducible apply zg | with_reducible refine zf ⟨rfl,rfl,?_⟩ ?_ | with_reducible apply Az | exact zh rfl | exact zh (by assumption) | (refine⟨⟨?_,rfl,?_,rfl,?_⟩,trivial⟩ <;> first | (simp;done) | (apply qV;intro _;exact⟨rfl,rfl⟩)) | trivial | rfl | (rw[qh oM]) | omega)))
   simp only[ltP];exact⟨rfl,by decide,rfl,zj ⟨rfl,rfl⟩ zC⟩
  simp only[tZ,↓uU,simprocAttr,hwi];refine⟨fun h4=>?_,fun h4=>?_⟩
  ·rw[Aj h4] at hstep;rw[hbad (by rw[hstep];simp),hstep];exact .oA [] []
  ·rw[Aq (by rw[h4];simp)] at hstep;refine⟨i+1,⟨oM,hstep⟩,oM,?_⟩;exact .oA (U1 4096) []
 ·have hil:i=s.lists.length:=by omega
  subst hil;have hE2:s.cols.length=0∨(qj s 0).kind≠1→schE s=7:=fun k=>by rw[schE,Aq oM,Aq (by rw[i2];simp),Aj k]
  have hE3:¬ (s.cols.length=0∨(qj s 0).kind≠1)→schE s=ZN s s.cols.length:=fun k=>by rw[schE,Aq oM,Aq (by rw[i2];simp),Aq k]
  have hz:((0:Nat):Int)=0:=rfl;by_cases h0:s.cols.length=0
  ·have hn:s.cols=[]:=Dy.1 h0;rw[hE2 (.inl h0)];simp only[tZ,↓uU,simprocAttr,hn,Cw,hz,beq_self_eq_true];exact .oA [] []
  ·have h0p:0<s.cols.length:=by omega
   have e0:((s.cols.length:Int)==0)=false:=Ak.2 oM;have hc0:qj s 0=s.cols[0]:=by rw[qj,qg h0p]
   simp only[tZ,↓uU,simprocAttr,e0,qd h0p,Bj,Aw,Bool.false_or];refine⟨oM,fun h3=>?_,fun h3=>?_⟩
   ·rw[hE2 (.inr (by rw[hc0];exact h3))];exact .oA [] []
   have hE4:=hE3 (by rw[hc0];grind);refine qt mixm (α:=Nat) [53] (fun i=>i≤s.cols.length∧ZN s i=0) (fun i=>[(53,vI i)]) (fun i=>[aR 4096 2 [schT s]]) (fun i=>s.cols.length-i) 0 ⟨oM,rfl⟩ ?_ fun i hi=>?_
   ·exact .oA (U1 4096) []
   simp only[tZ,↓uU,simprocAttr,AZ,Ay];refine⟨fun h=>?_,fun h=>?_⟩
   ·have hi2:i<s.cols.length:=by omega
    have hwi:=qh (i:=i) oM;have hstep:ZN s (i+1)=colE s i:=by rw[ZN,Aq (by rw[hi.2];simp)]
    refine C1.im (WE s i hi2 hn hl) rF rF ?_;simp only[tZ,↓uU,simprocAttr,Bj,Aw,hwi];refine⟨fun h4=>?_,fun h4=>?_⟩
    ·have:=qz5 (s:=s) (i:=i+1) (by rw[hstep];exact h4) s.cols.length oM;rw[hE4,this,hstep];exact .oA [] []
    ·refine⟨i+1,⟨oM,by rw[hstep];exact h4⟩,oM,?_⟩;exact .oA (U1 4096) []
   ·have hil:i=s.cols.length:=by omega
    rw[hE4,← hil,hi.2];exact .oA [] []
theorem qr0 {cs:List Cod}:∀ {n:Nat} {v:Int},lvs cs n=some v→∀ j,j<n→qp7 cs j=true→(dep cs j:Int)=v
 | 0,_,_,j,h,_=>by omega
 | n+1,v,h,j,hj,hl=>by
   rw[qq9] at h;cases e:lvs cs n with
   | none=>rw[e] at h;cases h
   | some w=>
     rw[e] at h;have ih:=fun k hk h2=>qr0 e k hk h2;unfold lvS at h;dsimp only at h;split at h
     ·split at h
      ·cases h
      ·rename_i h2;have hv:(dep cs n:Int)=v:=by simpa using h
       by_cases e2:j=n
       ·rw[e2];exact hv
       ·have:=ih j oM hl;omega
     ·rename_i h2;have hv:w=v:=by simpa using h
      by_cases e2:j=n
      ·rw[e2] at hl;exact absurd hl h2
      ·have:=ih j oM hl;omega
theorem zM0 {cs:List Cod} {c:Nat}:qp7 cs c=true↔∀ i,i<cs.length→parC cs i≠c:=by
 unfold qp7;rw[Bx,List.any_eq_false];constructor
 ·intro h i hi e;have:=h cs[i] (AX hi);rw[parC,cdAt,qg hi] at e;simp [e] at this
 ·intro h x hx;obtain⟨i,hi,rfl⟩:=CX hx;have:=h i hi;rw[parC,cdAt,qg hi] at this;simpa using this
theorem jz2 {l:CodL} (h:lstE l=0):∃ v,lvs l.codes l.codes.length=some v:=by
 unfold lstE at h;split at h
 ·cases h
 ·split at h
  ·cases h
  ·split at h
   ·cases h
   ·split at h
    ·rename_i h2;exact absurd h h2
    ·split at h
     ·cases h
     ·rename_i v e;exact⟨v,e⟩
theorem jN2 {l:CodL} (h:lstE l=0) {c:Nat} (hc:c<l.codes.length):(dep l.codes c:Int)≤zA l-1∧(qp7 l.codes c=true→(dep l.codes c:Int)=zA l-1)∧(qp7 l.codes c=false→(dep l.codes c:Int)<zA l-1):=by
 obtain⟨hp,h1,h2⟩:=ze h;obtain⟨v,hv⟩:=jz2 h;have hlast:qp7 l.codes (l.codes.length-1)=true:=zM0.2 fun i hi e=>by
  have:=(hp i hi).2;omega
 have hlv:=qr0 hv (l.codes.length-1) oM hlast;have hL:zA l-1=v:=by rw[zA,Aq (by rw[h];simp)];omega
 have hall:∀ k c,l.codes.length-c=k→c<l.codes.length→(dep l.codes c:Int)≤v∧(qp7 l.codes c=false→(dep l.codes c:Int)<v):=by
  intro k
  induction k using Nat.strongRecOn with
  | _ k ih=>
    intro c hk hc;cases hl:qp7 l.codes c with
    | true=>
      have:=qr0 hv c hc hl;exact⟨oM,fun e=>by cases e⟩
    | false=>
      have hn:¬ ∀ i,i<l.codes.length→parC l.codes i≠c:=fun k=>by rw[zM0.2 k] at hl;cases hl
      simp only[Classical.not_forall] at hn;obtain⟨i,hi,hn⟩:=hn;have hpc:parC l.codes i=c:=AQ hn;have h3:=hp i hi;have h4:=YC hp hi oM;rw[hpc,Ax] at h4;have h5:=ih (l.codes.length-i) oM i rfl hi;have:=h5.1;exact⟨oM,fun _=>by omega⟩
 have:=hall _ c rfl hc;rw[hL];exact⟨this.1,fun hl=>qr0 hv c hc hl,this.2⟩
theorem qp9 (l:List Int) (m:Int) (hm:m∈l) (hle:∀ x∈l,x≤m) (hl:l.length<4611686018427387904):Sp 106 [vIs l] [] (vI m) []:=by
 have h0:0<l.length:=List.length_pos_of_mem hm;have e0:decide ((l.length:Int)<1)=false:=Cq oM;refine sIr ZJ fun e _ hst=>?_;unfold jJ;simp only[tZ,↓uU,simprocAttr,e0,qd h0];refine⟨oM,?_⟩;refine qt mixm (α:=Nat×Int) [3,4] (fun q=>1≤q.1∧q.1≤l.length∧q.2∈l∧∀ x∈l.take q.1,x≤q.2) (fun q=>[(3,vI q.2),(4,vI q.1)]) (fun q=>[]) (fun q=>l.length-q.1) (1,l[0]) ⟨sMp,by dsimp only;omega,AX h0,fun x hx=>by
  rw[show l.take 1=[l[0]] by cases l with | nil=>simp at h0 | cons a r=>rfl,Ey] at hx;rw[hx];exact Int.le_refl _⟩ ?_ fun q hq=>?_
 ·exact .oA [] []
 obtain⟨i,v⟩:=q;obtain⟨i0,i1,i2,i3⟩:=hq;dsimp only at i0 i1 i2 i3;refine sD ?_;refine⟨fun h2=>?_,fun h2=>?_⟩
 ·have hi2:i<l.length:=by omega
  have hwi:=qh (i:=i) oM;simp only[tZ,↓uU,simprocAttr,Ax,qd hi2,hwi];refine⟨oM,(i+1,maxI v l[i]),⟨by dsimp only;omega,by dsimp only;omega,?_,fun x hx=>?_⟩,by dsimp only;omega,?_⟩
  ·dsimp only[maxI];split
   ·exact AX hi2
   ·exact i2
  ·dsimp only at hx;dsimp only[maxI];rw[qy hi2] at hx;rcases Dz.1 hx with k | k
   ·have:=i3 x k;split <;> omega
   ·rw[Ey.1 k];split <;> omega
  ·exact .oA [] []
 ·have hv:v=m:=by
   have h5:=hle v i2;have h6:=i3 m (by rw[List.take_of_length_le oM];exact hm);omega
  rw[hv];exact .oA [] []
theorem WO (l:CodL):Sp 96 [cdlT l] [] (vI (zA l)) []:=by
 refine sIr qx3 fun e _ hst=>?_;unfold Qa;refine sW ?_;refine C1.im (yD l) rF rF ?_;simp only[tZ,↓uU,simprocAttr,Bj,Aw];refine⟨fun h=>?_,fun h=>?_⟩
 ·rw[zA,Aj h];exact .oA [] []
 obtain⟨hp,h1,h2⟩:=ze h;have hdl:=qe6 l.codes;have hL:zA l=(dep l.codes (l.codes.length-1):Int)+1:=by rw[zA,Aq (by rw[h];simp)]
 have hd:=qQ3 hp (l.codes.length-1) oM;have hM:=qp9 (depL l.codes) (dep l.codes (l.codes.length-1)) (Cj.2 ⟨l.codes.length-1,Dk.2 oM,rfl⟩) (fun x hx=>by
  obtain⟨c,hc,rfl⟩:=Cj.1 hx;have:=(jN2 h (Dk.1 hc)).1;omega) oM
 have hw:=qh (i:=dep l.codes (l.codes.length-1)) oM;refine C1.im (wI l (qe8 h)) rF rF ?_;refine sW ?_;refine C1.im hM rF rF ?_;simp only[tZ,↓uU,simprocAttr,hw];rw[hL];exact .oA [] []
def hasB (l:CodL) (c:Int):Bool:=decide (0≤c)&&decide (c<l.codes.length)&&(lstE l==0)
theorem zA1 (l:CodL) (c:Int):Sp 155 [cdlT l,vI c] [] (vB (hasB l c)) []:=by
 refine sIr zn4 fun e _ hst=>?_;unfold KL;refine sW ?_;refine C2.im (fun _=>yD l) (fun _=>rfl) rF ?_;refine sW ?_;rw[show hasB l c=(decide (0≤c)&&decide (c<l.codes.length)&&(lstE l==0)) from rfl];exact .oA [] []
theorem zM1 {l:CodL} {c:Int}:hasB l c=true↔0≤c∧c<l.codes.length∧lstE l=0:=by
 unfold hasB;rw[Bq,Bq,AZ,AZ,AY,and_assoc]
theorem zM2 {cs:List Cod} {c:Nat} (h:c<(depL cs).length):(depL cs)[c]=dep cs c:=by simp [depL]
theorem zS3 (l:CodL) (lev:Int):Sp 95 [cdlT l,vI lev] [] (vIs (atL l lev)) []:=by
 refine sIr zx9 fun e _ hst=>?_;unfold Ym;refine sW ?_;refine C1.im (yD l) rF rF ?_;simp only[tZ,↓uU,simprocAttr,Bj,Aw];refine⟨fun h=>?_,fun h=>?_⟩
 ·rw[atL,Aj h];exact .oA [] []
 obtain⟨hp,h1,h2⟩:=ze h;have e:atL l lev=atN l.codes lev l.codes.length:=by rw[atL,Aq (by rw[h];simp)];rfl
 rw[e];have hdl:=qe6 l.codes;refine C1.im (wI l (qe8 h)) rF rF ?_;refine sW ?_;refine qt mixm (α:=Nat) [5,14] (fun i=>i≤l.codes.length) (fun i=>[(5,.asl 1 (atN l.codes lev i).length),(14,vI i)]) (fun i=>[aR 1 1 ((atN l.codes lev i).map vI)]) (fun i=>l.codes.length-i) 0 oM ?_ fun i hi=>?_
 ·simp only[atN,List.range_zero,List.filter_nil,List.map_nil,Cw];exact .oA [(1,none)] []
 have hli:=jk6 l.codes lev i;refine sD ?_;refine⟨fun h3=>?_,fun h3=>?_⟩
 ·have hi2:i<(depL l.codes).length:=by omega
  have hwi:=qh (i:=i) oM;have hs:=zK6 l.codes lev i;simp only[tZ,↓uU,simprocAttr,Ax,qd hi2,zM2 hi2,AY,Ak,hwi];refine⟨oM,fun h4=>?_,fun h4=>?_⟩
  ·rw[Aj h4] at hs;refine⟨oM,i+1,oM,oM,?_⟩;rw[hs];exact .oA (U1 1) []
  ·rw[Aq h4,CW] at hs;refine⟨i+1,oM,oM,?_⟩;rw[hs];exact .oA (U1 1) []
 ·have hil:i=l.codes.length:=by omega
  subst hil;exact .oA [] [1]
theorem zS4 (l:CodL) (c lev:Int):Sp 101 [cdlT l,vI c,vI lev] [] (vI (upC l c lev)) []:=by
 refine sIr zy1 fun e _ hst=>?_;unfold Yn;refine sW ?_;refine C1.im (zA1 l c) rF rF ?_;simp only[tZ,↓uU,simprocAttr,tD,Bx,Bz];refine⟨fun h=>?_,fun h=>?_⟩
 ·have:upC l c lev = -1:=by
   rw[upC];by_cases k:lstE l≠0∨c<0∨c≥l.codes.length∨lev<0∨lev>dep l.codes c.toNat
   ·rw[Aj k]
   ·rcases h with h | h
    ·have:=zM1 (l:=l) (c:=c);rw[h] at this;exact absurd (this.2 ⟨oM,oM,AQ fun q=>k (.inl q)⟩) sMp
    ·omega
  rw[this];exact .oA [] []
 obtain⟨h0,h1,h2⟩:=zM1.1 h.1;obtain⟨hp,h3,h4⟩:=ze h2;obtain⟨k,rfl⟩:=AJ h0;obtain⟨v,rfl⟩:=AJ (show 0≤lev by omega);have hdl:=qe6 l.codes;have hk:k<(depL l.codes).length:=by omega
 have hdk:=qQ3 hp k oM;refine C1.im (wI l (qe8 h2)) rF rF ?_;simp only[tZ,↓uU,simprocAttr,Ax,qd hk,zM2 hk];refine⟨oM,?_⟩;by_cases hlv:dep l.codes k<v
 ·have hU:upC l k v = -1:=by rw[upC,Aj (by simp;omega)]
  rw[hU];refine qt mixm (α:=Unit) [1,7] (fun _=>True) (fun _=>[(1,vI k),(7,vI (dep l.codes k))]) (fun _=>[aR 4096 2 [cdlT l]]) (fun _=>0) () trivial ?_ fun _ _=>?_
  ·exact .oA (U1 4096) []
  have e0:decide ((dep l.codes k:Int)≥(v:Int))=false:=Cq oM;have e1:decide ((v:Int)≤(dep l.codes k:Int))=false:=Cq oM;simp only[tZ,↓uU,simprocAttr,e0,e1];exact .oA [] []
 have hU:upC l k v=upF l.codes v (k+1) k:=by rw[upC,Aq (by simp;omega),Ax,Ax]
 rw[hU];refine qt mixm (α:=Nat) [1,7] (fun x=>x<l.codes.length∧v≤dep l.codes x∧upF l.codes v (k+1) k=upF l.codes v (x+1) x) (fun x=>[(1,vI x),(7,vI (dep l.codes x))]) (fun x=>[aR 4096 2 [cdlT l]]) (fun x=>x) k ⟨oM,oM,rfl⟩ ?_ fun x hx=>?_
 ·exact .oA (U1 4096) []
 obtain⟨x1,x2,x3⟩:=hx;have hcd:l.codes[x].par=parC l.codes x:=by rw[parC,cdAt,qg x1]
 have e0:decide ((dep l.codes x:Int)≥(v:Int))=true:=Cx oM;have e1:decide ((v:Int)≤(dep l.codes x:Int))=true:=Cx oM;have hdx:=qQ3 hp x x1;simp only[tZ,↓uU,simprocAttr,e0,e1,Ax,qd x1,hcd,AY,Ak];refine⟨fun h6=>?_,fun h6=>?_⟩
 ·rw[x3,zo7 oM];exact .oA [] []
 ·obtain⟨u1,u2,u3,u4⟩:=up_step hp (lev:=v) x1 oM;obtain⟨p,hpe⟩:=AJ u1;have hw:IntKind.i64.wrap ((dep l.codes x:Int)-1)=(dep l.codes p:Int):=by
   rw[AK _ oM,u3,hpe,Ax];omega
  rw[hpe,Ax] at u4 u3;simp only[tZ,↓uU,simprocAttr,hpe,hw];refine⟨oM,p,⟨oM,oM,x3.trans u4⟩,oM,?_⟩;exact .oA (U1 4096) []
theorem qB1 (s:Sch) (hE:schE s=0) (c:Int):Sp 173 [schT s,vI c] [] (vI (finI s c)) []:=by
 have hok:=qO hE;have hnc:=hok.nc;refine sIr qp5 fun e _ hst=>?_;unfold ym;refine sD ?_;refine⟨fun h=>?_,fun h=>?_⟩
 ·rw[finI,Aj oM];exact .oA [] []
 obtain⟨i,rfl⟩:=AJ (show 0≤c by omega);have hi:i<s.cols.length:=by omega
 have hat:qj s i=s.cols[i]:=by rw[qj,qg hi]
 have hk:=zo (hok.cs i hi);have hcd:=fun e=>hok.cdl hi e;have hcl:qK s i=s.lists.getD s.cols[i].list.toNat default:=by rw[qK,hat]
 rw[hat] at hk hcd;rw[hcl] at hcd;rw[finI,Aq oM,Ax,hcl,hat];simp only[tZ,↓uU,simprocAttr,Ax,qd hi];generalize s.cols[i]=x at hk hcd ⊢
 simp only[tZ,↓uU,simprocAttr,AY,Ak];refine⟨oM,fun h2=>?_,fun h2=>?_⟩
 ·obtain⟨d1,d2⟩:=hcd h2;obtain⟨d3,d4⟩:=hk.2.2.2.1 h2;have hgl:s.lists.getD x.list.toNat default=s.lists[x.list.toNat]:=qg d1;rw[Aj h2];rw[hgl] at d2 ⊢
  simp only[tZ,↓uU,simprocAttr,qd d1];generalize s.lists[x.list.toNat]=l at d2 ⊢
  have hlv:=YD (l:=l);have hw2:IntKind.i64.wrap (zA l-1)=zA l-1:=AK _ oM;refine⟨oM,?_⟩;refine C1.im (WO l) rF rF ?_;simp only[tZ,↓uU,simprocAttr,hw2];exact .oA [] []
 ·rw[Aq h2];exact .oA [] []
theorem zb6 (s:Sch) (hE:schE s=0) (p:Pk):Sp 154 [schT s,pkT p] [] (vI (js s p)) []:=by
 have hP:js s p=if finI s p.col<0 then 7 else if inB p.lev 0 (finI s p.col)=false then 8 else 0:=by
  rw[js,Aq (by rw[hE];simp)];by_cases h:p.col<1∨p.col≥s.cols.length
  ·rw[Aj h,Aj (by rw[finI,Aj oM];omega)]
  ·rw[Aq h];have:0≤finI s p.col:=by
    rw[finI,Aq oM];split
    ·rename_i h2;have hok:=qO hE;obtain⟨_,d2⟩:=hok.cdl (i:=p.col.toNat) oM h2;rw[zA,Aq (by rw[d2];simp)];omega
    ·omega
   rw[Aq (show ¬ finI s p.col<0 by omega)]
 rw[hP];refine sIr qJ8 fun e _ hst=>?_;unfold Zt;refine sW ?_;refine C1.im (qB1 s hE p.col) rF rF ?_;refine sD ?_;refine⟨fun h=>?_,fun h=>⟨fun h2=>?_,fun h2=>?_⟩⟩
 ·rw[Aj h];exact .oA [] []
 ·rw[Aq h,Aj (qm4.2 oM)];exact .oA [] []
 ·rw[Aq h,Aq (by rw[qm4];omega)];exact .oA [] []
theorem zb7 (s:Sch) (hs:jY s) (p:Pk):Sp 98 [schT s,pkT p] [] (vI (js s p)) []:=by
 refine sIr qH2 fun e _ hst=>?_;unfold Ze;refine sW ?_;refine C1.im (WN s hs.2.1 hs.1) rF rF ?_;simp only[tZ,↓uU,simprocAttr,Bj,Aw];refine⟨fun h=>?_,fun h=>?_⟩
 ·rw[js,Aj h];exact .oA [] []
 refine C1.im (zb6 s h p) rF rF ?_;refine sW ?_;exact .oA [] []
def kF (c:Col) (lev v:Int):Int×Int×Bool:=
 if lev=0 then (c.low,c.high,v==0) else if v < -2000000∨v>1000000 then (0,0,false)
 else (max v c.low,min (v+qJ c lev-1) c.high,(qU v (qJ c lev)*qJ c lev==v)&&decide (max v c.low≤min (v+qJ c lev-1) c.high))
theorem jU7 (a b:Int):maxI a b=max a b:=by unfold maxI;split <;> omega
theorem jU8 (a b:Int):minI a b=min a b:=by unfold minI;split <;> omega
def qB2 (s:Sch) (i:Nat) (lev v:Int):Int×Bool:=
 if (qj s i).kind=3 then (if 0<lev∧v=qW then (v,(qj s i).opt) else ((kF (qj s i) lev v).1,(kF (qj s i) lev v).2.2))
 else ((qA s i).find? fun l=>upC (qK s i) l lev==v).elim (0,false) fun l=>(l,true)
set_option maxHeartbeats 4000000
abbrev upN (cs:List Cod) (v x:Nat):Nat:=upF cs v (x+1) x
theorem jm6 {cs:List Cod} {v x:Nat} (h:dep cs x≤v):upN cs v x=x:=zo7 h _
theorem jU9 {cs:List Cod} (hp:qi6 cs) {v:Nat}:∀ x,x<cs.length→v≤dep cs x→dep cs (upN cs v x)=v∧upN cs v x≤x:=by
 intro x
 induction x using Nat.strongRecOn with
 | _ x ih=>
   intro hx hv;by_cases h:dep cs x≤v
   ·rw[jm6 h];exact⟨oM,BZ _⟩
   ·obtain⟨u1,u2,u3,u4⟩:=up_step hp (lev:=v) hx oM;have:=ih (parC cs x).toNat oM oM oM;rw[show upN cs v x=upN cs v (parC cs x).toNat from u4];exact⟨this.1,oM⟩
theorem jH8 {cs:List Cod} (hp:qi6 cs) {o v:Nat} (ho:o≤v):∀ x,x<cs.length→v≤dep cs x→upN cs o (upN cs v x)=upN cs o x:=by
 intro x
 induction x using Nat.strongRecOn with
 | _ x ih=>
   intro hx hv;by_cases h:dep cs x≤v
   ·rw[jm6 h]
   ·obtain⟨u1,u2,u3,u4⟩:=up_step hp (lev:=v) hx oM;obtain⟨_,_,_,u5⟩:=up_step hp (lev:=o) hx oM;rw[show upN cs v x=upN cs v (parC cs x).toNat from u4,show upN cs o x=upN cs o (parC cs x).toNat from u5];exact ih (parC cs x).toNat oM oM oM
theorem jV0 {a w k:Int} (hw:1≤w) (hk:1≤k):qU a (k*w)=qU (qU a w) k:=by
 have hkw:0≤k*w:=Int.mul_nonneg oM oM;unfold qU;rw[DW _ (show 0≤w by omega),DW _ (show 0≤k by omega),DW _ hkw,Int.mul_comm,Int.ediv_ediv_of_nonneg oM]
set_option maxHeartbeats 8000000
theorem jH9 {ws:List Int} (hw:∀ j,j<ws.length→wdOk ws j=true) {i:Nat}:∀ d,i+d<ws.length→∃ k:Int,1≤k∧ws.getD (i+d) 0=k*ws.getD i 0∧(0<d→2≤k)
 | 0,h=>⟨1,oM,sMp,oM⟩
 | d+1,h=>by
   obtain⟨k,k1,k2,_⟩:=jH9 hw d (i:=i) oM;have h1:=hw (i+d+1) oM;rw[wdOk,Aq oM] at h1;simp only[Bq,AZ,AY,Nat.add_sub_cancel] at h1;have hp:=zo9 (ws:=ws) hw (i+d) oM;obtain⟨⟨a1,a2⟩,a3⟩:=h1;have h2:=Int.mul_tdiv_add_tmod (ws.getD (i+d+1) 0) (ws.getD (i+d) 0);rw[a3,Int.add_zero] at h2;generalize (ws.getD (i+d+1) 0).tdiv (ws.getD (i+d) 0)=q at h2;have hq:2≤q:=AQ fun c=>by
    have:ws.getD (i+d) 0*q≤ws.getD (i+d) 0*1:=Int.mul_le_mul_of_nonneg_left oM oM;omega
   have hkq:2*1≤q*k:=Int.mul_le_mul hq k1 oM oM;refine⟨q*k,oM,?_,fun _=>by omega⟩;rw[show i+(d+1)=i+d+1 from rfl,← h2,k2,Int.mul_assoc,Int.mul_comm q k,Int.mul_assoc,Int.mul_comm q]
theorem SchOk.wdv {s:Sch} (h:SchOk s) {i:Nat} (hi:i<s.cols.length) (h0:0<i) (hk:(qj s i).kind≠2) {o lev:Nat} (ho:1≤o∧o<lev) (hl:lev≤(qj s i).widths.length):∃ k:Int,2≤k∧qJ (qj s i) o=k*qJ (qj s i) lev:=by
 have hk2:=zo (h.cs i hi);have hk3:(qj s i).kind=3:=by have:=hk2.2.2.1 h0;omega
 have hm:=hk2.2.2.2.2 hk3;generalize qj s i=c at hl hm hk3 ⊢
 unfold measE at hm;split at hm
 ·cases hm
 rename_i h1;split at hm
 ·cases hm
 rename_i h2;split at hm
 ·cases hm
 rename_i h3;rw[Ez] at h3;have hw:∀ j,j<c.widths.length→wdOk c.widths j=true:=fun j hj=>Bk.1 h3 j (Dk.2 hj);obtain⟨k,_,k2,k3⟩:=jH9 hw (i:=c.widths.length-lev) (lev-o) oM;refine⟨k,k3 oM,?_⟩;rw[qJ,qJ,show ((c.widths.length:Int)-o).toNat=c.widths.length-lev+(lev-o) by omega,show ((c.widths.length:Int)-lev).toNat=c.widths.length-lev by omega];exact k2
theorem zr6 {n:Nat} {p:Nat→Nat→Bool}:qj0 n p=true↔∀ a,a<n→∀ b,b<a→p a b=true:=by
 unfold qj0;simp only[Bk,Dk]
theorem Wp {s:Sch} (h:SchOk s) {i:Nat} (hi:i<s.cols.length) (h2:(qj s i).kind=2) {x:Int}:x∈qA s i↔∃ c:Nat,x=c∧c<(qK s i).codes.length∧(dep (qK s i).codes c:Int)=zA (qK s i)-1:=by
 obtain⟨_,d2⟩:=h.cdl hi h2;unfold qA atL;rw[Aq (by rw[d2];simp),Cj];constructor
 ·rintro ⟨c,hc,rfl⟩;rw[Fz,Dk,AY] at hc;exact⟨c,rfl,hc.1,hc.2⟩
 ·rintro ⟨c,rfl,h1,h3⟩;exact⟨c,Fz.2 ⟨Dk.2 h1,AY.2 h3⟩,rfl⟩
theorem YM {s:Sch} (h:SchOk s) {i:Nat} (hi:i<s.cols.length) (h2:(qj s i).kind=2) {c v:Nat} (hc:c<(qK s i).codes.length) (hd:(dep (qK s i).codes c:Int)=zA (qK s i)-1) (hv:(v:Int)≤finI s i) (hf:finI s i=zA (qK s i)-1):qk s i v c=upN (qK s i).codes v c:=by
 obtain⟨_,d2⟩:=h.cdl hi h2;have hh:qS s i c=true:=by
  rw[qS,Aq oM,Aj h2,Bq,zP,AY,lvlC,Aq (not_or.2 ⟨fun h=>h d2,oM⟩),Ax];exact⟨oM,hd⟩
 rw[qk,Aq (by rw[Ez,zP];omega),Ax,Aj h2,Aq (by rw[hh];simp),upC,Aq (not_or.2 ⟨fun h=>h d2,by rw[Ax];omega⟩),Ax,Ax]
def canF (f:Nat→Int):Nat→List Pk
 | 0=>[]
 | n+1=>canF f n++(if 0<f n then [⟨n,f n⟩] else [])
theorem ZS {f g:Nat→Int}:∀ {n:Nat},(∀ k,k<n→f k=g k)→canF f n=canF g n
 | 0,_=>rfl
 | n+1,h=>by rw[canF,canF,ZS fun k hk=>h k oM,h n oM]
theorem zr7 {f:Nat→Int}:∀ {n:Nat},(∀ k,k<n→f k≤0)→canF f n=[]
 | 0,_=>rfl
 | n+1,h=>by
   have:=h n oM;rw[canF,zr7 fun k hk=>h k oM,Aq oM];rfl
theorem qr1 {f:Nat→Int} {p:Pk}:∀ {n:Nat},p∈canF f n↔∃ k,k<n∧0<f k∧p=⟨k,f k⟩
 | 0=>by simp [canF]
 | n+1=>by
   rw[canF,Dz,qr1];constructor
   ·rintro (⟨k,h1,h2,h3⟩ | h)
    ·exact⟨k,oM,h2,h3⟩
    ·split at h
     ·rename_i h2;exact⟨n,oM,h2,by simpa using h⟩
     ·simp at h
   ·rintro ⟨k,h1,h2,h3⟩;by_cases e:k=n
    ·subst e;right;rw[Aj h2];simpa using h3
    ·exact .inl ⟨k,oM,h2,h3⟩
def upd (f:Nat→Int) (c:Nat) (v:Int):Nat→Int:=fun k=>if k=c then max (f k) v else f k
theorem qR7 {f:Nat→Int} (hf:∀ k,0≤f k) (c:Nat) (v:Int):∀ m,∀ x,(canF f m).foldl (Kb c v) ([],decide (v≤0))=x→
 (m≤c→x.2=decide (v≤0))∧(x.2=true→x.1=canF (upd f c v) m)∧(x.2=false→0<v∧x.1++(if c<m then [⟨c,v⟩] else [])=canF (upd f c v) m)
 | 0,x,h=>by
   subst h;refine⟨fun _=>rfl,fun _=>rfl,fun h=>⟨?_,by rw[Aq oM];rfl⟩⟩;have:=of_decide_eq_false h;omega
 | m+1,x,h=>by
   rw[canF,Gx] at h;obtain⟨i1,i2,i3⟩:=qR7 hf c v m _ rfl;generalize (canF f m).foldl (Kb c v) ([],decide (v≤0))=y at h i1 i2 i3;obtain⟨l,b⟩:=y;dsimp only at i1 i2 i3;have hm:=hf m;by_cases h0:0<f m
   ·rw[Aj h0,Dw,List.foldl_nil] at h;unfold Kb at h;dsimp only at h;rcases Nat.lt_trichotomy m c with q | q | q
    ·rw[Aq oM,Aq oM] at h;subst h;have hu:upd f c v m=f m:=by rw[upd,Aq oM]
     refine⟨fun _=>i1 oM,fun e=>?_,fun e=>⟨(i3 e).1,?_⟩⟩
     ·dsimp only at e ⊢
      rw[i2 e,canF,hu,Aj h0]
     ·dsimp only at e ⊢
      have:=(i3 e).2;rw[Aq oM,CW] at this;rw[Aq oM,CW,this,canF,hu,Aj h0]
    ·subst q;rw[Aj rfl,Aq (show ¬ ((m:Int)>m∧b=false) from fun h=>by omega)] at h;subst h;have hu:upd f m v m=max (f m) v:=by rw[upd,Aj rfl]
     refine⟨fun e=>by omega,fun _=>?_,fun e=>by simp at e⟩;dsimp only;have:l=canF (upd f m v) m:=by
      cases b with
      | true=>exact i2 rfl
      | false=>
        have:=(i3 rfl).2;rw[Aq oM,CW] at this;exact this
     rw[this,canF,hu,Aj oM]
    ·have hu:upd f c v m=f m:=by rw[upd,Aq oM]
     have hc:((m:Int)>(c:Int)):=by omega
     cases b with
     | true=>
       rw[Aq (show ¬ ((m:Int)=c) by omega),Aq (show ¬ ((m:Int)>c∧true=false) from fun h=>by simp at h)] at h;subst h;refine⟨fun e=>by omega,fun _=>?_,fun e=>by simp at e⟩;dsimp only;rw[i2 rfl,canF,hu,Aj h0]
     | false=>
       rw[Aq (show ¬ ((m:Int)=c) by omega),Aj ⟨hc,rfl⟩] at h;subst h;refine⟨fun e=>by omega,fun _=>?_,fun e=>by simp at e⟩;dsimp only;have:=(i3 rfl).2;rw[Aj q] at this;rw[this,canF,hu,Aj h0]
   ·rw[Aq h0,List.foldl_nil] at h;subst h;dsimp only;have f0:f m=0:=by omega
    by_cases q:m=c
    ·subst q;have hu:upd f m v m=max 0 v:=by rw[upd,Aj rfl,f0]
     refine⟨fun e=>by omega,fun e=>?_,fun e=>⟨(i3 e).1,?_⟩⟩
     ·have hv:v≤0:=by
       have:=i1 (BZ _);rw[e] at this;exact of_decide_eq_true this.symm
      rw[i2 e,canF,hu,Aq oM,CW]
     ·have:=(i3 e).2;rw[Aq oM,CW] at this;have hv:=(i3 e).1;rw[this,canF,hu,Aj oM,Aj oM,show max 0 v=v by omega]
    ·have hu:upd f c v m=f m:=by rw[upd,Aq q]
     refine⟨fun e=>i1 oM,fun e=>?_,fun e=>⟨(i3 e).1,?_⟩⟩
     ·rw[i2 e,canF,hu,Aq h0,CW]
     ·have:=(i3 e).2;rw[canF,hu,Aq h0,CW,← this];by_cases q2:c<m
      ·rw[Aj q2,Aj oM]
      ·rw[Aq q2,Aq oM]
theorem zS5 {f:Nat→Int} (hf:∀ k,0≤f k) {c n:Nat} (hc:c<n) (v:Int):jz (canF f n) c v=canF (upd f c v) n:=by
 obtain⟨_,i2,i3⟩:=qR7 hf c v n _ rfl;unfold jz;dsimp only;split
 ·rename_i h;exact i2 h
 ·rename_i h;have:=(i3 (by simpa using h)).2;rw[Aj hc] at this;exact this
theorem wb (p:Pk→Bool) (f:FuncId) (caps:List T) (hcap:imL caps=true) (l:List Pk) (hf:∀ y∈l,Sp f (pkT y::caps) [] (vB (p y)) []) (hl:l.length<4611686018427387904) :
 Sp 51 [.sl 2 (l.map pkT),.clo f caps] [] (vI (idxI p l)) []:=by
 refine sIr ZI fun e _ hst=>?_;unfold ji;refine sW ?_;refine qt mixm (α:=Nat) [8] (fun i=>i≤l.length∧((l.take i).any p=false)) (fun i=>[(8,vI i)]) (fun i=>[]) (fun i=>l.length-i) 0 ⟨oM,?_⟩ ?_ fun i hi=>?_
 ·simp
 ·exact .oA [] []
 simp only[tZ,↓uU,simprocAttr,AZ,Ay];refine⟨fun h=>?_,fun h=>?_⟩
 ·have hi2:i<l.length:=by omega
  have hwi:=qh (i:=i) oM;simp only[tZ,↓uU,simprocAttr,Ax,qd hi2,hwi,Kr];refine⟨oM,?_⟩;refine C1.im (hf l[i] (AX hi2)) (Kv rfl hcap) rfl ?_;refine sW ?_;refine⟨fun h3=>?_,fun h3=>⟨i+1,⟨oM,zV hi2 hi.2 h3⟩,oM,?_⟩⟩
  ·rw[idxI,Aj (ql9 hi2 h3),jI hi2 hi.2 h3];exact .imR rfl rfl
  ·exact .oA [] []
 ·have h2:i=l.length:=by omega
  have h3:=hi.2;rw[h2,Bw] at h3;rw[idxI,Aq (by rw[h3];simp)];exact .imR rfl rfl
theorem QE (p:Pk→Bool) (f:FuncId) (caps:List T) (hcap:imL caps=true) (l:List Pk) (hf:∀ y∈l,Sp f (pkT y::caps) [] (vB (p y)) []) (hl:l.length<4611686018427387904) :
 Sp 99 [.sl 2 (l.map pkT),.clo f caps] [] (vB (l.any p)) []:=by
 refine sIr Qe fun e _ hst=>?_;unfold zS;refine sW ?_;refine C1.im (wb p f caps hcap l hf hl) (qq7 rfl hcap) rfl ?_;refine sW ?_;rw[show decide (idxI p l≥0)=l.any p from qU3 p l];exact .imR rfl rfl
def usB (q:Qst) (k:Int):Bool:=decide (k>0)&&zz5 q k
def cnsL (q:Qst):List Cnd:=if q.kind=3 then [q.filt,q.event] else [q.filt]
def jZ0 (s:Sch) (q:Qst) (k a b:Int):Bool:=(usB q k&&(a != b))||(q.dims.any fun d=>(d.col==k)&&(qk s k d.lev a != qk s k d.lev b))||((cnsL q).any fun c=>(atsC c).any fun x=>(x.col==k)&&(Qq s x a != Qq s x b))
def mxl:List Pk→Int→Int
 | [],_=>0
 | p::r,k=>if p.col=k then max p.lev (mxl r k) else mxl r k
theorem ZD:∀ (l:List Pk) (k:Int),0≤mxl l k
 | [],_=>Int.le_refl _
 | p::r,k=>by
   have:=ZD r k;rw[mxl];split <;> omega
theorem zb8:∀ (a b:List Pk) (k:Int),mxl (a++b) k=max (mxl a k) (mxl b k)
 | [],b,k=>by
   have:=ZD b k;rw[Cy,mxl];omega
 | p::r,b,k=>by
   have:=zb8 r b k;rw[BW,mxl,mxl,this];split <;> omega
theorem jz3 (l:List Pk) (p:Pk) (k:Int):mxl (l++[p]) k=if p.col=k then max (mxl l k) p.lev else mxl l k:=by
 have:=ZD l k;rw[zb8,mxl,mxl];split <;> omega
theorem QJ:∀ {l:List Pk} {k:Int},(∀ p∈l,p.col≠k)→mxl l k=0
 | [],_,_=>rfl
 | p::r,k,h=>by
   rw[mxl,Aq (h p sMp),QJ fun x hx=>h x (CQ _ hx)]
theorem zM3 {f:Nat→Int} (hf:∀ k,0≤f k):∀ {n:Nat} (k:Nat),mxl (canF f n) k=if k<n then f k else 0
 | 0,k=>by rw[Aq oM];rfl
 | n+1,k=>by
   have ih:=zM3 hf (n:=n) k;have hk:=hf k;have hn:=hf n;rw[canF,zb8,ih];by_cases e:n=k
   ·subst e;rw[Aq (show ¬ n<n by omega),Aj (show n<n+1 by omega)];split
    ·have:mxl [(⟨(n:Nat),f n⟩:Pk)] n=max (f n) 0:=by rw[mxl,Aj rfl];rfl
     rw[this];omega
    ·rw[mxl];omega
   ·have h0:mxl (if 0<f n then [(⟨n,f n⟩:Pk)] else []) k=0:=QJ fun p hp=>by
     split at hp
     ·rw[Ey.1 hp];dsimp only;omega
     ·simp at hp
    rw[h0];by_cases h:k<n
    ·rw[Aj h,Aj oM];omega
    ·rw[Aq h,Aq oM];omega
theorem qj8 {n:Nat}:∀ (l:List Pk) {f:Nat→Int},(∀ k,0≤f k)→(∀ p∈l,0≤p.col∧p.col<n)→Qr (canF f n) l=canF (fun k=>max (f k) (mxl l k)) n
 | [],f,hf,_=>by
   show canF f n=_;exact ZS fun k _=>by have:=hf k;rw[mxl];omega
 | p::r,f,hf,h=>by
   obtain⟨h1,h2⟩:=h p sMp;obtain⟨c,hc⟩:=AJ h1;have e:Qr (canF f n) (p::r)=Qr (jz (canF f n) p.col p.lev) r:=rfl;rw[e,hc,zS5 hf oM,qj8 r (fun k=>by have:=hf k;unfold upd;split <;> omega) fun x hx=>h x (CQ _ hx)];refine ZS fun k _=>?_;have:=hf k;have h3:=ZD r k;unfold upd;rw[mxl,hc];by_cases e:k=c
   ·subst e;rw[Aj rfl,Aj rfl];omega
   ·rw[Aq e,Aq oM]
theorem zS6 (n:Nat):canF (fun _=>0) n=[]:=zr7 fun _ _=>Int.le_refl _
theorem jm7 {n:Nat} {l:List Pk} (h:∀ p∈l,0≤p.col∧p.col<n):Qr [] l=canF (fun k=>mxl l k) n:=by
 rw[← zS6 n,qj8 l (fun _=>Int.le_refl _) h];exact ZS fun k _=>by have:=ZD l k;omega
theorem qB3 (a l m:List Pk):Qr a (l++m)=Qr (Qr a l) m:=Gx
theorem zr8 {α:Type} (f:α→Pk) (m:List α):∀ l,Qr l (m.map f)=m.foldl (fun l x=>jz l (f x).col (f x).lev) l:=by
 induction m with
 | nil=>intro l;rfl
 | cons x r ih=>intro l;exact ih _
def atP (s:Sch) (c:Cnd):List Pk:=(atsC c).map fun a=>⟨a.col,decN s a⟩
theorem zA2 {s:Sch} {c:Cnd} (h:chkC s c=0):zu s c=Qr [] (atP s c):=by
 rw[zu,Aq (by rw[h];simp),atP,zr8]
theorem Wq {s:Sch} {c:Cnd} (h:chkC s c=0):zu s c=canF (fun k=>mxl (atP s c) k) s.cols.length∧∀ p∈atP s c,1≤p.col∧p.col<s.cols.length:=by
 obtain⟨hE,k2,k3,k4⟩:=YG h;have hb:∀ p∈atP s c,1≤p.col∧p.col<s.cols.length:=fun p hp=>by
  obtain⟨a,ha,rfl⟩:=Cj.1 hp;obtain⟨hnd,hia⟩:=zK9 c k4 a ha;obtain⟨n1,n2,n3⟩:=KR hE hnd hia;obtain⟨_,c1,c2,_⟩:=kz (s:=s) (c:=a.col) oM;exact⟨c1,c2⟩
 refine⟨?_,hb⟩;rw[zA2 h];exact jm7 fun p hp=>by have:=hb p hp;omega
theorem zM4 {s:Sch} {c:Cnd} (h:chkC s c=0):∀ p∈zu s c,1≤p.col∧p.col<s.cols.length:=fun p hp=>by
 obtain⟨h1,h2⟩:=Wq h;rw[h1,qr1] at hp;obtain⟨k,k1,k2,rfl⟩:=hp;refine⟨?_,by dsimp only;omega⟩;dsimp only;by_cases e:k=0
 ·subst e;rw[QJ fun q hq=>by have:=h2 q hq;omega] at k2;omega
 ·omega
theorem zr9 {s:Sch} {c:Cnd} (h:chkC s c=0) (k:Nat):mxl (zu s c) k=mxl (atP s c) k:=by
 obtain⟨h1,h2⟩:=Wq h;rw[h1,zM3 fun k=>ZD _ _];split
 ·rfl
 ·exact (QJ fun q hq=>by have:=h2 q hq;omega).symm
def dmP (s:Sch) (q:Qst):List Pk:=q.dims.map fun d=>⟨d.col,zO s d.col d.lev⟩
def usP (s:Sch) (q:Qst) (n:Nat):List Pk:=((List.range n).filter fun k:Nat=>usB q k).map fun k:Nat=>⟨k,zO s k (finI s k)⟩
theorem zM5 (s:Sch) (q:Qst) (n:Nat):usP s q (n+1)=usP s q n++if usB q n=true then [⟨n,zO s n (finI s n)⟩] else []:=by
 rw[usP,List.range_succ,FY,By,← usP]
 congr 1
 by_cases h:usB q n=true
 ·rw[Aj h,List.filter_cons_of_pos (p:=fun k:Nat=>usB q k) h];rfl
 ·rw[Aq h,List.filter_cons_of_neg (p:=fun k:Nat=>usB q k) h];rfl
theorem zM6 (s:Sch) (q:Qst) (l:List Pk):∀ n:Nat,(List.range n).foldl (jZ s q) l=Qr l (usP s q (n+1))
 | 0=>by
   show l=_;have h0:usB q (0:Nat)=false:=by simp [usB]
   rw[zM5,h0,Aq sMp];rfl
 | n+1=>by
   rw[List.range_succ,Gx,zM6 s q l n,zM5 _ _ (n+1),qB3];show jZ s q _ n=_;have h:usB q ((n+1:Nat):Int)=zz5 q ((n:Int)+1):=by
    unfold usB;rw[Cx oM,Fq];rfl
   rw[jZ,h];split <;> rfl
def evP (s:Sch) (q:Qst):List Pk:=if q.kind=3 then zu s q.event else []
theorem zA3 {s:Sch} {q:Qst} (h:qstE s q=0):YF s q=Qr (zu s q.filt) (evP s q++dmP s q++usP s q s.cols.length):=by
 have hq:=qj3 h;have hnc:=(qO hq.sch).nc;rw[YF,Aq (by rw[h];simp),jl2,zM6,show s.cols.length-1+1=s.cols.length by omega,qB3,qB3,dmP,zr8,evP]
 congr 2
 split <;> rfl
theorem zs0 {s:Sch} {q:Qst} (hq:QstOk s q):∀ d∈q.dims,js s d=0∧isB s d.col 2=true:=fun d hd=>by
 by_cases h1:q.kind=1
 ·have h2:=(hq.dims h1).1;unfold wB at h2;split at h2
  ·cases h2
  obtain⟨i,hi,rfl⟩:=CX hd;have h3:=yI h2 i hi;have hp:pkAt q.dims i=q.dims[i]:=by rw[pkAt,qg hi]
  unfold dimE at h3;rw[hp] at h3;split at h3
  ·rename_i h4;exact absurd h3 h4
  rename_i h4;split at h3
  ·cases h3
  rename_i h5;exact⟨AQ h4,by simpa using h5⟩
 ·rw[hq.d0 h1] at hd;simp at hd
theorem jI0 {s:Sch} {q:Qst} (hq:QstOk s q):∀ c∈cnsL q,chkC s c=0:=fun c hc=>by
 unfold cnsL at hc;split at hc
 ·rename_i h;rcases Ck.1 hc with e | hc
  ·rw[e];exact hq.filt
  ·rw[Ey.1 hc];exact (hq.event h).2.2
 ·rw[Ey.1 hc];exact hq.filt
theorem jm8 {s:Sch} {q:Qst} {n:Nat} {p:Pk}:p∈usP s q n↔∃ k:Nat,k<n∧usB q k=true∧p=⟨k,zO s k (finI s k)⟩:=by
 unfold usP;simp only[Cj,Fz,Dk];constructor
 ·rintro ⟨k,⟨h1,h2⟩,rfl⟩;exact⟨k,h1,h2,rfl⟩
 ·rintro ⟨k,h1,h2,rfl⟩;exact⟨k,⟨h1,h2⟩,rfl⟩
def qL5 (s:Sch) (q:Qst):List Pk:=dmP s q++usP s q s.cols.length++(cnsL q).flatMap (zu s)
theorem zM7 {s:Sch} {q:Qst} (hq:QstOk s q):∀ p∈qL5 s q,1≤p.col∧p.col<s.cols.length:=fun p hp=>by
 unfold qL5 at hp;rcases Dz.1 hp with hp | hp
 ·rcases Dz.1 hp with hp | hp
  ·obtain⟨d,hd,rfl⟩:=Cj.1 hp;obtain⟨_,h1,h2,_⟩:=zW (zs0 hq d hd).1;exact⟨h1,h2⟩
  ·obtain⟨k,h1,h2,rfl⟩:=jm8.1 hp;unfold usB at h2;rw[Bq,AZ] at h2;exact⟨by dsimp only;omega,by dsimp only;omega⟩
 ·obtain⟨c,hc,hp⟩:=Ek.1 hp;exact zM4 (jI0 hq c hc) p hp
theorem zS7 {s:Sch} {q:Qst} (h:qstE s q=0):YF s q=canF (fun k=>mxl (qL5 s q) k) s.cols.length:=by
 have hq:=qj3 h;have hb:=zM7 hq;obtain⟨n1,n2⟩:=Wq hq.filt;rw[zA3 h,n1,qj8 _ (fun k=>ZD _ _) fun p hp=>?_]
 ·refine ZS fun k _=>?_;rw[← zr9 hq.filt k];have e:(cnsL q).flatMap (zu s)=zu s q.filt++evP s q:=by
   unfold cnsL evP;split <;> simp
  rw[qL5,e];simp only[zb8];omega
 ·have:p∈qL5 s q:=by
   unfold qL5;have e:(cnsL q).flatMap (zu s)=zu s q.filt++evP s q:=by
    unfold cnsL evP;split <;> simp
   rw[e];simp only[Dz] at hp ⊢
   rcases hp with (h | h) | h
   ·exact .inr (.inr h)
   ·exact .inl (.inl h)
   ·exact .inl (.inr h)
  have:=hb p this;omega
theorem jm9 {s:Sch} {l:List Pk} (hE:schE s=0) (h1:∀ p∈l,js s p=0) (h2:l.Pairwise fun a b=>a.col<b.col):jH s l=0:=by
 rw[jH,Aq (by rw[hE];simp)];refine wO fun i hi=>?_;have hp:pkAt l i=l[i]:=by rw[pkAt,qg hi]
 rw[qz7,hp,Aq (by rw[h1 _ (AX hi)];simp),Aq];rintro ⟨h3,h4⟩;rw[pkAt,qg oM] at h4;have:=DX.1 h2 (i-1) i oM hi oM;omega
theorem CndOk.mono {s:Sch} {n m:Nat} {c:Cnd} (h:CndOk s n c) (hn:n≤m):CndOk s m c:=by
 have h1:=h.dep;have h2:=h.siz;have h3:2 ^ (n+1)≤2 ^ (m+1):=Nat.pow_le_pow_right oM oM;exact⟨h.ok,oM,oM⟩
end Go.Proofs
