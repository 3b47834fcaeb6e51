/- A part of the proof: trees of Go values, short forms, contracts. -/
import Derived.Test.YtnfagfikoblhfaaGreatDoorK17
set_option linter.unusedSimpArgs false
set_option linter.unusedVariables false
namespace Go.Proofs
open Go Go.TL
set_option maxRecDepth 4000
set_option maxHeartbeats 8000000
theorem qK8 (s:Sch) (kind:Int):(Ka s kind).Nodup:=by
 unfold Ka Wr;show List.Pairwise (·≠·) _;rw[List.pairwise_map];exact ((List.nodup_range).filter _).imp fun h e=>h oM
theorem DrS.code2 {s:Sch} (h:DrS s):(Ka s 2).length≤2:=by
 obtain⟨ms,hc,h1,h3⟩:=h.cs;have key:∀ (pre:List Col) (n:Nat),s.cols=pre++ms→(∀ j (hj:j<ms.length),DrM (n+j) ms[j])→(Ka s 2).length=(Wr s 2 pre.length).length:=by
  intro pre n he hm;unfold Ka;have k2:∀ m,pre.length+m≤s.cols.length→(Wr s 2 (pre.length+m)).length=(Wr s 2 pre.length).length:=by
   intro m
   induction m with
   | zero=>intro _;rfl
   | succ m ih=>
     intro hle;have hl:m<ms.length:=by rw[he,AW] at hle;omega
     have hk:(qg s (pre.length+m)).kind=3:=by
      rw[qg,he,CY,BJ oM,Nat.add_sub_cancel_left,CK hl];exact (hm m hl).kind
     rw[← Nat.add_assoc,jW,Aq (by rw[hk];decide),CW];exact ih oM
  have:=k2 ms.length (by rw[he,AW];omega);rw[← AW,← he] at this;exact this
 rcases hc with⟨hc,hm⟩ | ⟨hc,hm⟩
 ·rw[key [whoC,sexC] 2 (by rw[hc];rfl) hm];have:=jW s 2 1;have h0:=jW s 2 0;have e0:(qg s 0).kind=1:=by rw[qg,hc];rfl
  rw[e0] at h0;show (Wr s 2 (1+1)).length≤2;have:=qo7 s 2 2;omega
 ·rw[key [whoC,sexC,jobC] 3 (by rw[hc];rfl) hm];have h2:=jW s 2 2;have h1:=jW s 2 1;have h0:=jW s 2 0;have e0:(qg s 0).kind=1:=by rw[qg,hc];rfl
  have e1:(qg s 1).kind=2:=by rw[qg,hc];rfl
  have e2:(qg s 2).kind=2:=by rw[qg,hc];rfl
  rw[e0,Aq (by decide)] at h0;rw[e1,Aj rfl] at h1;rw[e2,Aj rfl] at h2;show (Wr s 2 (2+1)).length≤2;rw[h2,h1,h0];simp [Wr]
structure DimOk (s:Sch) (L:List Int) (l:List Pk):Prop where
 cols:l.map (·.col)=L
 pick:∀ p∈l,Qq s p=0
theorem DimOk.dims {s:Sch} {L:List Int} {l:List Pk} (h:DimOk s L l) (h1:1≤L.length) (h2:L.length≤3) (hn:L.Nodup) (hc:∀ v∈L,isB s v 2=true):ZS s l=0:=by
 have hl:l.length=L.length:=by rw[← h.cols,BY]
 rw[ZS,Aq oM];refine YM fun i hi=>?_;have hpi:pkAt l i=l[i]:=by rw[pkAt,qk hi]
 have hm:l[i]∈l:=AX hi;rw[dimE,hpi,Aq (by rw[h.pick _ hm];simp),Aq (by rw[hc _ (by rw[← h.cols];exact List.mem_map_of_mem hm)];simp),Aq];intro k;obtain⟨x,hx,e⟩:=DJ.1 k;obtain⟨j,hj,rfl⟩:=List.mem_take_iff_getElem.1 hx;rw[← h.cols] at hn;have:=DX.1 hn j i (by simp;omega) (by simp;omega) oM;simp only[Fk] at this;exact this (AY.1 e)
theorem je0 {s:Sch} (hE:schE s=0) {v:Nat} (h:isB s v 2=true∨isB s v 3=true):1≤v∧v<s.cols.length∧0≤finI s v∧finI s v≤59:=by
 have hok:=zc hE;have hb:∃ k,2≤k∧isB s v k=true:=by rcases h with h | h <;> exact⟨_,oM,h⟩
 obtain⟨k,hk,hb⟩:=hb;obtain⟨_,b2,b3⟩:=zF.1 hb;rw[Ax] at b3;have hv:v≠0:=fun e=>by subst e;have:=hok.c0;omega
 refine⟨oM,oM,?_,YN hE⟩;rw[finI,Aq oM,Ax];split
 ·rename_i h2;have:=zG8 (hok.cdl oM h2).2;omega
 ·omega
theorem kN (s:Sch) (hd:DrS s) (l:List UInt8) (a:Nat) (hl:l.length≤400) (ha:a≤l.length) :
 ∃ r:List Pk×Nat,(ZS s r.1=0∧r.2≤l.length)∧Sp 120 [.ptr 0 1 0 0,schT s] [(0,oC l a)] (vPs r.1) [(0,oC l r.2)]:=by
 have hE:=hd.ok;have hok:=zc hE;have hnc:=hok.nc;have hc:=Qk s 2 oM;have hm:=fun v=>(ZV (s:=s) (kind:=2) (v:=v)).1;have hnd:=qK8 s 2;have hc2:=hd.code2;obtain⟨k1,k2⟩:=hd.code;generalize Ka s 2=L at hc hm hnd hc2 k1 k2;obtain⟨o,a1,ha1,sO⟩:=jn8 l a 2 hl ha oM;obtain⟨j,a2,j1,j2,ha2,sN⟩:=Qs l a1 L.length hl ha1 oM;obtain⟨m,rfl⟩:=AJ j1;refine jJ ql6 mixm (fun r:List Pk×Nat=>vPs r.1) (fun r=>[(0,oC l r.2)]) sMp ?_;unfold yc;refine sW ?_;refine XE.mp (fun _ _=>C1.im hc rF rF) ?_;refine sW ?_;refine XE.mp (fun _ _=>C1.draw 0 l a _ sO rfl rfl rfl) ?_;refine sW ?_;refine XE.brB (fun ho=>?_) (fun ho=>?_)
 focus
  refine XE.mp (fun _ _=>C1.draw 0 l a1 _ sN rfl rfl rfl) ?_;simp only[tZ,↓un_u,simprocAttr,Yq,jl5];have hmd:∀ v∈L.drop m,isB s v 2=true:=fun v hv=>hm v (EY hv);have hnd2:(L.drop m).Nodup:=hnd.sublist (List.drop_sublist m L);have hl2:1≤(L.drop m).length∧(L.drop m).length≤2:=by rw[List.length_drop];omega
  generalize L.drop m=M at hmd hnd2 hl2 ⊢
  obtain⟨b,hb⟩:∃ b,b=a2:=⟨_,rfl⟩;rw[← hb];have hb:b≤l.length:=by omega
  refine XE.sd oM ?_
 rotate_left
 focus
  have hmd:=hm;have hnd2:=hnd;have hl2:1≤L.length∧L.length≤2:=by omega
  obtain⟨M,hM⟩:∃ M,M=L:=⟨_,rfl⟩;rw[← hM] at hmd hnd2 hl2 ⊢
  obtain⟨b,hb⟩:∃ b,b=a1:=⟨_,rfl⟩;rw[← hb];have hb:b≤l.length:=by omega
 all_goals (
  refine XE.loopF mixm [5,20] (fun y:List Pk×Nat=>y.1.length≤M.length∧DimOk s (M.take y.1.length) y.1∧y.2≤l.length) (fun y=>[(5,.asl 1 y.1.length),(20,vI y.1.length)]) (fun y=>[(0,oC l y.2),aR 4096 2 [schT s],aR 1 2 (y.1.map pkT)]) (fun y=>M.length-y.1.length) ([],b) ⟨sMp,⟨rfl,sMp⟩,hb⟩ (fun e ⟨_,hst⟩=>?_) fun T' y hy ih=>?_
  ·exact .oA [uI 0,uI 4096,(1,none)] []
  obtain⟨ps,a4⟩:=y;obtain⟨y1,y2,y3⟩:=hy;dsimp only at y1 y2 y3;simp only[tZ,↓un_u,simprocAttr,AZ,Ay];refine XE.brN (fun h4=>?_) (fun h4=>?_)
  ·have hi2:ps.length<M.length:=by omega
   have hwi:=qh (i:=ps.length) oM;have hiB:=hmd _ (AX hi2);have htk:=qZ hi2;obtain⟨v,hv⟩:=AJ (zF.1 hiB).1;have hgv:(M.map vI).getD ps.length .junk=vI v:=by rw[qd hi2,hv]
   rw[hv] at hiB htk;obtain⟨f1,f2,f3,f4⟩:=je0 hE (.inl hiB);have hFin:=JW s hok.sm v;obtain⟨w,a5,w1,w2,hw,sQ⟩:=Qs l a4 (finI s v+1) hl y3 oM;have hwf:IntKind.i64.wrap (finI s v+1)=finI s v+1:=AK _ oM;simp only[tZ,↓un_u,simprocAttr,Ax,hgv];refine XE.sd oM (XE.sd oM ?_);refine XE.mp (fun _ _=>C1.im hFin rF rF) ?_;simp only[tZ,↓un_u,simprocAttr,hwf];refine XE.mp (fun _ _=>C1.draw 0 l a4 _ sQ rfl rfl rfl) ?_;simp only[tZ,↓un_u,simprocAttr,hwi];refine XE.sd oM (XE.sd kR ?_);refine XE.next ih (ps++[⟨v,w⟩],a5) ⟨by simp;omega,⟨?_,fun p hp=>?_⟩,hw⟩ (by simp;omega) fun e ⟨_,hst⟩=>?_
   ·dsimp only;rw[AW,By,y2.cols];exact htk.symm
   ·rcases Dz.1 hp with hp | hp
    ·exact y2.pick p hp
    ·rw[EZ.1 hp,Qq,Aq (by rw[hE];simp),Aq (by dsimp only;omega),Aq];rw[Ez,Qr];dsimp only;omega
   ·exact .oA (U3 0 4096 1) []
  ·have hil:ps.length=M.length:=by omega
   rw[hil,Bw] at y2;refine XE.fin (ps,a4) ⟨y2.dims hl2.1 oM hnd2 hmd,y3⟩ fun e ⟨_,hst⟩=>?_;exact .oA (U1 0) [1]
  )
theorem wK (s:ByteArray):Sp 100 [vS s] [] (vB (ju s)) []:=by
 refine sIr qZ3 fun e _ hst=>?_;unfold KV;refine sW ?_;refine⟨fun h=>?_,fun h=>?_,fun h=>?_,fun h=>?_⟩
 ·simp at h;omega
 ·simp at h;omega
 ·have:ju s=false:=by unfold ju zw0;rw[h];rfl
  rw[this];exact .oA [] []
 have hd:zw0 s=false:=h;have hs16:s.data.toList.length≤16:=by
  unfold zw0 at hd;simp only[FQ,Ay] at hd;have:s.size=s.data.toList.length:=by rw[Array.length_toList];rfl
  omega
 refine qy mixm (α:=Nat) [26] (fun i=>i≤s.data.toList.length∧((s.data.toList.take i).any qJ2=false)) (fun i=>[(26,vI i)]) (fun i=>[]) (fun i=>s.data.toList.length-i) 0 ⟨oM,?_⟩ ?_ fun i hi=>?_
 ·rfl
 ·exact .oA [] []
 refine sD ?_;refine⟨fun h5=>?_,fun h5=>?_⟩
 ·have hi2:i<s.data.toList.length:=by omega
  have hwi:=qh (i:=i) oM;simp only[tZ,↓un_u,simprocAttr,Ax,qd hi2,hwi,yG];refine⟨oM,fun h6=>?_,fun h6=>?_⟩
  ·have hb:qJ2 s.data.toList[i]=true:=h6;have:ju s=false:=by
    unfold ju;rw[show s.data.toList.any qJ2=true from DJ.2 ⟨_,AX hi2,hb⟩];simp
   rw[this];exact .oA [] []
  ·have hb:qJ2 s.data.toList[i]=false:=h6;refine⟨i+1,⟨oM,zR hi2 hi.2 hb⟩,oM,?_⟩;exact .oA [] []
 ·have h3:=hi.2;have:i=s.data.toList.length:=by omega
  rw[this,Bw] at h3;have hn:ju s=!(resW.contains s.toList):=by unfold ju;rw[hd,h3];rfl
  rw[hn];simp only[resW,List.contains_cons,List.contains_nil]
  repeat' (first | with_reducible apply Az | with_reducible intro _)
  all_goals first
   | (exfalso;simp_all;done)
   | (simp only[*,Bool.true_or,Bool.or_true,Bool.false_or,Bool.or_false,Bool.not_true,Bool.not_false];exact .imR rfl rfl)
def depL (cs:List Cod):List Int:=(List.range cs.length).map fun i=>(dep cs i:Int)
def depO (cs:List Cod) (i:Nat):List Int:=((List.range i).map fun i=>(dep cs i:Int))++List.replicate (cs.length-i) 0
theorem qa8 (cs:List Cod):(depL cs).length=cs.length:=by simp [depL]
theorem jn9 {cs:List Cod} {i:Nat} (h:i≤cs.length):(depO cs i).length=cs.length:=by simp [depO];omega
theorem je1 (cs:List Cod):depO cs 0=List.replicate cs.length 0:=by simp [depO]
theorem jo0 (cs:List Cod):depO cs cs.length=depL cs:=by simp [depO,depL]
theorem jo1 {cs:List Cod} {i:Nat} (h:i<cs.length) (v:Int) (hv:v=dep cs i):(depO cs i).set i v=depO cs (i+1):=by
 unfold depO;rw[List.set_append_right _ _ sMp,BY,List.length_range,Nat.sub_self,show cs.length-i=(cs.length-(i+1))+1 by omega,List.replicate_succ,List.set_cons_zero,List.range_succ,By,Dj,hv]
 rfl
theorem je2 {cs:List Cod} {i:Nat} (h:i<cs.length) (h0:dep cs i=0):depO cs i=depO cs (i+1):=by
 unfold depO;rw[show cs.length-i=(cs.length-(i+1))+1 by omega,List.replicate_succ,List.range_succ,By,Dj,List.map_cons,h0]
 rfl
theorem jC4 {cs:List Cod} {i k:Nat} (h:k<i) (hi:i≤cs.length):(depO cs i).getD k 0=dep cs k:=by
 unfold depO;rw[CY,BK (by simp;omega),DY,List.getElem?_range oM]
 rfl
theorem jw8 (n:Nat):List.replicate n (T.v (Value.int IntKind.i64 0))=(List.replicate n (0:Int)).map vI:=by simp
structure ParR (cs:List Cod):Prop where
 ok:qA4 cs
 kid:∀ i,0<i→i<cs.length→0≤parC cs i
 root:parC cs 0<0∨cs.length=0
 len:cs.length≤60
theorem wm (l:CodL) (h:ParR l.codes):Sp 217 [cdlT l] [] (vIs (depL l.codes)) []:=by
 have hl:=h.len;refine sIr qI9 fun e _ hst=>?_;unfold ZL;refine sW ?_;refine⟨oM,?_⟩;refine qy mixm (α:=Nat) [13] (fun i=>i≤l.codes.length) (fun i=>[(13,vI i)]) (fun i=>[aR 4096 2 [cdlT l],aR 8204 1 ((depO l.codes i).map vI)]) (fun i=>l.codes.length-i) 0 oM ?_ fun i hi=>?_
 ·rw[je1];refine .of (U2 4096 8204) [] rfl (by first | rfl | (rw[hst];rfl)) ?_ ?_
  all_goals (try simp only[tL,simprocAttr,By,List.map_cons,List.map_nil,BW,Cy,Ax,jw8])
  all_goals (try (repeat' (first | exact qY | (apply zf;intro _;exact⟨rfl,rfl⟩) | (apply qj;intro _;exact⟨rfl,rfl⟩) | with_reducible apply qS | with_reducible refine qz ⟨rfl,rfl⟩ ?_ | exact qK | with_reducible apply qR | with_reducible refine qT ⟨rfl,rfl,?_⟩ ?_ | with_reducible apply Az | exact qO rfl | exact qO (by assumption) | (refine⟨⟨?_,rfl,?_,rfl,?_⟩,trivial⟩ <;> first | (simp;done) | (apply qj;intro _;exact⟨rfl,rfl⟩)) | trivial | rfl | (rw[qh oM]) | omega)))
 have hol:=jn9 (cs:=l.codes) hi;refine sD ?_;refine⟨fun h2=>?_,fun h2=>?_⟩
 ·have hi2:i<l.codes.length:=by omega
  have hwi:=qh (i:=i) oM;have hp:=h.ok i hi2;have hat:cdAt l.codes i=l.codes[i]:=by rw[cdAt,qk hi2]
  have hpar:l.codes[i].par=parC l.codes i:=by rw[parC,hat]
  simp only[tZ,↓un_u,simprocAttr,Ax,qd hi2,hpar,gt_iff_lt,tD];refine⟨oM,fun h4=>?_,fun h4=>?_⟩
  ·have hk:=h.kid i oM hi2;have hdk:=qu0 h.ok hi2 hk;obtain⟨q,hq⟩:=AJ hk;have hqi:q<i:=by omega
   have hq3:q<(depO l.codes i).length:=by omega
   have hq4:(depO l.codes i)[q]=dep l.codes q:=by
    have:=jC4 (cs:=l.codes) hqi hi;rw[qk hq3] at this;exact this
   have hdl:=qx1 h.ok q oM;have hwd:=qh (i:=dep l.codes q) oM;rw[hq,Ax] at hdk;have hi3:i<(depO l.codes i).length:=by omega
   have hset:=jo1 hi2 ((dep l.codes q+1:Nat):Int) (by rw[hdk]);simp only[tZ,↓un_u,simprocAttr,hq,Ax,qd hq3,qd hi3,hq4,hwd,hwi,show ∀ a b:Int,repl (vI a) 0 (vI b)=vI b from fun _ _=>rfl];refine⟨oM,oM,oM,oM,i+1,oM,oM,?_⟩;rw[← List.map_set,hset];exact .oA (U2 4096 8204) []
  ·have hz:i=0:=by omega
   subst hz;have hr:=h.root.resolve_right oM;have hn:=je2 hi2 (qn6 hr);simp only[tZ,↓un_u,simprocAttr,hwi];refine⟨1,oM,oM,?_⟩;rw[← hn];exact .oA (U2 4096 8204) []
 ·have hil:i=l.codes.length:=by omega
  subst hil;rw[jo0,Ax];have hdl:=qa8 l.codes;exact .oA [] [8204]
def aboL (cs:List Cod) (i:Nat):List Bool:=(List.range cs.length).map fun (k:Nat)=>(cs.take i).any fun x=>x.par==(k:Int)
theorem Ws (cs:List Cod) (i:Nat):(aboL cs i).length=cs.length:=by simp [aboL]
theorem je3 (cs:List Cod):aboL cs 0=List.replicate cs.length false:=by
 rw[List.eq_replicate_iff];refine⟨Ws cs 0,fun b hb=>?_⟩;obtain⟨k,_,rfl⟩:=Cj.1 hb;simp
theorem qo9 {cs:List Cod} {i k:Nat} (h:k<(aboL cs i).length):(aboL cs i)[k]=(cs.take i).any fun x=>x.par==(k:Int):=by simp [aboL]
theorem je4 {cs:List Cod} {i:Nat} (h:i<cs.length) (hp:cs[i].par<0):aboL cs (i+1)=aboL cs i:=by
 refine List.ext_getElem (by rw[Ws,Ws]) fun k h1 h2=>?_;have h3:(cs[i].par==(k:Int))=false:=Ak.2 oM;rw[qo9,qo9,qZ h,FY,List.any_cons,List.any_nil,h3];simp
theorem jo2 {cs:List Cod} {i p:Nat} (h:i<cs.length) (hp:cs[i].par=p):(aboL cs i).set p true=aboL cs (i+1):=by
 refine List.ext_getElem (by rw[Fy,Ws,Ws]) fun k h1 h2=>?_;rw[Fw,qo9,qo9,qZ h,FY,List.any_cons,List.any_nil,hp];by_cases e:p=k
 ·subst e;simp
 ·have:((p:Int)==(k:Int))=false:=Ak.2 oM;rw[Aq e,this];simp
theorem jo3 {cs:List Cod} {k:Nat} (h:k<(aboL cs cs.length).length):(aboL cs cs.length)[k]=!qh5 cs k:=by
 rw[qo9,Bw,qh5,Bool.not_not]
theorem jI2 (n:Nat):List.replicate n (T.v (Value.bool false))=(List.replicate n false).map vB:=by simp
def zw2 (cs:List Cod):List (ByteArray×Bool):=cs.map fun c=>(c.name,true)
theorem zp9 {nm:ByteArray}:∀ {cs:List Cod},(TL.look TL.eqS nm (zw2 cs)).getD false=cs.any fun x=>eqB x.name nm
 | []=>rfl
 | c::cs=>by
   have h:TL.eqS nm c.name=eqB c.name nm:=by
    rw[Bool.eq_iff_iff,TL.eqS,eqB,AY,AY];exact⟨fun h=>h.symm,fun h=>h.symm⟩
   simp only[zw2,List.map_cons,TL.look,List.any_cons,h];cases eqB c.name nm with
   | true=>rfl
   | false=>rw[Aq sMp,Bool.false_or];exact zp9
theorem zH6 {c:Cod}:∀ {cs:List Cod},(cs.any fun x=>eqB x.name c.name)=false→TL.asg TL.eqS c.name true (zw2 cs)=zw2 (cs++[c])
 | [],_=>rfl
 | x::cs,h=>by
   rw[List.any_cons,FQ] at h;have h1:TL.eqS c.name x.name=eqB x.name c.name:=by
    rw[Bool.eq_iff_iff,TL.eqS,eqB,AY,AY];exact⟨fun h=>h.symm,fun h=>h.symm⟩
   simp only[zw2,List.map_cons,TL.asg,h1,h.1,BW];rw[Aq sMp]
   congr 1
   exact zH6 h.2
theorem jI3 {cs:List Cod} (h:cdEs cs cs.length=0) (hl:cs.length≤60):ParR cs:=by
 refine⟨jw4 h,fun i h0 hi=>(za7 (qn7 h i hi)).2.2.2 h0,?_,hl⟩;rcases DQ cs.length with h0 | h0
 ·exact .inr h0
 ·have:=(za7 (qn7 h 0 h0)).2.2.1 rfl;exact .inl oM
theorem qp0 {l:CodL} (h:lstE l=0):ParR l.codes:=by
 obtain⟨_,_,h3⟩:=zq h;refine jI3 ?_ h3;unfold lstE at h;split at h
 ·cases h
 ·split at h
  ·cases h
  ·split at h
   ·cases h
   ·split at h
    ·rename_i h2;exact absurd h h2
    ·rename_i h4;exact AQ h4
theorem Zk (l:CodL):Sp 167 [cdlT l] [] (vI (lstE l)) []:=by
 refine sIr qP7 fun e _ hst=>?_;unfold JO;refine sW ?_;refine C1.im (wK l.name) rF rF ?_;simp only[tZ,↓un_u,simprocAttr,Bx,Bz];refine⟨fun h=>?_,fun h1=>?_⟩
 ·rw[lstE,Aj h];exact .oA [] []
 simp only[tZ,↓un_u,simprocAttr,AY,Ak];refine⟨fun h=>?_,fun h2=>?_⟩
 ·rw[lstE,Aq (by rw[h1];simp),Aj oM];exact .oA [] []
 refine sD ?_;refine⟨fun h=>?_,fun h3=>?_⟩
 ·rw[lstE,Aq (by rw[h1];simp),Aq oM,Aj oM];exact .oA [] []
 have hE1:cdEs l.codes l.codes.length≠0→lstE l=cdEs l.codes l.codes.length:=fun h=>by
  rw[lstE,Aq (by rw[h1];simp),Aq oM,Aq oM,Aj h]
 have hE2:cdEs l.codes l.codes.length=0→lvs l.codes l.codes.length=none→lstE l=5:=fun h k=>by
  rw[lstE,Aq (by rw[h1];simp),Aq oM,Aq oM,Aq (by rw[h];simp),k]
 have hE3:∀ v,cdEs l.codes l.codes.length=0→lvs l.codes l.codes.length=some v→lstE l=0:=fun v h k=>by
  rw[lstE,Aq (by rw[h1];simp),Aq oM,Aq oM,Aq (by rw[h];simp),k]
 refine⟨oM,kR,?_⟩;refine qy mixm (α:=Nat) [33] (fun i=>i≤l.codes.length∧cdEs l.codes i=0) (fun i=>[(33,vI i)]) (fun i=>[aR 4096 2 [cdlT l],(32768,.mp (.sb (zw2 (l.codes.take i)))),aR 32784 1 ((aboL l.codes i).map vB)]) (fun i=>l.codes.length-i) 0 ⟨oM,rfl⟩ ?_ fun i hi=>?_
 ·simp only[List.take_zero,zw2,List.map_nil,je3];refine .of (U3 4096 32768 32784) [] rfl (by first | rfl | (rw[hst];rfl)) ?_ ?_
  all_goals (try simp only[tL,simprocAttr,By,List.map_cons,List.map_nil,BW,Cy,Ax,jI2])
  all_goals (try (repeat' (first | exact qY | (apply zf;intro _;exact⟨rfl,rfl⟩) | (apply qj;intro _;exact⟨rfl,rfl⟩) | with_reducible apply qS | with_reducible refine qz ⟨rfl,rfl⟩ ?_ | exact qK | with_reducible apply qR | with_reducible refine qT ⟨rfl,rfl,?_⟩ ?_ | with_reducible apply Az | exact qO rfl | exact qO (by assumption) | (refine⟨⟨?_,rfl,?_,rfl,?_⟩,trivial⟩ <;> first | (simp;done) | (apply qj;intro _;exact⟨rfl,rfl⟩)) | trivial | rfl | (rw[qh oM]) | omega)))
 obtain⟨i1,i2⟩:=hi;have hbl:=Ws l.codes i;refine sD ?_;refine⟨fun h4=>?_,fun h4=>?_⟩
 ·have hi2:i<l.codes.length:=by omega
  have hwi:=qh (i:=i) oM;have hat:cdAt l.codes i=l.codes[i]:=by rw[cdAt,qk hi2]
  have hs:cdEs l.codes (i+1)=cdE l.codes i:=by rw[cdEs,Aq (by rw[i2];simp)]
  have hbad:cdE l.codes i≠0→lstE l=cdE l.codes i:=fun hb=>by
   have:=qU9 (by rw[hs];exact hb) l.codes.length (show i+1≤l.codes.length by omega);rw[hE1 (by rw[this,hs];exact hb),this,hs]
  simp only[tZ,↓un_u,simprocAttr,Ax,qd hi2];refine⟨oM,?_⟩;refine C1.im (wK l.codes[i].name) rF rF ?_;simp only[tZ,↓un_u,simprocAttr,Bx,Bz,zp9];refine⟨fun h5=>?_,fun h5=>?_⟩
  ·have hc:cdE l.codes i=3:=by rw[cdE,hat,Aj h5]
   rw[hbad (by rw[hc];decide),hc];exact .oA [] []
  refine⟨fun h6=>?_,fun h6=>?_⟩
  ·have hc:cdE l.codes i=10:=by rw[cdE,hat,Aq (by rw[h5];simp),Aj h6]
   rw[hbad (by rw[hc];decide),hc];exact .oA [] []
  have hpar:l.codes[i].par=parC l.codes i:=by rw[parC,hat]
  have hcE:cdE l.codes i=if (i=0∧parC l.codes i≠-1)∨(0<i∧(parC l.codes i<0∨parC l.codes i≥i)) then 6 else 0:=by
   rw[cdE,hat,Aq (by rw[h5];simp),Aq (by rw[h6];simp)]
  have hasg:=zH6 (c:=l.codes[i]) (cs:=l.codes.take i) h6;rw[← qZ hi2] at hasg;simp only[tZ,↓un_u,simprocAttr,hasg,hpar,tD,AY,Ak,Bj,Aw];refine⟨fun h7=>?_,fun h7=>?_⟩
  ·have hc:cdE l.codes i=6:=by rw[hcE,Aj oM]
   rw[hbad (by rw[hc];decide),hc];exact .oA [] []
  have hc0:cdEs l.codes (i+1)=0:=by rw[hs,hcE,Aq oM]
  refine⟨fun h8=>?_,fun h8=>?_⟩
  ·obtain⟨q,hq⟩:=AJ (show 0≤parC l.codes i by omega);have hq3:q<(aboL l.codes i).length:=by omega
   have hset:=jo2 (p:=q) hi2 (by rw[hpar,hq]);simp only[hq,Ax,qd hq3,show ∀ a b:Bool,repl (vB a) 0 (vB b)=vB b from fun _ _=>rfl,hwi];refine⟨⟨oM,oM,oM⟩,⟨oM,oM,rfl⟩,i+1,⟨oM,hc0⟩,oM,?_⟩;rw[← List.map_set,hset];exact .oA (U3 4096 32768 32784) []
  ·have hsk:=je4 hi2 oM;simp only[hwi];refine⟨i+1,⟨oM,hc0⟩,oM,?_⟩;rw[hsk];exact .oA (U3 4096 32768 32784) []
 ·have hil:i=l.codes.length:=by omega
  subst hil;have hP:=jI3 i2 oM;have hdl:=qa8 l.codes;refine C1.im (wm l hP) rF rF ?_;refine sW ?_;have hbl:=Ws l.codes l.codes.length;refine qy mixm (α:=Nat×Int) [7,84] (fun x=>x.1≤l.codes.length∧lvs l.codes x.1=some x.2) (fun x=>[(7,vI x.2),(84,vI x.1)]) (fun x=>[aR 32784 1 ((aboL l.codes l.codes.length).map vB)]) (fun x=>l.codes.length-x.1) (0,-1) ⟨sMp,rfl⟩ ?_ fun x hx=>?_
  ·rw[Ax];exact .oA (U1 32784) []
  obtain⟨j,v⟩:=x;obtain⟨j1,j2⟩:=hx;dsimp only at j1 j2;refine sD ?_;refine⟨fun h5=>?_,fun h5=>?_⟩
  ·have hj2:j<l.codes.length:=by omega
   have hwj:=qh (i:=j) oM;have hs:=qC1 l.codes j;rw[j2,lvS] at hs;have hj3:j<(depL l.codes).length:=by omega
   have hj4:j<(aboL l.codes l.codes.length).length:=by omega
   have hd1:(depL l.codes)[j]=dep l.codes j:=by simp [depL]
   have ha1:=jo3 hj4;simp only[tZ,↓un_u,simprocAttr,Ax,qd hj3,qd hj4,hd1,ha1,hwj,Bx,Bz,tD,Bj,Aw];refine⟨oM,oM,oM,fun h6=>?_,fun h6=>?_⟩
   ·rw[Aq (by rw[h6];simp)] at hs;refine⟨(j+1,v),⟨by dsimp only;omega,hs⟩,by dsimp only;omega,?_⟩;exact .oA (U1 32784) []
   ·rw[Aj h6] at hs;refine⟨fun h7=>?_,fun h7=>?_⟩
    ·rw[Aj oM] at hs;rw[hE2 i2 (zG9 hs _ oM)];exact .oA [] []
    ·rw[Aq oM] at hs;refine⟨(j+1,(dep l.codes j:Int)),⟨by dsimp only;omega,hs⟩,by dsimp only;omega,?_⟩;exact .oA (U1 32784) []
  ·have hjl:j=l.codes.length:=by omega
   subst hjl;rw[hE3 v i2 j2];exact .oA [] []
theorem ZW (p:CodL→Bool) (f:FuncId) (caps:List T) (hcap:imL caps=true) (l:List CodL) (hf:∀ y∈l,Sp f (cdlT y::caps) [] (vB (p y)) []) (hl:l.length<4611686018427387904) :
 Sp 228 [.sl 2 (l.map cdlT),.clo f caps] [] (vI (idxI p l)) []:=by
 refine sIr Zf fun e _ hst=>?_;unfold zZ;refine sW ?_;refine qy mixm (α:=Nat) [8] (fun i=>i≤l.length∧((l.take i).any p=false)) (fun i=>[(8,vI i)]) (fun i=>[]) (fun i=>l.length-i) 0 ⟨oM,?_⟩ ?_ fun i hi=>?_
 ·simp
 ·exact .oA [] []
 simp only[tZ,↓un_u,simprocAttr,AZ,Ay];refine⟨fun h=>?_,fun h=>?_⟩
 ·have hi2:i<l.length:=by omega
  have hwi:=qh (i:=i) oM;simp only[tZ,↓un_u,simprocAttr,Ax,qd hi2,hwi,Yp];refine⟨oM,?_⟩;refine C1.im (hf l[i] (AX hi2)) (Zu rfl hcap) rfl ?_;refine sW ?_;refine⟨fun h3=>?_,fun h3=>⟨i+1,⟨oM,zR hi2 hi.2 h3⟩,oM,?_⟩⟩
  ·rw[idxI,Aj (WC hi2 h3),wJ hi2 hi.2 h3];exact .imR rfl rfl
  ·exact .oA [] []
 ·have h2:i=l.length:=by omega
  have h3:=hi.2;rw[h2,Bw] at h3;rw[idxI,Aq (by rw[h3];simp)];exact .imR rfl rfl
theorem Qt (p:CodL→Bool) (f:FuncId) (caps:List T) (hcap:imL caps=true) (l:List CodL) (hf:∀ y∈l,Sp f (cdlT y::caps) [] (vB (p y)) []) (hl:l.length<4611686018427387904) :
 Sp 168 [.sl 2 (l.map cdlT),.clo f caps] [] (vB (l.any p)) []:=by
 refine sIr yT fun e _ hst=>?_;unfold zK;refine sW ?_;refine C1.im (ZW p f caps hcap l hf hl) (qk0 rfl hcap) rfl ?_;refine sW ?_;rw[show decide (idxI p l≥0)=l.any p from qe8 p l];exact .imR rfl rfl
theorem Kb (p:Col→Bool) (f:FuncId) (caps:List T) (hcap:imL caps=true) (l:List Col) (hf:∀ y∈l,Sp f (colT y::caps) [] (vB (p y)) []) (hl:l.length<4611686018427387904) :
 Sp 261 [.sl 7 (l.map colT),.clo f caps] [] (vI (idxI p l)) []:=by
 refine sIr Jl fun e _ hst=>?_;unfold jl;refine sW ?_;refine qy mixm (α:=Nat) [8] (fun i=>i≤l.length∧((l.take i).any p=false)) (fun i=>[(8,vI i)]) (fun i=>[]) (fun i=>l.length-i) 0 ⟨oM,?_⟩ ?_ fun i hi=>?_
 ·simp
 ·exact .oA [] []
 simp only[tZ,↓un_u,simprocAttr,AZ,Ay];refine⟨fun h=>?_,fun h=>?_⟩
 ·have hi2:i<l.length:=by omega
  have hwi:=qh (i:=i) oM;simp only[tZ,↓un_u,simprocAttr,Ax,qd hi2,hwi,Yp];refine⟨oM,?_⟩;refine C1.im (hf l[i] (AX hi2)) (Zu rfl hcap) rfl ?_;refine sW ?_;refine⟨fun h3=>?_,fun h3=>⟨i+1,⟨oM,zR hi2 hi.2 h3⟩,oM,?_⟩⟩
  ·rw[idxI,Aj (WC hi2 h3),wJ hi2 hi.2 h3];exact .imR rfl rfl
  ·exact .oA [] []
 ·have h2:i=l.length:=by omega
  have h3:=hi.2;rw[h2,Bw] at h3;rw[idxI,Aq (by rw[h3];simp)];exact .imR rfl rfl
theorem Zl (p:Col→Bool) (f:FuncId) (caps:List T) (hcap:imL caps=true) (l:List Col) (hf:∀ y∈l,Sp f (colT y::caps) [] (vB (p y)) []) (hl:l.length<4611686018427387904) :
 Sp 229 [.sl 7 (l.map colT),.clo f caps] [] (vB (l.any p)) []:=by
 refine sIr QL fun e _ hst=>?_;unfold zT;refine sW ?_;refine C1.im (Kb p f caps hcap l hf hl) (qk0 rfl hcap) rfl ?_;refine sW ?_;rw[show decide (idxI p l≥0)=l.any p from qe8 p l];exact .imR rfl rfl
theorem qA6 (x y:CodL):Sp 169 [cdlT x,.ip (cdlT y).cells] [] (vB (eqB x.name y.name)) []:=by
 refine sIr qt2 fun e _ hst=>?_;unfold yU;refine sW ?_;rw[show (x.name.toList==y.name.toList)=eqB x.name y.name from rfl];exact .oA [] []
theorem Ya (x y:Col):Sp 230 [colT x,.ip (colT y).cells] [] (vB (eqB x.name y.name)) []:=by
 refine sIr Wh fun e _ hst=>?_;unfold jO;refine sW ?_;rw[show (x.name.toList==y.name.toList)=eqB x.name y.name from rfl];exact .oA [] []
def unuB (c:Col):Bool:=!(((c.kind != 2)&&(c.list != 0))||((c.kind != 3)&&((c.low != 0)||(c.high != 0)||(c.widths.length != 0)||c.opt)))
theorem ZX (c:Col):Sp 232 [colT c] [] (vB (unuB c)) []:=by
 refine sIr qz9 fun e _ hst=>?_;unfold QM;refine sW ?_;refine⟨fun h=>?_,fun h=>?_⟩
 ·have:unuB c=false:=by unfold unuB;rw[h];rfl
  rw[this];exact .oA [] []
 ·have e:((c.widths.length:Int)==0)=(c.widths.length==0):=by rw[Bool.eq_iff_iff,AY,AY];omega
  have:unuB c=(c.kind==3||c.low==0&&c.high==0&&((c.widths.length:Int)==0)&&!c.opt):=by
   unfold unuB;rw[h,e];simp only[Bool.false_or,bne,Bool.not_and,Bool.not_or,Bool.not_not]
  rw[this];exact .oA [] []
def zq0 (ws:List Int) (i:Nat):Int:=if i=0 then 1 else ws.getD (i-1) 0
theorem YP (c:Col):Sp 231 [colT c] [] (vI (measE c)) []:=by
 refine sIr WW fun e _ hst=>?_;unfold kh;refine sW ?_;simp only[tZ,↓un_u,simprocAttr,tD,Bx,Bz,AY,Ak];have hin:∀ n:Int,inB n (-1000000) 1000000=false↔(n < -1000000∨n>1000000):=fun n=>by
  unfold inB;rw[FK,Ay,Ay];omega
 refine⟨fun h=>?_,fun h=>?_⟩
 ·have k:inB c.low (-1000000) 1000000=false∨inB c.high (-1000000) 1000000=false∨c.low>c.high:=by
   rw[hin,hin];omega
  rw[measE,Aj k];exact .oA [] []
 have hA:¬ (inB c.low (-1000000) 1000000=false∨inB c.high (-1000000) 1000000=false∨c.low>c.high):=by
  rw[hin,hin];omega
 refine⟨fun h2=>?_,fun h2=>?_⟩
 ·rw[measE,Aq hA,Aj oM];exact .oA [] []
 have hm:measE c=if jn0 c.widths=false then 2 else 0:=by rw[measE,Aq hA,Aq oM]
 refine qy mixm (α:=Nat) [3,36] (fun i=>i≤c.widths.length∧(∀ j,j<i→wdOk c.widths j=true)) (fun i=>[(3,vI (zq0 c.widths i)),(36,vI i)]) (fun i=>[]) (fun i=>c.widths.length-i) 0 ⟨oM,?_⟩ ?_ fun i hi=>?_
 ·intro j hj;omega
 ·exact .oA [] []
 have hbad:i<c.widths.length→wdOk c.widths i=false→measE c=2:=fun h1 h2=>by
  rw[hm,Aj];exact List.all_eq_false.2 ⟨i,Dk.2 h1,by rw[h2];simp⟩
 have hok:wdOk c.widths i=true→∀ j,j<i+1→wdOk c.widths j=true:=fun h1 j hj=>by
  by_cases e:j=i
  ·rw[e];exact h1
  ·exact hi.2 j oM
 simp only[tZ,↓un_u,simprocAttr,AZ,Ay];refine⟨fun h=>?_,fun h=>?_⟩
 ·have hi2:i<c.widths.length:=by omega
  have hwi:=qh (i:=i) oM;have hnx:zq0 c.widths (i+1)=c.widths[i]:=by rw[zq0,Aq oM,Nat.add_sub_cancel,qk hi2]
  rcases DQ i with h0 | h0
  ·subst h0;have hw0:wdOk c.widths 0=(c.widths[0]==1):=by rw[wdOk,Aj rfl,qk hi2]
   have hz:((0:Nat):Int)=0:=rfl;rw[hz] at hwi;simp only[tZ,↓un_u,simprocAttr,Ax,hz,beq_self_eq_true,gt_iff_lt,Int.lt_irrefl,decide_false,Bool.false_and,Bool.or_false,Fj,qd hi2,Bj,Aw];have hwz:IntKind.i64.wrap 1=((1:Nat):Int):=by decide
   refine⟨oM,fun h3=>?_,fun h3=>?_⟩
   ·rw[hbad hi2 (by rw[hw0];simpa using h3)];exact .oA [] []
   ·rw[hwz];refine⟨1,⟨oM,hok (by rw[hw0];simpa using h3)⟩,oM,?_⟩;rw[hnx];exact .oA [] []
  ·have e1:((i:Int)==0)=false:=Ak.2 oM;have e2:decide ((i:Int)>0)=true:=Cx oM;have hw1:wdOk c.widths i=(decide (zq0 c.widths i<c.widths[i])&&decide (c.widths[i]≤1000000)&&(c.widths[i].tmod (zq0 c.widths i)==0)):=by
    rw[wdOk,Aq oM,qk hi2,zq0,Aq oM]
   have hp1:1≤zq0 c.widths i:=by
    have:=zo0 (ws:=c.widths) hi.2 (i-1) oM;rw[zq0,Aq oM];exact this
   simp only[tZ,↓un_u,simprocAttr,Ax,qd hi2,e1,e2,hwi,tD,Bj,Aw];refine⟨oM,fun _=>by omega,fun h3=>?_,fun h3=>?_⟩
   ·rw[hbad hi2 (by rw[hw1];grind)];exact .oA [] []
   ·refine⟨i+1,⟨oM,hok (by rw[hw1];grind)⟩,oM,?_⟩;rw[hnx];exact .oA [] []
 ·have hi2:i=c.widths.length:=by omega
  subst hi2;rw[hm,Aq]
  ·exact .oA [] []
  ·rw[Ez];exact Bk.2 fun j hj=>hi.2 j (Dk.1 hj)
theorem qc5 (s:Sch) (i:Nat) (hi:i<s.cols.length) (hn:s.cols.length<4611686018427387904) (hl:s.lists.length<4611686018427387904):Sp 170 [schT s,vI i] [] (vI (colE s i)) []:=by
 have hat:qg s i=s.cols[i]:=by rw[qg,qk hi]
 have hE:colE s i=if ju s.cols[i].name=false then 3
  else if ((s.cols.take i).any fun x=>eqB x.name s.cols[i].name)=true then 10
  else if inB s.cols[i].kind 1 3=false∨(0<i∧s.cols[i].kind=1) then 4
  else if s.cols[i].kind=2∧inB s.cols[i].list 0 (s.lists.length-1)=false then 5
  else if s.cols[i].kind=3∧measE s.cols[i]≠0 then measE s.cols[i]
  else if (s.cols[i].kind≠2∧s.cols[i].list≠0)∨(s.cols[i].kind≠3∧(s.cols[i].low≠0∨s.cols[i].high≠0∨0<s.cols[i].widths.length∨s.cols[i].opt=true)) then 11 else 0:=by rw[colE,hat]
 rw[hE];refine sIr YD fun e _ hst=>?_;unfold kG;simp only[tZ,↓un_u,simprocAttr,Ax,qd hi];generalize s.cols[i]=c;refine⟨oM,?_⟩;refine C1.im (wK c.name) rF rF ?_;simp only[tZ,↓un_u,simprocAttr,Bx,Bz];refine⟨fun h=>?_,fun h=>?_⟩
 ·rw[Aj h];exact .oA [] []
 rw[Aq (by rw[h];simp)];have hCF:=Zl (fun x=>eqB x.name c.name) 230 [.ip (colT c).cells] rfl (s.cols.take i) (fun x _=>Ya x c) (by rw[Cz];omega);refine⟨oM,?_⟩;rw[Yq,qG2];refine C1.lend [8212] hCF ?_ rF rF ?_
 ·all_goals (try simp only[tL,simprocAttr,By,List.map_cons,List.map_nil,BW,Cy])
  all_goals (try (repeat' (first | exact qY | (apply zf;intro _;exact⟨rfl,rfl⟩) | (apply qj;intro _;exact⟨rfl,rfl⟩) | with_reducible apply qS | with_reducible refine qz ⟨rfl,rfl⟩ ?_ | exact qK | with_reducible apply qR | with_reducible refine qT ⟨rfl,rfl,?_⟩ ?_ | with_reducible apply Az | exact qO rfl | exact qO (by assumption) | (refine⟨⟨?_,rfl,?_,rfl,?_⟩,trivial⟩ <;> first | (simp;done) | (apply qj;intro _;exact⟨rfl,rfl⟩)) | trivial | rfl | (rw[qh oM]) | omega)))
  simp only[ltP];exact⟨rfl,by decide,rfl,qz ⟨rfl,rfl⟩ qK⟩
 simp only[tZ,↓un_u,simprocAttr,tD,Bx,Bz,AY,Ak];refine⟨fun h2=>?_,fun h2=>?_⟩
 ·rw[Aj h2];exact .oA [] []
 rw[Aq (by rw[h2];simp)];have hI:inB c.kind 1 3=false↔¬ (1≤c.kind∧c.kind≤3):=by unfold inB;rw[FK,Ay,Ay];omega
 have hL:inB c.list 0 (s.lists.length-1)=false↔(c.list<0∨(s.lists.length:Int)≤c.list):=by unfold inB;rw[FK,Ay,Ay];omega
 have hU:unuB c=false↔((c.kind≠2∧c.list≠0)∨(c.kind≠3∧(c.low≠0∨c.high≠0∨0<c.widths.length∨c.opt=true))):=by
  have hw0:c.widths.length≠0↔0<c.widths.length:=by omega
  unfold unuB;rw[Bz,DZ,Bq,Bq,Bj,Bj,Bj,DZ,DZ,DZ,Bj,Bj,Bj,hw0,or_assoc,or_assoc]
 have hfin:∀ (v:Int),(unuB c=false→v=11)→(unuB c=true→v=0)→v=if (c.kind≠2∧c.list≠0)∨(c.kind≠3∧(c.low≠0∨c.high≠0∨0<c.widths.length∨c.opt=true)) then 11 else 0:=fun v h11 h00=>by
  by_cases k:unuB c=false
  ·rw[Aj (hU.1 k),h11 k]
  ·rw[Aq (fun e=>k (hU.2 e)),h00 (by simpa using k)]
 refine⟨fun k1=>⟨fun h3=>?_,fun h3=>?_⟩,fun k1=>⟨fun k2=>⟨fun h3=>?_,fun h3=>?_⟩,fun k2=>⟨fun k3=>?_,fun k3=>?_⟩⟩⟩
 ·rw[Aj (.inr ⟨oM,k1⟩)];exact .oA [] []
 ·rw[Aq (by rw[hI];omega),Aq oM,Aq oM];refine C1.im (ZX c) rF rF ?_;simp only[tZ,↓un_u,simprocAttr,Bx,Bz];refine⟨fun h4=>?_,fun h4=>?_⟩
  ·rw[← hfin 11 (fun _=>rfl) (fun k=>by rw[h4] at k;cases k)];exact .oA [] []
  ·rw[← hfin 0 (fun k=>by rw[h4] at k;cases k) (fun _=>rfl)];exact .oA [] []
 ·rw[Aq (by rw[hI];omega),Aj ⟨k2,hL.2 h3⟩];exact .oA [] []
 ·rw[Aq (by rw[hI];omega),Aq (by rw[hL];omega),Aq oM];refine C1.im (ZX c) rF rF ?_;simp only[tZ,↓un_u,simprocAttr,Bx,Bz];refine⟨fun h4=>?_,fun h4=>?_⟩
  ·rw[← hfin 11 (fun _=>rfl) (fun k=>by rw[h4] at k;cases k)];exact .oA [] []
  ·rw[← hfin 0 (fun k=>by rw[h4] at k;cases k) (fun _=>rfl)];exact .oA [] []
 ·rw[Aq (by rw[hI];omega),Aq oM];refine C1.im (YP c) rF rF ?_;simp only[tZ,↓un_u,simprocAttr,Bj,Aw];refine⟨fun h3=>?_,fun h3=>?_⟩
  ·rw[Aj ⟨k3,h3⟩];exact .oA [] []
  rw[Aq oM];refine C1.im (ZX c) rF rF ?_;simp only[tZ,↓un_u,simprocAttr,Bx,Bz];refine⟨fun h4=>?_,fun h4=>?_⟩
  ·rw[← hfin 11 (fun _=>rfl) (fun k=>by rw[h4] at k;cases k)];exact .oA [] []
  ·rw[← hfin 0 (fun k=>by rw[h4] at k;cases k) (fun _=>rfl)];exact .oA [] []
 ·rw[Aj (.inl (hI.2 oM))];exact .oA [] []
theorem jX (s:Sch) (hn:s.cols.length<4611686018427387904) (hl:s.lists.length<4611686018427387904):Sp 99 [schT s] [] (vI (schE s)) []:=by
 refine sIr qH5 fun e _ hst=>?_;unfold Zz;refine sD ?_;refine⟨fun h=>?_,fun h=>?_⟩
 ·rw[schE,Aj oM];exact .oA [] []
 have hE1:wO s s.lists.length≠0→schE s=wO s s.lists.length:=fun k=>by rw[schE,Aq oM,Aj k]
 refine qy mixm (α:=Nat) [21] (fun i=>i≤s.lists.length∧wO s i=0) (fun i=>[(21,vI i)]) (fun i=>[aR 4096 2 [schT s]]) (fun i=>s.lists.length-i) 0 ⟨oM,rfl⟩ ?_ fun i hi=>?_
 ·exact .oA (U1 4096) []
 obtain⟨i1,i2⟩:=hi;refine sD ?_;refine⟨fun h2=>?_,fun h2=>?_⟩
 ·have hi2:i<s.lists.length:=by omega
  have hwi:=qh (i:=i) oM;have hat:s.lists.getD i default=s.lists[i]:=qk hi2;have hstep:wO s (i+1)=if lstE s.lists[i]≠0 then lstE s.lists[i] else if ((s.lists.take i).any fun x=>eqB x.name s.lists[i].name)=true then 10 else 0:=by
   rw[wO,Aq (by rw[i2];simp),hat]
  have hbad:wO s (i+1)≠0→schE s=wO s (i+1):=fun k=>by
   have:=qJ7 k s.lists.length oM;rw[hE1 (by rw[this];exact k),this]
  have hCF:=Qt (fun x=>eqB x.name s.lists[i].name) 169 [.ip (cdlT s.lists[i]).cells] rfl (s.lists.take i) (fun x _=>qA6 x s.lists[i]) (by rw[Cz];omega);simp only[tZ,↓un_u,simprocAttr,Ax,qd hi2,hwi];generalize s.lists[i]=c at *
  refine⟨oM,?_⟩;refine C1.im (Zk c) rF rF ?_;simp only[tZ,↓un_u,simprocAttr,Bj,Aw];refine⟨fun h3=>?_,fun h3=>?_⟩
  ·rw[Aj h3] at hstep;rw[hbad (by rw[hstep];exact h3),hstep];exact .oA [] []
  rw[Aq (by rw[h3];simp)] at hstep;refine⟨oM,?_⟩;rw[Yq,qG2];refine C1.lend [24588] hCF ?_ rF rF ?_
  ·all_goals (try simp only[tL,simprocAttr,By,List.map_cons,List.map_nil,BW,Cy])
   all_goals (try (repeat' (first | exact qY | (apply zf;intro _;exact⟨rfl,rfl⟩) | (apply qj;intro _;exact⟨rfl,rfl⟩) | with_reducible apply qS | with_reducible refine qz ⟨rfl,rfl⟩ ?_ | exact qK | with_reducible apply qR | with_reducible refine qT ⟨rfl,rfl,?_⟩ ?_ | with_reducible apply Az | exact qO rfl | exact qO (by assumption) | (refine⟨⟨?_,rfl,?_,rfl,?_⟩,trivial⟩ <;> first | (simp;done) | (apply qj;intro _;exact⟨rfl,rfl⟩)) | trivial | rfl | (rw[qh oM]) | omega)))
   simp only[ltP];exact⟨rfl,by decide,rfl,qz ⟨rfl,rfl⟩ qK⟩
  simp only[tZ,↓un_u,simprocAttr,hwi];refine⟨fun h4=>?_,fun h4=>?_⟩
  ·rw[Aj h4] at hstep;rw[hbad (by rw[hstep];simp),hstep];exact .oA [] []
  ·rw[Aq (by rw[h4];simp)] at hstep;refine⟨i+1,⟨oM,hstep⟩,oM,?_⟩;exact .oA (U1 4096) []
 ·have hil:i=s.lists.length:=by omega
  subst hil;have hE2:s.cols.length=0∨(qg s 0).kind≠1→schE s=7:=fun k=>by rw[schE,Aq oM,Aq (by rw[i2];simp),Aj k]
  have hE3:¬ (s.cols.length=0∨(qg s 0).kind≠1)→schE s=Ku s s.cols.length:=fun k=>by rw[schE,Aq oM,Aq (by rw[i2];simp),Aq k]
  have hz:((0:Nat):Int)=0:=rfl;by_cases h0:s.cols.length=0
  ·have hn:s.cols=[]:=Dy.1 h0;rw[hE2 (.inl h0)];simp only[tZ,↓un_u,simprocAttr,hn,Cw,hz,beq_self_eq_true];exact .oA [] []
  ·have h0p:0<s.cols.length:=by omega
   have e0:((s.cols.length:Int)==0)=false:=Ak.2 oM;have hc0:qg s 0=s.cols[0]:=by rw[qg,qk h0p]
   simp only[tZ,↓un_u,simprocAttr,e0,qd h0p,Bj,Aw,Bool.false_or];refine⟨oM,fun h3=>?_,fun h3=>?_⟩
   ·rw[hE2 (.inr (by rw[hc0];exact h3))];exact .oA [] []
   have hE4:=hE3 (by rw[hc0];grind);refine qy mixm (α:=Nat) [53] (fun i=>i≤s.cols.length∧Ku s i=0) (fun i=>[(53,vI i)]) (fun i=>[aR 4096 2 [schT s]]) (fun i=>s.cols.length-i) 0 ⟨oM,rfl⟩ ?_ fun i hi=>?_
   ·exact .oA (U1 4096) []
   simp only[tZ,↓un_u,simprocAttr,AZ,Ay];refine⟨fun h=>?_,fun h=>?_⟩
   ·have hi2:i<s.cols.length:=by omega
    have hwi:=qh (i:=i) oM;have hstep:Ku s (i+1)=colE s i:=by rw[Ku,Aq (by rw[hi.2];simp)]
    refine C1.im (qc5 s i hi2 hn hl) rF rF ?_;simp only[tZ,↓un_u,simprocAttr,Bj,Aw,hwi];refine⟨fun h4=>?_,fun h4=>?_⟩
    ·have:=qJ8 (s:=s) (i:=i+1) (by rw[hstep];exact h4) s.cols.length oM;rw[hE4,this,hstep];exact .oA [] []
    ·refine⟨i+1,⟨oM,by rw[hstep];exact h4⟩,oM,?_⟩;exact .oA (U1 4096) []
   ·have hil:i=s.cols.length:=by omega
    rw[hE4,← hil,hi.2];exact .oA [] []
theorem qC3 {cs:List Cod}:∀ {n:Nat} {v:Int},lvs cs n=some v→∀ j,j<n→qh5 cs j=true→(dep cs j:Int)=v
 | 0,_,_,j,h,_=>by omega
 | n+1,v,h,j,hj,hl=>by
   rw[qC1] at h;cases e:lvs cs n with
   | none=>rw[e] at h;cases h
   | some w=>
     rw[e] at h;have ih:=fun k hk h2=>qC3 e k hk h2;unfold lvS at h;dsimp only at h;split at h
     ·split at h
      ·cases h
      ·rename_i h2;have hv:(dep cs n:Int)=v:=by simpa using h
       by_cases e2:j=n
       ·rw[e2];exact hv
       ·have:=ih j oM hl;omega
     ·rename_i h2;have hv:w=v:=by simpa using h
      by_cases e2:j=n
      ·rw[e2] at hl;exact absurd hl h2
      ·have:=ih j oM hl;omega
theorem zc1 {cs:List Cod} {c:Nat}:qh5 cs c=true↔∀ i,i<cs.length→parC cs i≠c:=by
 unfold qh5;rw[Bx,List.any_eq_false];constructor
 ·intro h i hi e;have:=h cs[i] (AX hi);rw[parC,cdAt,qk hi] at e;simp [e] at this
 ·intro h x hx;obtain⟨i,hi,rfl⟩:=CX hx;have:=h i hi;rw[parC,cdAt,qk hi] at this;simpa using this
theorem jo4 {l:CodL} (h:lstE l=0):∃ v,lvs l.codes l.codes.length=some v:=by
 unfold lstE at h;split at h
 ·cases h
 ·split at h
  ·cases h
  ·split at h
   ·cases h
   ·split at h
    ·rename_i h2;exact absurd h h2
    ·split at h
     ·cases h
     ·rename_i v e;exact⟨v,e⟩
theorem zw3 {l:CodL} (h:lstE l=0) {c:Nat} (hc:c<l.codes.length):(dep l.codes c:Int)≤zA l-1∧(qh5 l.codes c=true→(dep l.codes c:Int)=zA l-1)∧(qh5 l.codes c=false→(dep l.codes c:Int)<zA l-1):=by
 obtain⟨hp,h1,h2⟩:=zq h;obtain⟨v,hv⟩:=jo4 h;have hlast:qh5 l.codes (l.codes.length-1)=true:=zc1.2 fun i hi e=>by
  have:=(hp i hi).2;omega
 have hlv:=qC3 hv (l.codes.length-1) oM hlast;have hL:zA l-1=v:=by rw[zA,Aq (by rw[h];simp)];omega
 have hall:∀ k c,l.codes.length-c=k→c<l.codes.length→(dep l.codes c:Int)≤v∧(qh5 l.codes c=false→(dep l.codes c:Int)<v):=by
  intro k
  induction k using Nat.strongRecOn with
  | _ k ih=>
    intro c hk hc;cases hl:qh5 l.codes c with
    | true=>
      have:=qC3 hv c hc hl;exact⟨oM,fun e=>by cases e⟩
    | false=>
      have hn:¬ ∀ i,i<l.codes.length→parC l.codes i≠c:=fun k=>by rw[zc1.2 k] at hl;cases hl
      simp only[Classical.not_forall] at hn;obtain⟨i,hi,hn⟩:=hn;have hpc:parC l.codes i=c:=AQ hn;have h3:=hp i hi;have h4:=qu0 hp hi oM;rw[hpc,Ax] at h4;have h5:=ih (l.codes.length-i) oM i rfl hi;have:=h5.1;exact⟨oM,fun _=>by omega⟩
 have:=hall _ c rfl hc;rw[hL];exact⟨this.1,fun hl=>qC3 hv c hc hl,this.2⟩
theorem jo5 {l:CodL} (h:lstE l=0) {c:Nat} (hc:c<l.codes.length):qh5 l.codes c=true↔(dep l.codes c:Int)=zA l-1:=by
 obtain⟨_,h2,h3⟩:=zw3 h hc;cases hl:qh5 l.codes c with
 | true=>exact⟨fun _=>h2 hl,fun _=>rfl⟩
 | false=>
   have:=h3 hl;exact⟨(by intro e;cases e),fun e=>by omega⟩
theorem Wt (p:Cod→Bool) (f:FuncId) (caps:List T) (hcap:imL caps=true) (l:List Cod) (hf:∀ y∈l,Sp f (codT y::caps) [] (vB (p y)) []) (hl:l.length<4611686018427387904) :
 Sp 255 [.sl 2 (l.map codT),.clo f caps] [] (vI (idxI p l)) []:=by
 refine sIr Kr fun e _ hst=>?_;unfold jG;refine sW ?_;refine qy mixm (α:=Nat) [8] (fun i=>i≤l.length∧((l.take i).any p=false)) (fun i=>[(8,vI i)]) (fun i=>[]) (fun i=>l.length-i) 0 ⟨oM,?_⟩ ?_ fun i hi=>?_
 ·simp
 ·exact .oA [] []
 simp only[tZ,↓un_u,simprocAttr,AZ,Ay];refine⟨fun h=>?_,fun h=>?_⟩
 ·have hi2:i<l.length:=by omega
  have hwi:=qh (i:=i) oM;simp only[tZ,↓un_u,simprocAttr,Ax,qd hi2,hwi,Yp];refine⟨oM,?_⟩;refine C1.im (hf l[i] (AX hi2)) (Zu rfl hcap) rfl ?_;refine sW ?_;refine⟨fun h3=>?_,fun h3=>⟨i+1,⟨oM,zR hi2 hi.2 h3⟩,oM,?_⟩⟩
  ·rw[idxI,Aj (WC hi2 h3),wJ hi2 hi.2 h3];exact .imR rfl rfl
  ·exact .oA [] []
 ·have h2:i=l.length:=by omega
  have h3:=hi.2;rw[h2,Bw] at h3;rw[idxI,Aq (by rw[h3];simp)];exact .imR rfl rfl
theorem Jm (p:Cod→Bool) (f:FuncId) (caps:List T) (hcap:imL caps=true) (l:List Cod) (hf:∀ y∈l,Sp f (codT y::caps) [] (vB (p y)) []) (hl:l.length<4611686018427387904) :
 Sp 214 [.sl 2 (l.map codT),.clo f caps] [] (vB (l.any p)) []:=by
 refine sIr ZK fun e _ hst=>?_;unfold jf;refine sW ?_;refine C1.im (Wt p f caps hcap l hf hl) (qk0 rfl hcap) rfl ?_;refine sW ?_;rw[show decide (idxI p l≥0)=l.any p from qe8 p l];exact .imR rfl rfl
theorem qK9 (x:Cod) (v:Int):Sp 215 [codT x,.ip [vI v]] [] (vB (x.par==v)) []:=by
 refine sIr qz7 fun e _ hst=>?_;unfold QJ;refine sW ?_;exact .oA [] []
theorem je5 {l:CodL} (h:lstE l=0) (v:Int):(decide (0≤v)&&decide (v<l.codes.length)&&!(l.codes.any fun x=>x.par==v))=(inB v 0 (l.codes.length-1)&&(lvlC l v==zA l-1)):=by
 unfold inB;by_cases h0:0≤v∧v<l.codes.length
 ·obtain⟨c,rfl⟩:=AJ h0.1;have hc:c<l.codes.length:=by omega
  have h1:lvlC l c=dep l.codes c:=by rw[lvlC,Aq (by rw[h];simp;omega),Ax]
  rw[Cx h0.1,Cx h0.2,Cx (show (c:Int)≤(l.codes.length:Int)-1 by omega),h1];simp only[Fj];rw[Bool.eq_iff_iff,AY,← jo5 h hc]
  rfl
 ·by_cases h1:0≤v
  ·rw[Cx h1,Cq (show ¬ v<l.codes.length by omega),Cq (show ¬ v≤(l.codes.length:Int)-1 by omega)]
   rfl
  ·rw[Cq h1]
   rfl
theorem zc2 (s:Sch) (h:SchOk s) (i:Nat) (hi:i<s.cols.length) (v:Int):Sp 161 [schT s,colT s.cols[i],vI v] [] (vB (qV s i v)) []:=by
 have hat:qg s i=s.cols[i]:=by rw[qg,qk hi]
 have hk:=zo (h.cs i hi);have hcd:=fun e=>h.cdl hi e;have hE:qV s i v=if s.cols[i].kind=1 then inB v 1 1048575
  else if s.cols[i].kind=2 then inB v 0 ((qX s i).codes.length-1)&&(lvlC (qX s i) v==zA (qX s i)-1)
  else (s.cols[i].opt&&(v==zt))||inB v s.cols[i].low s.cols[i].high:=by rw[qV,hat]
 have hcl:qX s i=s.lists.getD s.cols[i].list.toNat default:=by rw[qX,hat]
 rw[hat] at hk hcd;rw[hE];rw[hcl] at hcd ⊢
 generalize s.cols[i]=c at hk hcd ⊢
 refine sIr qP3 fun e _ hst=>?_;unfold JM;refine sW ?_;simp only[tZ,↓un_u,simprocAttr,AY,Ak];refine⟨fun h1=>?_,fun h1=>⟨fun h2=>?_,fun h2=>?_⟩⟩
 ·rw[Aj h1,show inB v 1 1048575=(decide (1≤v)&&decide (v≤1048575)) from rfl];exact .oA [] []
 ·obtain⟨d1,d2⟩:=hcd h2;obtain⟨d3,d4⟩:=hk.2.2.2.1 h2;have hgl:s.lists.getD c.list.toNat default=s.lists[c.list.toNat]:=qk d1;rw[Aq h1,Aj h2];rw[hgl] at d2 ⊢
  obtain⟨_,d5,d6⟩:=zq d2;simp only[tZ,↓un_u,simprocAttr,qd d1];generalize s.lists[c.list.toNat]=l at d2 d5 d6 ⊢
  have hCF:=Jm (fun x=>x.par==v) 215 [.ip [vI v]] rfl l.codes (fun x _=>qK9 x v) oM;refine⟨oM,?_⟩;refine C2.lend [4104] (fun _=>hCF) (fun _=>?_) rF rF ?_
  ·all_goals (try simp only[tL,simprocAttr,By,List.map_cons,List.map_nil,BW,Cy])
   all_goals (try (repeat' (first | exact qY | (apply zf;intro _;exact⟨rfl,rfl⟩) | (apply qj;intro _;exact⟨rfl,rfl⟩) | with_reducible apply qS | with_reducible refine qz ⟨rfl,rfl⟩ ?_ | exact qK | with_reducible apply qR | with_reducible refine qT ⟨rfl,rfl,?_⟩ ?_ | with_reducible apply Az | exact qO rfl | exact qO (by assumption) | (refine⟨⟨?_,rfl,?_,rfl,?_⟩,trivial⟩ <;> first | (simp;done) | (apply qj;intro _;exact⟨rfl,rfl⟩)) | trivial | rfl | (rw[qh oM]) | omega)))
   simp only[ltP];exact⟨rfl,by decide,rfl,qz ⟨rfl,rfl⟩ qK⟩
  refine sW ?_;rw[← je5 d2 v];exact .oA [] []
 ·rw[Aq h1,Aq h2,Bool.or_comm,show inB v c.low c.high=(decide (c.low≤v)&&decide (v≤c.high)) from rfl];rw[show (c.opt&&v==zt)=(c.opt&&v == -1099511627776) from rfl];exact .oA [] []
theorem qA7 (l:List Int) (m:Int) (hm:m∈l) (hle:∀ x∈l,x≤m) (hl:l.length<4611686018427387904):Sp 262 [vIs l] [] (vI m) []:=by
 have h0:0<l.length:=List.length_pos_of_mem hm;have e0:decide ((l.length:Int)<1)=false:=Cq oM;refine sIr qt9 fun e _ hst=>?_;unfold yY;simp only[tZ,↓un_u,simprocAttr,e0,qd h0];refine⟨oM,?_⟩;refine qy mixm (α:=Nat×Int) [3,4] (fun q=>1≤q.1∧q.1≤l.length∧q.2∈l∧∀ x∈l.take q.1,x≤q.2) (fun q=>[(3,vI q.2),(4,vI q.1)]) (fun q=>[]) (fun q=>l.length-q.1) (1,l[0]) ⟨sMp,by dsimp only;omega,AX h0,fun x hx=>by
  rw[show l.take 1=[l[0]] by cases l with | nil=>simp at h0 | cons a r=>rfl,EZ] at hx;rw[hx];exact Int.le_refl _⟩ ?_ fun q hq=>?_
 ·exact .oA [] []
 obtain⟨i,v⟩:=q;obtain⟨i0,i1,i2,i3⟩:=hq;dsimp only at i0 i1 i2 i3;refine sD ?_;refine⟨fun h2=>?_,fun h2=>?_⟩
 ·have hi2:i<l.length:=by omega
  have hwi:=qh (i:=i) oM;simp only[tZ,↓un_u,simprocAttr,Ax,qd hi2,hwi];refine⟨oM,(i+1,maxI v l[i]),⟨by dsimp only;omega,by dsimp only;omega,?_,fun x hx=>?_⟩,by dsimp only;omega,?_⟩
  ·dsimp only[maxI];split
   ·exact AX hi2
   ·exact i2
  ·dsimp only at hx;dsimp only[maxI];rw[qZ hi2] at hx;rcases Dz.1 hx with k | k
   ·have:=i3 x k;split <;> omega
   ·rw[EZ.1 k];split <;> omega
  ·exact .oA [] []
 ·have hv:v=m:=by
   have h5:=hle v i2;have h6:=i3 m (by rw[List.take_of_length_le oM];exact hm);omega
  rw[hv];exact .oA [] []
theorem Kc (l:CodL):Sp 235 [cdlT l] [] (vI (zA l)) []:=by
 refine sIr qJ1 fun e _ hst=>?_;unfold ZM;refine sW ?_;refine C1.im (Zk l) rF rF ?_;simp only[tZ,↓un_u,simprocAttr,Bj,Aw];refine⟨fun h=>?_,fun h=>?_⟩
 ·rw[zA,Aj h];exact .oA [] []
 obtain⟨hp,h1,h2⟩:=zq h;have hdl:=qa8 l.codes;have hL:zA l=(dep l.codes (l.codes.length-1):Int)+1:=by rw[zA,Aq (by rw[h];simp)]
 have hd:=qx1 hp (l.codes.length-1) oM;have hM:=qA7 (depL l.codes) (dep l.codes (l.codes.length-1)) (Cj.2 ⟨l.codes.length-1,Dk.2 oM,rfl⟩) (fun x hx=>by
  obtain⟨c,hc,rfl⟩:=Cj.1 hx;have:=(zw3 h (Dk.1 hc)).1;omega) oM
 have hw:=qh (i:=dep l.codes (l.codes.length-1)) oM;refine C1.im (wm l (qp0 h)) rF rF ?_;refine sW ?_;refine C1.im hM rF rF ?_;simp only[tZ,↓un_u,simprocAttr,hw];rw[hL];exact .oA [] []
def hasB (l:CodL) (c:Int):Bool:=decide (0≤c)&&decide (c<l.codes.length)&&(lstE l==0)
theorem qi0 (l:CodL) (c:Int):Sp 216 [cdlT l,vI c] [] (vB (hasB l c)) []:=by
 refine sIr zn3 fun e _ hst=>?_;unfold YI;refine sW ?_;refine C2.im (fun _=>Zk l) (fun _=>rfl) rF ?_;refine sW ?_;rw[show hasB l c=(decide (0≤c)&&decide (c<l.codes.length)&&(lstE l==0)) from rfl];exact .oA [] []
theorem qp1 {l:CodL} {c:Int}:hasB l c=true↔0≤c∧c<l.codes.length∧lstE l=0:=by
 unfold hasB;rw[Bq,Bq,AZ,AZ,AY,and_assoc]
theorem zc3 {cs:List Cod} {c:Nat} (h:c<(depL cs).length):(depL cs)[c]=dep cs c:=by simp [depL]
theorem qu9 (l:CodL) (lev:Int):Sp 234 [cdlT l,vI lev] [] (vIs (atL l lev)) []:=by
 refine sIr zv8 fun e _ hst=>?_;unfold qh1;refine sW ?_;refine C1.im (Zk l) rF rF ?_;simp only[tZ,↓un_u,simprocAttr,Bj,Aw];refine⟨fun h=>?_,fun h=>?_⟩
 ·rw[atL,Aj h];exact .oA [] []
 obtain⟨hp,h1,h2⟩:=zq h;have e:atL l lev=atN l.codes lev l.codes.length:=by rw[atL,Aq (by rw[h];simp)];rfl
 rw[e];have hdl:=qa8 l.codes;refine C1.im (wm l (qp0 h)) rF rF ?_;refine sW ?_;refine qy mixm (α:=Nat) [5,14] (fun i=>i≤l.codes.length) (fun i=>[(5,.asl 1 (atN l.codes lev i).length),(14,vI i)]) (fun i=>[aR 1 1 ((atN l.codes lev i).map vI)]) (fun i=>l.codes.length-i) 0 oM ?_ fun i hi=>?_
 ·simp only[atN,List.range_zero,List.filter_nil,List.map_nil,Cw];exact .oA [(1,none)] []
 have hli:=jB6 l.codes lev i;refine sD ?_;refine⟨fun h3=>?_,fun h3=>?_⟩
 ·have hi2:i<(depL l.codes).length:=by omega
  have hwi:=qh (i:=i) oM;have hs:=jn2 l.codes lev i;simp only[tZ,↓un_u,simprocAttr,Ax,qd hi2,zc3 hi2,AY,Ak,hwi];refine⟨oM,fun h4=>?_,fun h4=>?_⟩
  ·rw[Aj h4] at hs;refine⟨oM,i+1,oM,oM,?_⟩;rw[hs];exact .oA (U1 1) []
  ·rw[Aq h4,CW] at hs;refine⟨i+1,oM,oM,?_⟩;rw[hs];exact .oA (U1 1) []
 ·have hil:i=l.codes.length:=by omega
  subst hil;exact .oA [] [1]
theorem qa9 (l:CodL) (c lev:Int):Sp 162 [cdlT l,vI c,vI lev] [] (vI (upC l c lev)) []:=by
 refine sIr zv5 fun e _ hst=>?_;unfold qg5;refine sW ?_;refine C1.im (qi0 l c) rF rF ?_;simp only[tZ,↓un_u,simprocAttr,tD,Bx,Bz];refine⟨fun h=>?_,fun h=>?_⟩
 ·have:upC l c lev = -1:=by
   rw[upC];by_cases k:lstE l≠0∨c<0∨c≥l.codes.length∨lev<0∨lev>dep l.codes c.toNat
   ·rw[Aj k]
   ·rcases h with h | h
    ·have:=qp1 (l:=l) (c:=c);rw[h] at this;exact absurd (this.2 ⟨oM,oM,AQ fun q=>k (.inl q)⟩) sMp
    ·omega
  rw[this];exact .oA [] []
 obtain⟨h0,h1,h2⟩:=qp1.1 h.1;obtain⟨hp,h3,h4⟩:=zq h2;obtain⟨k,rfl⟩:=AJ h0;obtain⟨v,rfl⟩:=AJ (show 0≤lev by omega);have hdl:=qa8 l.codes;have hk:k<(depL l.codes).length:=by omega
 have hdk:=qx1 hp k oM;refine C1.im (wm l (qp0 h2)) rF rF ?_;simp only[tZ,↓un_u,simprocAttr,Ax,qd hk,zc3 hk];refine⟨oM,?_⟩;by_cases hlv:dep l.codes k<v
 ·have hU:upC l k v = -1:=by rw[upC,Aj (by simp;omega)]
  rw[hU];refine qy mixm (α:=Unit) [1,7] (fun _=>True) (fun _=>[(1,vI k),(7,vI (dep l.codes k))]) (fun _=>[aR 4096 2 [cdlT l]]) (fun _=>0) () trivial ?_ fun _ _=>?_
  ·exact .oA (U1 4096) []
  have e0:decide ((dep l.codes k:Int)≥(v:Int))=false:=Cq oM;have e1:decide ((v:Int)≤(dep l.codes k:Int))=false:=Cq oM;simp only[tZ,↓un_u,simprocAttr,e0,e1];exact .oA [] []
 have hU:upC l k v=upF l.codes v (k+1) k:=by rw[upC,Aq (by simp;omega),Ax,Ax]
 rw[hU];refine qy mixm (α:=Nat) [1,7] (fun x=>x<l.codes.length∧v≤dep l.codes x∧upF l.codes v (k+1) k=upF l.codes v (x+1) x) (fun x=>[(1,vI x),(7,vI (dep l.codes x))]) (fun x=>[aR 4096 2 [cdlT l]]) (fun x=>x) k ⟨oM,oM,rfl⟩ ?_ fun x hx=>?_
 ·exact .oA (U1 4096) []
 obtain⟨x1,x2,x3⟩:=hx;have hcd:l.codes[x].par=parC l.codes x:=by rw[parC,cdAt,qk x1]
 have e0:decide ((dep l.codes x:Int)≥(v:Int))=true:=Cx oM;have e1:decide ((v:Int)≤(dep l.codes x:Int))=true:=Cx oM;have hdx:=qx1 hp x x1;simp only[tZ,↓un_u,simprocAttr,e0,e1,Ax,qd x1,hcd,AY,Ak];refine⟨fun h6=>?_,fun h6=>?_⟩
 ·rw[x3,zH0 oM];exact .oA [] []
 ·obtain⟨u1,u2,u3,u4⟩:=up_step hp (lev:=v) x1 oM;obtain⟨p,hpe⟩:=AJ u1;have hw:IntKind.i64.wrap ((dep l.codes x:Int)-1)=(dep l.codes p:Int):=by
   rw[AK _ oM,u3,hpe,Ax];omega
  rw[hpe,Ax] at u4 u3;simp only[tZ,↓un_u,simprocAttr,hpe,hw];refine⟨oM,p,⟨oM,oM,x3.trans u4⟩,oM,?_⟩;exact .oA (U1 4096) []
theorem zc4 (l:CodL) (c a:Int):Sp 249 [cdlT l,vI c,vI a] [] (vB (YL l c a)) []:=by
 refine sIr qQ7 fun e _ hst=>?_;unfold JV;refine sW ?_;refine C1.im (qi0 l c) rF rF ?_;refine sW ?_;refine C2.im (fun _=>qi0 l a) (fun _=>rfl) rF ?_;simp only[tZ,↓un_u,simprocAttr,DZ,FQ,Bx,Bz];refine⟨fun h=>?_,fun h=>?_⟩
 ·have:YL l c a=false:=by
   cases e:YL l c a with
   | false=>rfl
   | true=>
     unfold YL at e;simp only[Bq,AZ,AY] at e;obtain⟨⟨e1,e2⟩,e3⟩:=e;have key:∀ x,0≤lvlC l x→hasB l x=true:=fun x hx=>by
      rw[qp1];unfold lvlC at hx;split at hx
      ·omega
      ·rename_i q;exact⟨oM,oM,AQ fun z=>q (.inl z)⟩
     have ha:=key a e1;have hc:=key c oM;rcases h with h | h
     ·rw[hc] at h;cases h
     ·rw[ha] at h;cases h
  rw[this];exact .oA [] []
 obtain⟨c0,c1,c2⟩:=qp1.1 h.1;obtain⟨a0,a1,_⟩:=qp1.1 h.2;obtain⟨hp,h3,h4⟩:=zq c2;obtain⟨k,rfl⟩:=AJ c0;obtain⟨j,rfl⟩:=AJ a0;have hdl:=qa8 l.codes;have hj:j<(depL l.codes).length:=by omega
 have hdk:=qx1 hp k oM;have hdj:=qx1 hp j oM;have l1:lvlC l j=dep l.codes j:=by rw[lvlC,Aq (by rw[c2];simp;omega),Ax]
 have l2:lvlC l k=dep l.codes k:=by rw[lvlC,Aq (by rw[c2];simp;omega),Ax]
 have hU:YL l k j=(upC l k (dep l.codes j)==(j:Int)):=by
  unfold YL;rw[l1,l2,Cx oM,Fj];by_cases q:(dep l.codes j:Int)≤dep l.codes k
  ·rw[Cx q,Fj]
  ·rw[Cq q,Bool.false_and,upC,Aj (by simp;omega)]
   symm
   exact Ak.2 oM
 rw[hU];refine C1.im (wm l (qp0 c2)) rF rF ?_;simp only[tZ,↓un_u,simprocAttr,Ax,qd hj,zc3 hj];refine⟨oM,?_⟩;refine C1.im (qa9 l k (dep l.codes j)) rF rF ?_;refine sW ?_
 repeat (first | refine⟨oM,?_⟩ | refine⟨kR,?_⟩)
 exact .oA [] []
theorem zw4 {n w:Int} (hw:0<w):qQ n w*w=n-(if n.tmod w<0 then n.tmod w+w else n.tmod w):=by
 have h1:=Int.mul_tdiv_add_tmod n w;rw[Int.mul_comm] at h1;rw[zH1 hw];split
 ·rw[Int.sub_mul];omega
 ·omega
theorem Wu (n w:Int) (hw:0<w∧w≤1000000) (hn : -4611686018427387904<n∧n<4611686018427387904):Sp 163 [vI n,vI w] [] (vI (qQ n w*w)) []:=by
 rw[zw4 hw.1];have h2:=Int.tmod_lt_of_pos n hw.1;have h3:=Int.lt_tmod_of_pos n hw.1;have w1:IntKind.i64.wrap (n.tmod w)=n.tmod w:=AK _ oM;have w2:IntKind.i64.wrap (n.tmod w+w)=n.tmod w+w:=AK _ oM;have w3:IntKind.i64.wrap (n-n.tmod w)=n-n.tmod w:=AK _ oM;have w4:IntKind.i64.wrap (n-(n.tmod w+w))=n-(n.tmod w+w):=AK _ oM;refine sIr qP5 fun e _ hst=>?_;unfold JN;simp only[tZ,↓un_u,simprocAttr,w1,w2,w3,w4,tD];refine⟨oM,fun h=>?_,fun h=>?_⟩
 ·rw[Aj h];exact .oA [] []
 ·rw[Aq h];exact .oA [] []
theorem qe0 (c:Col) (lev:Int) (h1:1≤lev∧lev≤c.widths.length) (h2:c.widths.length<4611686018427387904):Sp 164 [colT c,vI lev] [] (vI (qU c lev)) []:=by
 have hw:IntKind.i64.wrap ((c.widths.length:Int)-lev)=(c.widths.length:Int)-lev:=AK _ oM;have hk:((c.widths.length:Int)-lev).toNat<c.widths.length:=by omega
 refine sIr qI1 fun e _ hst=>?_;unfold ZE;simp only[tZ,↓un_u,simprocAttr,hw,qd hk];rw[qU,qk hk];refine⟨oM,?_⟩;exact .oA [] []
theorem ZY (s:Sch) (hE:schE s=0) (c:Int):Sp 190 [schT s,vI c] [] (vI (finI s c)) []:=by
 have hok:=zc hE;have hnc:=hok.nc;refine sIr qz3 fun e _ hst=>?_;unfold QH;refine sD ?_;refine⟨fun h=>?_,fun h=>?_⟩
 ·rw[finI,Aj oM];exact .oA [] []
 obtain⟨i,rfl⟩:=AJ (show 0≤c by omega);have hi:i<s.cols.length:=by omega
 have hat:qg s i=s.cols[i]:=by rw[qg,qk hi]
 have hk:=zo (hok.cs i hi);have hcd:=fun e=>hok.cdl hi e;have hcl:qX s i=s.lists.getD s.cols[i].list.toNat default:=by rw[qX,hat]
 rw[hat] at hk hcd;rw[hcl] at hcd;rw[finI,Aq oM,Ax,hcl,hat];simp only[tZ,↓un_u,simprocAttr,Ax,qd hi];generalize s.cols[i]=x at hk hcd ⊢
 simp only[tZ,↓un_u,simprocAttr,AY,Ak];refine⟨oM,fun h2=>?_,fun h2=>?_⟩
 ·obtain⟨d1,d2⟩:=hcd h2;obtain⟨d3,d4⟩:=hk.2.2.2.1 h2;have hgl:s.lists.getD x.list.toNat default=s.lists[x.list.toNat]:=qk d1;rw[Aj h2];rw[hgl] at d2 ⊢
  simp only[tZ,↓un_u,simprocAttr,qd d1];generalize s.lists[x.list.toNat]=l at d2 ⊢
  have hlv:=qu1 (l:=l);have hw2:IntKind.i64.wrap (zA l-1)=zA l-1:=AK _ oM;refine⟨oM,?_⟩;refine C1.im (Kc l) rF rF ?_;simp only[tZ,↓un_u,simprocAttr,hw2];exact .oA [] []
 ·rw[Aq h2];exact .oA [] []
theorem yq (s:Sch) (hs:yZ s) (c:Int):Sp 136 [schT s,vI c] [] (vI (finI s c)) []:=by
 refine sIr qy7 fun e _ hst=>?_;unfold QC;refine sW ?_;refine C1.im (jX s hs.2.1 hs.1) rF rF ?_;simp only[tZ,↓un_u,simprocAttr,Bj,Aw];refine⟨fun h=>?_,fun h=>?_⟩
 ·rw[finI,Aj (.inl h)];exact .oA [] []
 refine C1.im (ZY s h c) rF rF ?_;refine sW ?_;exact .oA [] []
theorem ZZ (s:Sch) (hs:yZ s) (c lev v:Int):Sp 95 [schT s,vI c,vI lev,vI v] [] (vI (qt s c lev v)) []:=by
 refine sIr qy5 fun e _ hst=>?_;unfold QB;refine sW ?_;refine C1.im (yq s hs c) rF rF ?_;refine sD ?_;refine⟨fun h=>?_,fun h=>?_⟩
 ·rw[qt,Aj (qK0.2 oM)];exact .oA [] []
 obtain⟨hE,c1,c2,hfin⟩:=ZT (s:=s) (c:=c) oM;have hok:=zc hE;obtain⟨i,rfl⟩:=AJ (show 0≤c by omega);rw[Ax] at hfin;have hi:i<s.cols.length:=by omega
 have hat:qg s i=s.cols[i]:=by rw[qg,qk hi]
 have hk:=zo (hok.cs i hi);have hcd:=fun e=>hok.cdl hi e;have hwd:=fun e l=>hok.wid hi oM e (lev:=l);have hcl:qX s i=s.lists.getD s.cols[i].list.toNat default:=by rw[qX,hat]
 have hE2:qt s i lev v=if s.cols[i].kind=2 then (if qV s i v=false then -1 else upC (qX s i) v lev)
  else if v≠zt∧inB v (-1000000) 1000000=false then -1
  else if lev=0 then 0 else if v=zt then v else qQ v (qU s.cols[i] lev)*qU s.cols[i] lev:=by
  rw[qt,Aq (by rw[Ez,Qr];omega),Ax,hat]
 rw[hE2];rw[hat] at hk hcd hwd hfin;rw[hcl] at hcd ⊢
 simp only[tZ,↓un_u,simprocAttr,Ax,qd hi];have hho:=zc2 s hok i hi v;generalize s.cols[i]=x at hk hcd hwd hfin hho ⊢
 refine⟨oM,?_⟩;refine C2.im (fun _=>hho) (fun _=>rfl) rF ?_;simp only[tZ,↓un_u,simprocAttr,tD,Bj,Aw,Bx,Bz,AY,Ak];rw[show (-1099511627776:Int)=zt from rfl];refine⟨fun h3=>?_,fun h3=>⟨fun h2=>?_,fun h2=>?_⟩⟩
 ·rw[Aj h3.1,Aj h3.2];exact .oA [] []
 ·rw[Aj h2];obtain⟨d1,d2⟩:=hcd h2;obtain⟨d3,d4⟩:=hk.2.2.2.1 h2;have hgl:s.lists.getD x.list.toNat default=s.lists[x.list.toNat]:=qk d1;rw[hgl] at d2 ⊢
  rw[Aq (by grind)];simp only[tZ,↓un_u,simprocAttr,qd d1];generalize s.lists[x.list.toNat]=l at d2 ⊢
  refine⟨oM,?_⟩;refine C1.im (qa9 l v lev) rF rF ?_;refine sW ?_;exact .oA [] []
 rw[Aq h2];rw[Aq h2] at hfin;refine⟨fun h3=>?_,fun h3=>?_⟩
 ·rw[Aj ⟨oM,qK0.2 oM⟩];exact .oA [] []
 rw[Aq (by rw[qK0];omega)];refine⟨fun h4=>?_,fun h4=>?_⟩
 ·rw[Aj h4];exact .oA [] []
 rw[Aq h4];refine⟨fun h5=>?_,fun h5=>?_⟩
 ·rw[Aj h5,h5];exact .oA [] []
 rw[Aq h5];obtain⟨w1,w2,w3,w4,_⟩:=hwd h2 lev oM;refine C1.im (qe0 x lev oM oM) rF rF ?_;refine sW ?_;refine C1.im (Wu v (qU x lev) oM oM) rF rF ?_;refine sW ?_;exact .oA [] []
theorem qp2 (s:Sch) (hE:schE s=0) (p:Pk):Sp 127 [schT s,pkT p] [] (vI (Qq s p)) []:=by
 have hP:Qq s p=if finI s p.col<0 then 7 else if inB p.lev 0 (finI s p.col)=false then 8 else 0:=by
  rw[Qq,Aq (by rw[hE];simp)];by_cases h:p.col<1∨p.col≥s.cols.length
  ·rw[Aj h,Aj (by rw[finI,Aj oM];omega)]
  ·rw[Aq h];have:0≤finI s p.col:=by
    rw[finI,Aq oM];split
    ·rename_i h2;have hok:=zc hE;obtain⟨_,d2⟩:=hok.cdl (i:=p.col.toNat) oM h2;rw[zA,Aq (by rw[d2];simp)];omega
    ·omega
   rw[Aq (show ¬ finI s p.col<0 by omega)]
 rw[hP];refine sIr qO0 fun e _ hst=>?_;unfold JE;refine sW ?_;refine C1.im (ZY s hE p.col) rF rF ?_;refine sD ?_;refine⟨fun h=>?_,fun h=>⟨fun h2=>?_,fun h2=>?_⟩⟩
 ·rw[Aj h];exact .oA [] []
 ·rw[Aq h,Aj (qK0.2 oM)];exact .oA [] []
 ·rw[Aq h,Aq (by rw[qK0];omega)];exact .oA [] []
theorem zc5 (s:Sch) (hs:yZ s) (p:Pk):Sp 242 [schT s,pkT p] [] (vI (Qq s p)) []:=by
 refine sIr qQ5 fun e _ hst=>?_;unfold JU;refine sW ?_;refine C1.im (jX s hs.2.1 hs.1) rF rF ?_;simp only[tZ,↓un_u,simprocAttr,Bj,Aw];refine⟨fun h=>?_,fun h=>?_⟩
 ·rw[Qq,Aj h];exact .oA [] []
 refine C1.im (qp2 s h p) rF rF ?_;refine sW ?_;exact .oA [] []
theorem qR1 (s:Sch) (hs:yZ s) (l:List Pk) (hl:l.length<4611686018427387904):Sp 64 [schT s,vPs l] [] (vI (qn9 s l)) []:=by
 refine sIr qH3 fun e _ hst=>?_;unfold Zy;refine sW ?_;refine C1.im (jX s hs.2.1 hs.1) rF rF ?_;simp only[tZ,↓un_u,simprocAttr,Bj,Aw];refine⟨fun h=>?_,fun hE=>?_⟩
 ·rw[qn9,Aj h];exact .oA [] []
 rw[qn9,Aq (by rw[hE];simp)];refine qy mixm (α:=Nat) [16] (fun i=>i≤l.length∧(jb (zo3 s l) i=0)) (fun i=>[(16,vI i)]) (fun i=>[aR 4096 2 [schT s]]) (fun i=>l.length-i) 0 ⟨oM,?_⟩ ?_ fun i hi=>?_
 ·rfl
 ·exact .oA (U1 4096) []
 simp only[tZ,↓un_u,simprocAttr,AZ,Ay];refine⟨fun h=>?_,fun h=>?_⟩
 ·have hi2:i<l.length:=by omega
  have hpi:pkAt l i=l[i]:=by rw[pkAt,qk hi2]
  have hstep:=Zp hi.2 hi2;have hnext:=kK hi.2;have hA:zo3 s l i=if Qq s l[i]≠0 then Qq s l[i] else if 0<i∧l[i].col≤(pkAt l (i-1)).col then 10 else 0:=by rw[zo3,hpi]
  have hi2:i<l.length:=by omega
  have hwi:=qh (i:=i) oM;simp only[tZ,↓un_u,simprocAttr,Ax,qd hi2,hwi];refine⟨oM,?_⟩;refine C1.im (qp2 s hE l[i]) rF rF ?_;simp only[tZ,↓un_u,simprocAttr,Bj,Aw];refine⟨fun h3=>?_,fun h3=>?_⟩
  ·rw[Aj h3] at hA;rw[hstep (by rw[hA];exact h3),hA];exact .oA [] []
  rw[Aq (by rw[h3];simp)] at hA;rcases DQ i with h0 | h0
  ·subst h0;rw[Aq oM] at hA;have hz:((0:Nat):Int)=0:=rfl;have hz2:(IntKind.i64.wrap (-1)).toNat=0:=by decide
   have hz3:=qh (i:=0) oM;rw[hz] at hz3;simp only[tZ,↓un_u,simprocAttr,Ax,hz,beq_self_eq_true,gt_iff_lt,Int.lt_irrefl,Fj,hz2,qd hi2,hz3];refine⟨kR,1,⟨oM,by rw[hnext,hA]⟩,oM,?_⟩;exact .oA (U1 4096) []
  ·obtain⟨k,rfl⟩:∃ k,i=k+1:=⟨i-1,oM⟩;have hk3:k<l.length:=by omega
   have e2:decide (((k+1:Nat):Int)>0)=true:=Cx oM;have e3:=wV (i:=k+1) oM oM;rw[Nat.add_sub_cancel] at e3 hA;rw[pkAt,qk hk3] at hA;simp only[tZ,↓un_u,simprocAttr,Ax,qd hi2,qd hk3,e2,e3,hwi,tD];refine⟨oM,kR,fun h4=>?_,fun h4=>?_⟩
   ·rw[Aj ⟨oM,h4⟩] at hA;rw[hstep (by rw[hA];simp),hA];exact .oA [] []
   ·rw[Aq oM] at hA;refine⟨k+2,⟨oM,by rw[hnext,hA]⟩,oM,?_⟩;exact .oA (U1 4096) []
 ·have hi2:i=l.length:=by omega
  subst hi2;rw[hi.2];exact .oA [] []
theorem zH7 (a b:Int):maxI a b=max a b:=by unfold maxI;split <;> omega
theorem jw9 (a b:Int):minI a b=min a b:=by unfold minI;split <;> omega
end Go.Proofs
