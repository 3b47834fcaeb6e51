/- A part of the proof: trees of Go values, short forms, contracts. -/
import Derived.Test.YtomoecbcgacncaaGreatDoorK17
namespace Go.Proofs
open Go Go.TL
set_option maxRecDepth 4000
set_option maxHeartbeats 8000000
open So
theorem zA2 (k:UInt8):IntKind.i64.wrap (0+IntKind.i64.wrap ((k.toNat:Nat):Int))=(k.toNat:Int):=by
 have h:=k.toNat_lt;rw[AK (k.toNat:Int) oM,AK _ oM];omega
def L8 (n:Nat):Nat:=if n=0 then 0 else Nat.log2 n+1
theorem zS6 (n:Nat) (h:n<256):L8 n≤8∧n<2 ^ L8 n∧(0<n→2 ^ L8 n≤2*n):=by
 unfold L8
 revert n
 decide +kernel
def L16 (n:Nat):Nat:=if n<256 then L8 n else 8+L8 (n / 256)
theorem zS7 (n:Nat) (h:n<65536):L16 n≤16∧n<2 ^ L16 n∧(0<n→2 ^ L16 n≤2*n):=by
 unfold L16;split
 ·rename_i h2;obtain⟨h3,h4,h5⟩:=zS6 n h2;exact⟨oM,h4,h5⟩
 ·rename_i h2;obtain⟨h3,h4,h5⟩:=zS6 (n / 256) oM;rw[Nat.pow_add];have h6:=h5 oM;generalize 2 ^ L8 (n / 256)=p at *
  refine⟨oM,?_,fun _=>?_⟩ <;> omega
set_option maxRecDepth 100000 in
theorem Wz (n:Nat) (h:n<65536):Sp 81 [vU64 n] [] (vI (L16 n)) []:=by
 have d1:decide ((n:Int)≥4294967296)=false:=Cq oM;have d2:decide ((n:Int)≥65536)=false:=Cq oM;by_cases h8:n<256
 ·have d3:decide ((n:Int)≥256)=false:=Cq oM;have hw:IntKind.u8.wrap (n:Int)=n:=by rw[IntKind.wrap_u8];omega
  rw[L16,Aj h8];refine sIr Qf fun e _ hst=>?_;unfold jA;simp only[tZ,↓uU,simprocAttr,d1,d2,d3,hw,Ax,zA2];refine⟨⟨oM,Int.ofNat_lt.2 h8⟩,.imR (congrArg (fun k:Nat=>vI (k:Int)) ?_) rfl⟩;clear d1 d2 d3 hw h;unfold L8
  revert n
  decide +kernel
 ·have d3:decide ((n:Int)≥256)=true:=Cx oM;have hs:shrI .u64 (n:Int) 8=((n / 256:Nat):Int):=by
   simp only[shrI];rw[show min (8:Int).toNat IntKind.u64.bits=8 from rfl,show (2:Int) ^ 8=256 from rfl,DK _ oM];omega
  have hw:IntKind.u8.wrap ((n / 256:Nat):Int)=((n / 256:Nat):Int):=by rw[IntKind.wrap_u8];omega
  have hw2:IntKind.i64.wrap (0+8)=8:=by decide
  rw[L16,Aq h8];refine sIr Qf fun e _ hst=>?_;unfold jA;simp only[tZ,↓uU,simprocAttr,d1,d2,d3,hs,hw,hw2,Ax];have hm:n / 256<256:=by omega
  refine⟨⟨oM,Int.ofNat_lt.2 hm⟩,.imR (congrArg vI ?_) rfl⟩;clear d1 d2 d3 hw hw2 hs h h8 hst;generalize n / 256=m at *
  unfold L8
  revert m
  decide +kernel
theorem yR (n:Nat) (h:n<65536):∃ l:Nat,(l≤16∧n<2 ^ l∧(0<n→2 ^ l≤2*n))∧Sp 51 [vU64 n] [] (vI l) []:=by
 have hs:=Wz n h;refine⟨L16 n,zS7 n h,?_⟩;refine sIr Yc fun e _ hst=>?_;unfold wN;refine sW ?_;refine C1.im hs rF rF ?_;refine sW ?_;exact .imR rfl rfl
theorem Zo (n:Nat) (h0:0<n) (h:n<65536):∃ p:Nat,(0<p∧p≤2*n)∧Sp 101 [vI n] [] (vU64 p) []:=by
 obtain⟨l,hl,hs⟩:=yR n h;refine⟨2 ^ l,⟨Nat.pow_pos oM,hl.2.2 h0⟩,?_⟩;have hw:IntKind.u64.wrap (n:Int)=n:=by rw[IntKind.wrap_u64];omega
 refine sIr QK fun e _ hst=>?_;unfold ji;simp only[tZ,↓uU,simprocAttr,hw];refine C1.im hs rF rF ?_;refine sW ?_;have h2:shlI .u64 1 (l:Int)=((2 ^ l:Nat):Int):=by
  obtain⟨h1,_,_⟩:=hl;have:∀ l:Nat,l≤16→shlI .u64 1 (l:Int)=((2 ^ l:Nat):Int):=by decide
  exact this l h1
 rw[h2];exact⟨oM,.imR rfl rfl⟩
def xs1 (v:Int):Int:=xorI .u64 v (shlI .u64 v 13)
def xs2 (v:Int):Int:=xorI .u64 v (shrI .u64 v 7)
def xs3 (v:Int):Int:=xorI .u64 v (shlI .u64 v 17)
theorem Zz (v:Int):Sp 102 [.ptr 0 1 0 0] [aR 0 1 [vU64 v]] (vU64 (xs3 (xs2 (xs1 v)))) [aR 0 1 [vU64 (xs3 (xs2 (xs1 v)))]]:=by
 simp only[xs1,xs2,xs3];refine sIr Zi fun e _ hst=>?_;unfold jm;refine sW ?_;refine⟨kR,kR,kR,?_⟩;exact .oA (U1 0) []
theorem zH6 (w:Int) {m:Int} (h0:0≤m) (h:m<18446744073709551616):0≤andI .u64 w m∧andI .u64 w m≤m:=by
 unfold andI;have h1:(BitVec.ofInt IntKind.u64.bits w &&& BitVec.ofInt IntKind.u64.bits m).toNat≤m.toNat:=by
  rw[BitVec.toNat_and];refine FZ Nat.and_le_right ?_;rw[show IntKind.u64.bits=64 from rfl,BitVec.toNat_ofInt];omega
 generalize (BitVec.ofInt IntKind.u64.bits w &&& BitVec.ofInt IntKind.u64.bits m).toNat=x at *
 rw[IntKind.wrap_u64];omega
theorem _root_.Go.TL.C1.upd2 {P:Program} {e:Env} {kss:List (Nat×List Nat)} {Q:Ex→St→Prop} {K:List KF} {rows:Option (List Nat)} {ks:List Nat} {nid:Nat} {ops:List ROp} {F:XF} {acc:Acc} {st:Sto} {fid:FuncId} {xs caps ts':List T} {r:T} {d:Option Nat} (i1 k0 k1:Nat) (ys0 zs0 ys1 zs1:List T)
 (hs:Spc P fid ts' [(0,.arr k0 ys0 false),(1,.arr k1 ys1 false)] r [(0,.arr k0 zs0 false),(1,.arr k1 zs1 false)]) (hg:TL.get st 0=some (.arr k0 ys0 false)) (hg1:TL.get st i1=some (.arr k1 ys1 false)) (hne:¬ (0=i1))
 (m0:ImXs k0 ys0) (m1:ImXs k0 zs0) (m2:ImXs k1 ys1) (m3:ImXs k1 zs1) (ha:ltAs st [uI 0,(1,some i1)] [] (xs++caps) ts') (h2:Jr r=true)
 (h:R P e kss Q rows ks K nid ops (putX F d (.p r)) (stUp st [(0,.arr k0 zs0 false),(i1,.arr k1 zs1 false)]) (acc++[([]++[(0,Ob.arr k0 zs0 false),(i1,Ob.arr k1 zs1 false)].map (·.1),[(0,Ob.arr k0 zs0 false),(i1,Ob.arr k1 zs1 false)].map (·.1))])):C1 P e kss Q rows ks K (.clo fid caps) xs d nid ops F st acc:=by
 refine C1.of [uI 0,(1,some i1)] [uI 0,(i1,some 1)] [] [(0,.arr k0 zs0 false),(i1,.arr k1 zs1 false)] hs ha (by simp [ki,TL.get,hne]) ?_ rF (by simp [TL.get,hne]) ?_ (by simp [ki,TL.get,hne]) rF (wd h2) (.inl rF) h
 ·refine⟨?_,?_,trivial⟩
  ·simp only[TL.get,if_true,ltO2,hg,ltO1];exact⟨trivial,sMp,zt m0,sMp⟩
  ·show ltO1 st _ [] k1 _ false i1 (TL.get st i1);rw[hg1];exact⟨rfl,sMp,zt m2,sMp⟩
 ·refine⟨?_,?_,trivial⟩
  ·simp only[TL.get,if_true,wrO,ltO1];exact⟨⟨trivial,sMp,zt m1,sMp⟩,.inr ⟨trivial,rfl⟩⟩
  ·simp only[TL.get,if_true,wrO,ltO1,Aq hne];exact⟨⟨rfl,sMp,zt m3,sMp⟩,.inr ⟨rfl,rfl⟩⟩
def rnd (v:Int):Int:=xs3 (xs2 (xs1 v))
def oth (n p:Nat) (v:Int):Nat:=if n≤(andI .u64 v ((p:Int)-1)).toNat then (andI .u64 v ((p:Int)-1)).toNat-n else (andI .u64 v ((p:Int)-1)).toNat
theorem zH7 {n p:Nat} (h0:0<p) (h1:p≤2*n) (h2:n<65536) (v:Int):oth n p v<n:=by
 have:=zH6 v (m:=(p:Int)-1) oM oM;unfold oth;split <;> omega
def bk {α:Type} [Inhabited α] (a n p:Nat):Nat→Nat→Int→List α→List α
 | 0,_,_,xs=>xs
 | f+1,i,v,xs=>bk a n p f (i+1) (rnd v) (swp xs i (a+oth n p (rnd v)))
theorem zS8 {α:Type} [Inhabited α] {a b p:Nat} (h0:0<p) (h1:p≤2*(b-a)) (h2:b-a<65536):∀ (f i:Nat) (v:Int) (xs:List α),a≤i→i+f≤b→b≤xs.length→Sw a b xs (bk a (b-a) p f i v xs)
 | 0,_,_,xs,_,_,_=>.refl xs
 | f+1,i,v,xs,h3,h4,h5=>by
   have h6:=zH7 h0 h1 h2 (rnd v);have h7:Sw a b xs (swp xs i (a+oth (b-a) p (rnd v))):=Sw.one ⟨h3,oM⟩ ⟨oM,oM⟩ h5;exact h7.trans (zS8 h0 h1 h2 f (i+1) (rnd v) _ oM oM (by rw[h7.len];exact h5))
set_option maxHeartbeats 2000000
set_option maxHeartbeats 8000000
theorem Kj (l:List Int) (hl:l.length*8≤140737488355328):Sp 36 [vIs l] [] (.asl 0 l.length) [aR 0 1 (l.map vI)]:=by
 refine sIr yF fun e _ hst=>?_;unfold jk;refine sW ?_;refine⟨fun h=>?_,?_⟩
 ·have:l=[]:=by
   simpa using h
  subst this;exact .oA [(0,none)] []
 ·refine⟨oM,?_⟩;exact .oA [(0,some 16384)] []
theorem insF_len:∀ (l m:List Int),(l.foldl (insU ltI eqI2) m).length≤m.length+l.length
 | [],m=>by simp
 | x::l,m=>by
   rw[Dw,CJ];have h1:=insF_len l (insU ltI eqI2 m x);have h2:=qS8 (lt:=ltI) (eq:=eqI2) (l:=m) (v:=x);omega
theorem Kk (l:List Cod) (hl:l.length≤1000000):Sp 49 [.sl 2 (l.map codT)] [] (.sl 2 (l.map codT)) []:=by
 refine sIr Jx fun e _ hst=>?_;unfold jQ;refine sW ?_;refine⟨fun h=>?_,?_⟩
 ·have:l=[]:=by
   simpa using h
  subst this;exact .oA [] []
 ·refine⟨oM,?_⟩;exact .oA [] [16384]
theorem yS (l:List (List Int)) (hl:l.length≤1000000) (hr:∀ r∈l,r.length≤1000000):Sp 25 [vRw l] [] (.asl 0 l.length) [aR 0 1 (l.map vIs)]:=by
 refine sIr WX fun e _ hst=>?_;unfold wK;refine sW ?_;refine qy mixm (α:=Nat) [3,8] (fun i=>i≤l.length) (fun i=>[(3,.asl 1 (l.take i).length),(8,vI i)]) (fun i=>[aR 1 1 ((l.take i).map vIs)]) (fun i=>l.length-i) 0 oM ?_ fun i hi=>?_
 ·simp only[List.take_zero,Cw,List.map_nil];exact .oA [(1,none)] []
 have hsl:(l.take i).length=i:=by rw[Cz];omega
 refine sD ?_;refine⟨fun h2=>?_,fun h2=>?_⟩
 ·have hi2:i<l.length:=by omega
  have hwi:=qg (i:=i) oM;have hcl:=kW l[i] (by have:=hr _ (AX hi2);omega);have hs:=jd hi2;have hspl:=congrArg List.length hs;simp only[AW,CJ,Cw] at hspl;simp only[tZ,↓uU,simprocAttr,Ax,qd hi2];refine⟨oM,?_⟩;refine C1.im hcl rF rF ?_;simp only[tZ,↓uU,simprocAttr,hwi];refine⟨oM,i+1,oM,oM,?_⟩;rw[hs];exact .oA (U1 1) []
 ·have hil:i=l.length:=by omega
  subst hil;rw[Bw];exact .oA [(0,some 1)] []
theorem jS (s:Sch) (h:SchOk s):Sp 24 [schT s] [] (schT s) []:=by
 have hnl:=h.nl;have hnc:=h.nc;refine sIr ZS fun e _ hst=>?_;unfold jE;refine sW ?_;refine qy mixm (α:=Nat) [11] (fun i=>i≤s.lists.length) (fun i=>[(11,vI i)]) (fun i=>[aR 4096 2 [schT s],aR 4100 2 [.agg [.v (.slice none 0 0),.v (.slice none 0 0)]],aR 8192 2 [.agg [.asl 1 (s.lists.take i).length,.v (.slice none 0 0)]],aR 1 2 ((s.lists.take i).map cdlT)]) (fun i=>s.lists.length-i) 0 oM ?_ fun i hi=>?_
 ·simp only[List.take_zero,Cw,List.map_nil];exact .oA [uI 4096,uI 4100,uI 8192,(1,none)] []
 have hsl:(s.lists.take i).length=i:=by rw[Cz];omega
 refine sD ?_;refine⟨fun h2=>?_,fun h2=>?_⟩
 ·have hi2:i<s.lists.length:=by omega
  have hwi:=qg (i:=i) oM;have hEl:=h.ls i hi2;rw[show s.lists.getD i default=s.lists[i] from qt hi2] at hEl;have hcl:=Kk s.lists[i].codes (by have:=(kf hEl).2.2;omega);have hs:=jd hi2;have hspl:=congrArg List.length hs;simp only[AW,CJ,Cw] at hspl;simp only[tZ,↓uU,simprocAttr,Ax,qd hi2];refine⟨oM,?_⟩;refine C1.im hcl rF rF ?_;simp only[tZ,↓uU,simprocAttr,hwi];refine⟨oM,i+1,oM,oM,?_⟩;rw[hs];exact .oA (U4 4096 4100 8192 1) []
 ·have hil:i=s.lists.length:=by omega
  subst hil;rw[Bw];clear hsl;refine qy mixm (α:=Nat) [29] (fun i=>i≤s.cols.length) (fun i=>[(29,vI i)]) (fun i=>[aR 4100 2 [.agg [.v (.slice none 0 0),.v (.slice none 0 0)]],aR 8192 2 [.agg [.asl 1 s.lists.length,.asl 2 (s.cols.take i).length]],aR 1 2 (s.lists.map cdlT),aR 2 7 ((s.cols.take i).map colT)]) (fun i=>s.cols.length-i) 0 oM ?_ fun i hi=>?_
  ·simp only[List.take_zero,Cw,List.map_nil];exact .oA [uI 4100,uI 8192,uI 1,(2,none)] []
  have hsl:(s.cols.take i).length=i:=by rw[Cz];omega
  refine sD ?_;refine⟨fun h2=>?_,fun h2=>?_⟩
  ·have hi2:i<s.cols.length:=by omega
   have hwi:=qg (i:=i) oM;have hEc:=wI (h.cs i hi2);have hwd:s.cols[i].widths.length≤4:=by
    have hat:qA s i=s.cols[i]:=by rw[qA,qt hi2]
    have hE:=h.cs i hi2;rw[hat] at hEc;by_cases k3:s.cols[i].kind=3
    ·have hm:=hEc.2.2.2.2 k3;unfold measE at hm;split at hm
     ·cases hm
     ·split at hm
      ·cases hm
      ·omega
    ·unfold colE at hE;rw[hat] at hE
     repeat (split at hE;first | (exfalso;revert hE;decide) | (rename_i q;try (exact absurd hE q.2)))
     all_goals omega
   have hcl:=kW s.cols[i].widths oM;have hs:=jd hi2;have hspl:=congrArg List.length hs;simp only[AW,CJ,Cw] at hspl;simp only[tZ,↓uU,simprocAttr,Ax,qd hi2];refine⟨oM,?_⟩;refine C1.im hcl rF rF ?_;simp only[tZ,↓uU,simprocAttr,hwi];refine⟨oM,i+1,oM,oM,?_⟩;rw[hs];exact .oA (U4 4100 8192 1 2) []
  ·have hil:i=s.cols.length:=by omega
   subst hil;rw[Bw];exact .oA [] [1,2]
theorem Kl (l:List Int) (x:Int) (i:Nat) (hi:i≤l.length) (hl:l.length<1000000000000) :
 Sp 59 [.vw 0 l.length 0 l.length,vI i,.sl 1 [vI x]] [aR 0 1 (l.map vI)] (.asl 1 (l.length+1)) [(0,.dead),aR 1 1 ((l.take i++x::l.drop i).map vI)]:=by
 refine jj [7,8,10] Jz mixm sMp fun e _ hst=>QR ?_;unfold jR;simp only[yA,List.contains_cons,List.contains_nil,Nat.reduceBEq,Bool.or_false,Bool.or_true,Bool.true_or,Bool.false_or,cond_true,cond_false];simp only[tl,tl2,tl4,↓uU,qY,entX,kh,ret,retI,retB,intT,unT,endR,wB,resR,tupT,bslR,boxR,jy,↓reduceIte,Nat.reduceEqDiff,Nat.reduceAdd,Nat.reduceMul,Nat.reduceLT,Nat.reduceLeDiff,reduceCtorEq,Int.reduceLE,Int.reduceLT,ne_eq,Int.reduceEq,not_false_eq_true,decide_true,decide_false,Int.reduceToNat,tl3,Int.reduceBNe,Int.reduceBEq,rmK,rm1,not_true_eq_false,List.drop_zero,List.take_of_length_le (show (l.map vI).length≤l.length by simp),show (((1:Nat):Int)==0)=false from rfl];have e1:(i:Int).toNat=i:=Ax _;refine⟨oM,fun h=>?_,fun h=>?_⟩
 ·have h2:i=l.length:=by have:=AY.1 h;omega
  subst h2;refine W_le _ _ (Le.cut 0 5 l.length rF rF sMp) ?_;simp only[zc0,yd,cut2,cut1,cut0];simp only[tl,tl2,tl4,↓uU,qY,entX,kh,ret,retI,retB,intT,unT,endR,wB,resR,tupT,bslR,boxR,jy,↓reduceIte,Nat.reduceEqDiff,Nat.reduceAdd,Nat.reduceMul,Nat.reduceLT,Nat.reduceLeDiff,reduceCtorEq,Int.reduceLE,Int.reduceLT,ne_eq,Int.reduceEq,not_false_eq_true,decide_true,decide_false,Int.reduceToNat,tl3,Int.reduceBNe,Int.reduceBEq,rmK,rm1,not_true_eq_false,BY,List.take_of_length_le (show (l.map vI).length≤l.length by simp)];refine⟨oM,?_⟩;refine .of [uI 0,(1,some 5)] [] rfl (by first | rfl | (rw[hst];rfl)) ?_ ?_
  all_goals (try simp only[jL,ltO2,ltO1,ltAs,ltA,ltC,ltC0,QS,ltCs,ltT,ltFr,ltS,wrOk,wrO,TL.get,Kz,↓reduceIte,Nat.reduceEqDiff,reduceCtorEq,Option.getD_some,Option.isSome_some,BY,AW,CJ,Cw,CW,Ey,Ck,List.not_mem_nil,and_true,true_and,and_self,imp_self,forall_const,false_implies,implies_true,true_implies,or_false,EZ,Bool.true_eq_false,kO,true_or,or_true,false_or,false_and,and_false,rmK,rm1,By,List.map_cons,List.map_nil,BW,Cy,Bw,List.drop_length])
  all_goals (try (exact clA))
 have h2:i<l.length:=by have:=Ak.1 h;omega
 refine zK0 0 rF rF fun c hc1 hc2=>?_;simp only[qu9,JS,qX5];rw[BY] at hc1;have hw:IntKind.i64.wrap ((l.length:Int)+((1:Nat):Int))=((l.length+1:Nat):Int):=by rw[AK _ oM];omega
 have hw2:IntKind.i64.wrap (((l.length+1:Nat):Int)-(i:Int))=((l.length+1-i:Nat):Int):=by rw[AK _ oM];omega
 have hw3:IntKind.i64.wrap ((i:Int)+((1:Nat):Int))=((i+1:Nat):Int):=by rw[AK _ oM];omega
 have e2:((l.length+1:Nat):Int).toNat=l.length+1:=Ax _;have e3:((i+1:Nat):Int).toNat=i+1:=Ax _;have e4:((l.length+1-i:Nat):Int).toNat=l.length+1-i:=Ax _;have e5:((c:Nat):Int).toNat=c:=Ax _;obtain⟨J,hJ⟩:∃ J,J=List.replicate (c-l.length) (Wi 1):=⟨_,rfl⟩;have hJl:J.length=c-l.length:=by rw[hJ,List.length_replicate]
 simp only[BY,← hJ];simp only[tl,tl2,tl4,↓uU,qY,entX,kh,ret,retI,retB,intT,unT,endR,wB,resR,tupT,bslR,boxR,jy,↓reduceIte,Nat.reduceEqDiff,Nat.reduceAdd,Nat.reduceMul,Nat.reduceLT,Nat.reduceLeDiff,reduceCtorEq,Int.reduceLE,Int.reduceLT,ne_eq,Int.reduceEq,not_false_eq_true,decide_true,decide_false,Int.reduceToNat,tl3,Int.reduceBNe,Int.reduceBEq,rmK,rm1,not_true_eq_false,BY,e1,e2,e3,e4,e5,hw,hw2,hw3,hJl,Nat.sub_zero,Nat.zero_add,List.drop_zero,AZ,Ay];refine⟨oM,fun h3=>⟨oM,oM,?_⟩,fun h3=>⟨oM,?_⟩⟩
 ·have h4:c=l.length:=by omega
  subst h4;have hJ0:J=[]:=DJ (by rw[hJl];omega);clear hJ;subst hJ0;have e6:i+(l.length+1-i)=l.length+1:=by omega
  simp only[CW,← List.map_take,e6];have hz:∀ m,ImXs 1 (List.replicate m (.v (.int .i64 0))):=fun m y hy=>by rw[(List.mem_replicate.1 hy).2];exact⟨rfl,rfl⟩
  refine W_le [(0,.vw 0 l.length 0 l.length),(1,vI i),(2,.sl 1 [vI x]),(7,vI (1:Nat)),(9,.vw 40992 (l.length+1) 0 (l.length+1))] [aR 0 1 (l.map vI),aR 40992 1 ((l.take i).map vI++List.replicate (l.length+1-i) (.v (.int .i64 0)))] ?_ ?_
  ·refine .of (U2 0 40992) [] rfl (by first | rfl | (rw[hst];rfl)) ?_ ?_
   all_goals (try simp only[jL,ltO2,ltO1,ltAs,ltA,ltC,ltC0,QS,ltCs,ltT,ltFr,ltS,wrOk,wrO,TL.get,Kz,↓reduceIte,Nat.reduceEqDiff,reduceCtorEq,Option.getD_some,Option.isSome_some,BY,AW,CJ,Cw,CW,Ey,Ck,List.not_mem_nil,and_true,true_and,and_self,imp_self,forall_const,false_implies,implies_true,true_implies,or_false,EZ,Bool.true_eq_false,kO,true_or,or_true,false_or,false_and,and_false,rmK,rm1,By,List.map_cons,List.map_nil,BW,Cy])
   all_goals (try (repeat' (first | exact zl | (apply zC;intro _;exact⟨rfl,rfl⟩) | (apply qh;intro _;exact⟨rfl,rfl⟩) | with_reducible apply zh | with_reducible refine qE ⟨rfl,rfl⟩ ?_ | exact qK | with_reducible apply zb | with_reducible refine za ⟨rfl,rfl,?_⟩ ?_ | with_reducible apply Az | exact zc rfl | exact zc (by assumption) | (refine⟨⟨?_,rfl,?_,rfl,?_⟩,trivial⟩ <;> first | (simp;done) | (apply qh;intro _;exact⟨rfl,rfl⟩)) | trivial | rfl | (rw[qg oM]) | omega)))
   exact zt (hz _)
  have k1:min 1 (l.length+1-i)=1:=by omega
  have k2:min i l.length=i:=by omega
  have k3:min (l.length-i) (l.length+1-(i+1))=l.length-i:=by omega
  have k4:(1:Nat)+(l.length+1-i-1)=l.length+1-i:=by omega
  simp only[tl,tl2,tl4,↓uU,qY,entX,kh,ret,retI,retB,intT,unT,endR,wB,resR,tupT,bslR,boxR,jy,↓reduceIte,Nat.reduceEqDiff,Nat.reduceAdd,Nat.reduceMul,Nat.reduceLT,Nat.reduceLeDiff,reduceCtorEq,Int.reduceLE,Int.reduceLT,ne_eq,Int.reduceEq,not_false_eq_true,decide_true,decide_false,Int.reduceToNat,tl3,Int.reduceBNe,Int.reduceBEq,rmK,rm1,not_true_eq_false,BY,AW,List.length_replicate,Cz,List.length_drop,e1,e2,e3,e4,e5,hw,hw2,hw3,Nat.sub_zero,Nat.zero_add,List.drop_zero,k1,k2,k3,Nat.min_self,e6];refine⟨oM,oM,oM,oM,oM,kR,?_⟩;rw[qR5 (l.map vI) ((l.take i).map vI) (List.replicate (l.length+1-i) (.v (.int .i64 0))) (vI x) i l.length sMp (by simp;omega) sMp h2];refine .cutv 1 rfl ?_ rfl ?_ ?_
  ·simp only[AW,List.length_drop,BY,CJ,Cz];omega
  ·simp only[AW,List.length_drop,BY,CJ,Cz];omega
  simp only[yd];rw[List.take_of_length_le (by simp only[AW,List.length_drop,BY,CJ,Cz];omega)];simp only[By,List.map_cons,List.map_drop];refine .of (U2 0 1) [] rfl (by first | rfl | (rw[hst];rfl)) ?_ ?_
  all_goals (try simp only[jL,ltO2,ltO1,ltAs,ltA,ltC,ltC0,QS,ltCs,ltT,ltFr,ltS,wrOk,wrO,TL.get,Kz,↓reduceIte,Nat.reduceEqDiff,reduceCtorEq,Option.getD_some,Option.isSome_some,BY,AW,CJ,Cw,CW,Ey,Ck,List.not_mem_nil,and_true,true_and,and_self,imp_self,forall_const,false_implies,implies_true,true_implies,or_false,EZ,Bool.true_eq_false,kO,true_or,or_true,false_or,false_and,and_false,rmK,rm1,By,List.map_cons,List.map_nil,BW,Cy])
  all_goals (try (repeat' (first | exact zl | (apply zC;intro _;exact⟨rfl,rfl⟩) | (apply qh;intro _;exact⟨rfl,rfl⟩) | with_reducible apply zh | with_reducible refine qE ⟨rfl,rfl⟩ ?_ | exact qK | with_reducible apply zb | with_reducible refine za ⟨rfl,rfl,?_⟩ ?_ | with_reducible apply Az | exact zc rfl | exact zc (by assumption) | (refine⟨⟨?_,rfl,?_,rfl,?_⟩,trivial⟩ <;> first | (simp;done) | (apply qh;intro _;exact⟨rfl,rfl⟩)) | trivial | rfl | (rw[qg oM]) | omega)))
  all_goals (simp only[← List.map_drop,← List.map_take];apply zC;intro _;exact⟨rfl,rfl⟩)
 refine⟨oM,?_⟩;refine C1.ovl Zj (by decide) rfl rfl (by rw[AW,BY,hJl];omega) ?_;have k1:min 1 (l.length+1-i)=1:=by omega
 have k2:l.length+(c-l.length)=c:=by omega
 have k3:min (min (l.length+1-i) (c-i)) (l.length+1-(i+1))=l.length-i:=by omega
 have k4:min (i+1) c=i+1:=by omega
 simp only[tl,tl2,tl4,↓uU,qY,entX,kh,ret,retI,retB,intT,unT,endR,wB,resR,tupT,bslR,boxR,jy,↓reduceIte,Nat.reduceEqDiff,Nat.reduceAdd,Nat.reduceMul,Nat.reduceLT,Nat.reduceLeDiff,reduceCtorEq,Int.reduceLE,Int.reduceLT,ne_eq,Int.reduceEq,not_false_eq_true,decide_true,decide_false,Int.reduceToNat,tl3,Int.reduceBNe,Int.reduceBEq,rmK,rm1,not_true_eq_false,BY,AW,Cz,List.length_drop,hJl,e1,e2,e3,e4,e5,hw,hw2,hw3,Nat.sub_zero,Nat.zero_add,List.drop_zero,k1,k2,k3,k4,Nat.min_self];refine⟨oM,oM,oM,kR,oM,oM,?_⟩;rw[qR4 (l.map vI) J (vI x) i l.length sMp h2];have hfl:(List.take i (List.map vI l)++vI x::List.drop i (List.map vI l)).length=l.length+1:=by
  simp only[AW,List.length_drop,BY,CJ,Cz];omega
 refine .cutv 1 rfl ?_ rfl ?_ ?_
 ·rw[AW,hfl,List.length_drop,hJl];omega
 ·rw[AW,hfl,List.length_drop,hJl];omega
 simp only[yd];rw[List.take_append_of_le_length (by rw[hfl];exact BZ _),List.take_of_length_le (by rw[hfl];exact BZ _)];simp only[By,List.map_cons,List.map_drop,List.map_take];refine .of (U2 0 1) [] rfl (by first | rfl | (rw[hst];rfl)) ?_ ?_
 all_goals (try simp only[jL,ltO2,ltO1,ltAs,ltA,ltC,ltC0,QS,ltCs,ltT,ltFr,ltS,wrOk,wrO,TL.get,Kz,↓reduceIte,Nat.reduceEqDiff,reduceCtorEq,Option.getD_some,Option.isSome_some,BY,AW,CJ,Cw,CW,Ey,Ck,List.not_mem_nil,and_true,true_and,and_self,imp_self,forall_const,false_implies,implies_true,true_implies,or_false,EZ,Bool.true_eq_false,kO,true_or,or_true,false_or,false_and,and_false,rmK,rm1,By,List.map_cons,List.map_nil,BW,Cy])
 all_goals (try (repeat' (first | exact zl | (apply zC;intro _;exact⟨rfl,rfl⟩) | (apply qh;intro _;exact⟨rfl,rfl⟩) | with_reducible apply zh | with_reducible refine qE ⟨rfl,rfl⟩ ?_ | exact qK | with_reducible apply zb | with_reducible refine za ⟨rfl,rfl,?_⟩ ?_ | with_reducible apply Az | exact zc rfl | exact zc (by assumption) | (refine⟨⟨?_,rfl,?_,rfl,?_⟩,trivial⟩ <;> first | (simp;done) | (apply qh;intro _;exact⟨rfl,rfl⟩)) | trivial | rfl | (rw[qg oM]) | omega)))
 all_goals (simp only[← List.map_drop,← List.map_take];apply zC;intro _;exact⟨rfl,rfl⟩)
theorem wX (l:List (List Int)) (i:Nat) (hi:i<l.length) (hl:l.length<4611686018427387904) :
 Sp 60 [.vw 0 l.length 0 l.length,vI i,vI (i+1:Nat)] [aR 0 1 (l.map vIs)] (.asl 1 (l.length-1)) [(0,.dead),aR 1 1 ((l.eraseIdx i).map vIs)]:=by
 refine sIr ZZ fun e _ hst=>?_;unfold jH;simp only[tl,tl2,tl4,↓uU,qY,entX,kh,ret,retI,retB,intT,unT,endR,wB,resR,tupT,bslR,boxR,jy,↓reduceIte,Nat.reduceEqDiff,Nat.reduceAdd,Nat.reduceMul,Nat.reduceLT,Nat.reduceLeDiff,reduceCtorEq,Int.reduceLE,Int.reduceLT,ne_eq,Int.reduceEq,not_false_eq_true,decide_true,decide_false,Int.reduceToNat,tl3,Int.reduceBNe,Int.reduceBEq,rmK,rm1,not_true_eq_false,List.drop_zero,List.take_of_length_le (show (l.map vIs).length≤l.length by simp)];have h1:((i:Int)==((i+1:Nat):Int))=false:=by simp;omega
 simp only[tl,tl2,tl4,↓uU,qY,entX,kh,ret,retI,retB,intT,unT,endR,wB,resR,tupT,bslR,boxR,jy,↓reduceIte,Nat.reduceEqDiff,Nat.reduceAdd,Nat.reduceMul,Nat.reduceLT,Nat.reduceLeDiff,reduceCtorEq,Int.reduceLE,Int.reduceLT,ne_eq,Int.reduceEq,not_false_eq_true,decide_true,decide_false,Int.reduceToNat,tl3,Int.reduceBNe,Int.reduceBEq,rmK,rm1,not_true_eq_false,h1];have e0:(l.length:Int).toNat=l.length:=Ax _;have e1:(i:Int).toNat=i:=Ax _;have e2:((i+1:Nat):Int).toNat=i+1:=Ax _;have e3:(List.take (l.length-(i+1)) (List.drop (i+1) (List.map vIs l)))=(l.drop (i+1)).map vIs:=by
  rw[← List.map_drop,List.take_of_length_le sMp]
 simp only[e0,e1,e2,e3,BY,List.length_drop,Nat.sub_zero,Nat.zero_add];have ht:(List.take i (List.map vIs l)).length=i:=by rw[Cz,BY];omega
 have e4:i+(l.length-(i+1))=l.length-1:=by omega
 have e5:l.length-(l.length-1)=1:=by omega
 simp only[ht,e4,e5];refine⟨oM,oM,oM,⟨oM,oM⟩,kR,?_⟩;have e6:((l.length-1:Nat):Int).toNat=l.length-1:=Ax _;rw[e6];refine⟨oM,oM,oM,?_⟩;refine .cutv 1 rfl ?_ rfl ?_ ?_
 ·simp only[AW,Cz,List.length_drop,BY,List.length_replicate];omega
 ·simp only[AW,Cz,List.length_drop,BY,List.length_replicate];omega
 have hcut:∀ a b c:List T,a.length=l.length-1→(a++b++c).take (l.length-1)=a:=fun a b c h=>by
  rw[Dj,List.take_append_of_le_length oM,List.take_of_length_le oM]
 have hcut2:∀ a c:List T,a.length=l.length-1→(a++c).take (l.length-1)=a:=fun a c h=>by
  rw[List.take_append_of_le_length oM,List.take_of_length_le oM]
 have hfin:(List.take (l.length-1) (List.take i (List.map vIs l)++List.map vIs (List.drop (i+1) l)++List.drop (l.length-1) (List.map vIs l)))=(l.eraseIdx i).map vIs:=by
  rw[hcut2 _ _ (by simp only[AW,Cz,List.length_drop,BY];omega),List.eraseIdx_eq_take_drop_succ,By,List.map_take]
 simp only[yd,hfin];rw[hcut _ _ _ (by rw[BY,List.length_eraseIdx_of_lt hi])];exact .oA (U2 0 1) []
abbrev ownO (s:Sch) (i n j m:Nat) (v:Int):Ob:=.arr 5 [.agg [.sl 2 (s.lists.map cdlT),.sl 7 (s.cols.map colT),.asl i n,.asl j m,vI v]] false
abbrev qI7 (s:Src):Sto:=[(0,ownO s.sch 1 s.rows.length 2 s.gone.length s.ver),aR 1 1 (s.rows.map vIs),aR 2 1 (s.gone.map vI)]
def putE (s:Src) (r:List Int) (rep:Bool):Int:=
 if rowE s.sch r≠0 then 9 else if s.gone.contains (hd r)=true then 20 else if rep=true∧hasK s.rows (hd r)=false then 19
 else if rep=true then 0 else if hasK s.rows (hd r)=true then 10 else if s.rows.length=200 then 1 else 0
theorem SrcOk.rw {s:Src} (h:SrcOk s):RwId s.rows:=⟨h.asc,fun r hr=>kz (h.rows r hr),fun r hr=>zz9 (h.rows r hr),by have:=h.nr;omega⟩
abbrev qU2 (s:Src) (r:List Int):Sto:=[(0,ownO s.sch 1 s.rows.length 2 s.gone.length s.ver),aR 1 1 ((s.rows.set (fndN s.rows (hd r)) r).map vIs),aR 2 1 (s.gone.map vI)]
abbrev insR (l:List (List Int)) (r:List Int):List (List Int):=l.take (fndN l (hd r))++r::l.drop (fndN l (hd r))
abbrev qU3 (s:Src) (r:List Int):Sto:=[(0,ownO s.sch 3 (s.rows.length+1) 2 s.gone.length s.ver),(1,.dead),aR 2 1 (s.gone.map vI),aR 3 1 ((insR s.rows r).map vIs)]
theorem qD3 (s:Src) (h:SrcOk s) (r:List Int) (rep:Bool) (hr:r.length<4611686018427387904) (St:Sto) (hb:putE s r rep≠0→St=qI7 s) (hre:putE s r rep=0→rep=true→St=qU2 s r) (had:putE s r rep=0→rep=false→St=qU3 s r) :
 Sp 58 [.ptr 0 1 0 0,vIs r,vB rep] (qI7 s) (vI (putE s r rep)) St:=by
 have hV:putE s r rep=if rowE s.sch r≠0 then 9 else if s.gone.contains (hd r)=true then 20 else if rep=true∧hasK s.rows (hd r)=false then 19 else if rep=true then 0 else if hasK s.rows (hd r)=true then 10 else if s.rows.length=200 then 1 else 0:=rfl
 generalize putE s r rep=E at hb hre had hV ⊢
 have hF:=yo s.sch h.sch r hr;refine sIr qq4 fun e _ hst=>?_;unfold Zb;refine sW ?_;refine C1.im hF rF rF ?_;simp only[tZ,↓uU,simprocAttr,Bx,Bz,AY,Ak];refine⟨fun h1=>?_,fun h1=>?_⟩
 ·rw[Aj h1] at hV;rw[hb (by rw[hV];decide),hV];exact .oA (U3 0 1 2) []
 rw[Aq (by rw[h1];simp)] at hV;have hpr:=kz h1;have hgi:=zJ hpr;have hng:=h.ng;have hct:=Jh s.gone (hd r) oM;have hid:=zz9 h1;have hpl:=JN s (hd r) h.rw (by unfold idOk;omega);rw[qs0 h.rw hid] at hpl;simp only[tZ,↓uU,simprocAttr,Ax,hgi];refine⟨oM,?_⟩;refine C1.lend [2] hct ?_ rF rF ?_
 ·all_goals (try exact clA)
 simp only[tZ,↓uU,simprocAttr,hgi];refine⟨kR,fun h2=>?_,fun h2=>?_⟩
 ·rw[Aj h2] at hV;rw[hb (by rw[hV];decide),hV];exact .oA (U3 0 1 2) []
 rw[Aq (by rw[h2];simp)] at hV;refine⟨oM,?_⟩;refine C1.lend [1,2] hpl ?_ rF rF ?_
 ·all_goals (try exact clA)
 have hnr:=h.nr;have hcl:=kW r (by have:=(Jg h1).2.1;have:=(jn h.sch).nc;omega);simp only[tZ,↓uU,simprocAttr,tD,Bx,Bz,AY,Ak];refine⟨kR,fun h3=>?_,fun h3=>⟨fun h4=>?_,fun h4=>⟨fun h5=>?_,fun h5=>⟨fun h6=>?_,fun h6=>?_⟩⟩⟩⟩
 ·rw[Aj h3] at hV;rw[hb (by rw[hV];decide),hV];exact .oA (U3 0 1 2) []
 ·rw[Aq (by rw[h4] at h3 ⊢;simpa using h3),Aj h4] at hV;have hk:hasK s.rows (hd r)=true:=by rw[h4] at h3;simpa using h3
  obtain⟨f2,f3⟩:=Ji h.asc hk;rw[hre hV h4,hV];refine C1.im hcl rF rF ?_;simp only[tZ,↓uU,simprocAttr,Ax,qd f2,show ∀ a b:List Int,repl (vIs a) 0 (vIs b)=vIs b from fun _ _=>rfl];refine⟨oM,oM,kR,?_⟩;rw[← List.map_set];exact .oA (U3 0 1 2) []
 ·rw[Aq (by rw[h4];simp),Aq (by rw[h4];simp),Aj h5] at hV;rw[hb (by rw[hV];decide),hV];exact .oA (U3 0 1 2) []
 ·rw[Aq (by rw[h4];simp),Aq (by rw[h4];simp),Aq (by rw[h5];simp),Aj oM] at hV;rw[hb (by rw[hV];decide),hV];exact .oA (U3 0 1 2) []
 ·rw[Aq (by rw[h4];simp),Aq (by rw[h4];simp),Aq (by rw[h5];simp),Aq oM] at hV;rw[had hV h4,hV];have hfl:=zq8 s.rows (hd r);have hin:=JB s.rows r (fndN s.rows (hd r)) hfl oM;refine C1.im hcl rF rF ?_;refine sW ?_;refine C1.cutbackF 1 28708 1 28704 hin rfl rfl (by apply qh;intro _;exact⟨rfl,rfl⟩) (by apply qh;intro _;exact⟨rfl,rfl⟩) rF (by decide) ?_ ?_
  ·all_goals (try exact clA)
  refine sW ?_;refine⟨by rw[Cz,List.length_drop];omega,kR,?_⟩;exact .oA [uI 0,uI 1,uI 2,(3,some 28708)] []
def chgE (s:Src) (d:Edt):Int:=
 if d.kind=1∨d.kind=2 then putE s d.row (d.kind==2) else if d.kind=3 then (if hasK s.rows d.id=false then 19 else 0)
 else if d.kind=4 then (if d.id<1∨d.id>1048575 then 2 else if s.gone.contains d.id=true then 20 else 0) else 4
abbrev delR (l:List (List Int)) (id:Int):List (List Int):=l.eraseIdx (fndN l id)
abbrev insG (l:List Int) (id:Int):List Int:=l.take (insN l id)++id::l.drop (insN l id)
abbrev zH8 (s:Src) (id:Int):Sto:=[(0,ownO s.sch 3 (s.rows.length-1) 2 s.gone.length s.ver),(1,.dead),aR 2 1 (s.gone.map vI),aR 3 1 ((delR s.rows id).map vIs)]
abbrev zS9 (s:Src) (id:Int):Sto:=[(0,ownO s.sch 1 s.rows.length 4 (s.gone.length+1) s.ver),aR 1 1 (s.rows.map vIs),(2,.dead),aR 4 1 ((insG s.gone id).map vI)]
abbrev zH9 (s:Src) (id:Int):Sto:=[(0,ownO s.sch 3 (s.rows.length-1) 4 (s.gone.length+1) s.ver),(1,.dead),(2,.dead),aR 3 1 ((delR s.rows id).map vIs),aR 4 1 ((insG s.gone id).map vI)]
theorem qe5 (s:Src) (h:SrcOk s) (d:Edt) (hr:d.row.length<4611686018427387904) (hi:idOk d.id) (St:Sto) (hb:chgE s d≠0→St=qI7 s) (h1:chgE s d=0→d.kind=1→St=qU3 s d.row) (h2:chgE s d=0→d.kind=2→St=qU2 s d.row)
 (h3:chgE s d=0→d.kind=3→St=zH8 s d.id) (h4:chgE s d=0→d.kind=4→St=if hasK s.rows d.id=true then zH9 s d.id else zS9 s d.id) :
 Sp 37 [.ptr 0 1 0 0,edtT d] (qI7 s) (vI (chgE s d)) St:=by
 have hV:chgE s d=if d.kind=1∨d.kind=2 then putE s d.row (d.kind==2) else if d.kind=3 then (if hasK s.rows d.id=false then 19 else 0)
  else if d.kind=4 then (if d.id<1∨d.id>1048575 then 2 else if s.gone.contains d.id=true then 20 else 0) else 4:=rfl
 generalize chgE s d=E at hb h1 h2 h3 h4 hV ⊢
 have hpl:=JN s d.id h.rw hi;have hnr:=h.nr;have hng:=h.ng;refine sIr Ya fun e _ hst=>?_;unfold wL;refine sW ?_;refine C1.lend [1,2] hpl ?_ rF rF ?_
 ·all_goals (try exact clA)
 simp only[tZ,↓uU,simprocAttr,tD,AY,Ak,Bx,Bz];have hP:=qD3 s h d.row (d.kind==2) hr St;refine⟨kR,fun k1=>⟨fun _=>?_,fun k=>absurd k1 k⟩,fun k1=>⟨fun k2=>?_,fun k2=>?_⟩⟩
 ·rw[Aj (.inl k1)] at hV;have hP:=hP (fun e=>hb (by rw[hV];exact e)) (fun e r=>by rw[k1] at r;cases r) (fun e _=>h1 (by rw[hV];exact e) k1);have hPE:putE s d.row (d.kind==2)=E:=hV.symm;rw[hPE] at hP;by_cases hE:E=0
  ·rw[h1 hE k1,hE] at hP;rw[h1 hE k1,hE];refine C1.of (U3 0 1 2) (U3 0 2 3) [] (qU3 s d.row) hP ?_ rF ?_ rF rF ?_ rF rF (wd rF) (.inl rF) ?_
   ·all_goals (try exact clA)
   ·all_goals (try exact clA)
   ·simp only[wrOk,wrO,TL.get,ltO1]
    all_goals (try exact clA)
   refine sW ?_;exact .oA (U4 0 1 2 3) []
  ·rw[hb hE] at hP ⊢
   refine C1.of (U3 0 1 2) (U3 0 1 2) [] (qI7 s) hP ?_ rF ?_ rF rF ?_ rF rF (wd rF) (.inl rF) ?_
   ·all_goals (try exact clA)
   ·all_goals (try exact clA)
   ·simp only[wrOk,wrO,TL.get,ltO1]
    all_goals (try exact clA)
   refine sW ?_;exact .oA (U3 0 1 2) []
 ·rw[Aj (.inr k2)] at hV;have hP:=hP (fun e=>hb (by rw[hV];exact e)) (fun e r=>h2 (by rw[hV];exact e) k2) (fun e r=>by rw[k2] at r;cases r);have hPE:putE s d.row (d.kind==2)=E:=hV.symm;rw[hPE] at hP;by_cases hE:E=0
  ·rw[h2 hE k2,hE] at hP;rw[h2 hE k2,hE];refine C1.of (U3 0 1 2) (U3 0 1 2) [] (qU2 s d.row) hP ?_ rF ?_ rF rF ?_ rF rF (wd rF) (.inl rF) ?_
   ·all_goals (try exact clA)
   ·all_goals (try exact clA)
   ·simp only[wrOk,wrO,TL.get,ltO1]
    all_goals (try exact clA)
   refine sW ?_;exact .oA (U3 0 1 2) []
  ·rw[hb hE] at hP ⊢
   refine C1.of (U3 0 1 2) (U3 0 1 2) [] (qI7 s) hP ?_ rF ?_ rF rF ?_ rF rF (wd rF) (.inl rF) ?_
   ·all_goals (try exact clA)
   ·all_goals (try exact clA)
   ·simp only[wrOk,wrO,TL.get,ltO1]
    all_goals (try exact clA)
   refine sW ?_;exact .oA (U3 0 1 2) []
 rw[Aq oM] at hV;refine⟨fun k3=>⟨fun h5=>?_,fun h5=>⟨fun _=>?_,fun k=>by rw[h5] at k;cases k⟩⟩,fun k3=>⟨fun k4=>?_,fun k4=>?_⟩⟩
 ·rw[Aj k3,Aj h5] at hV;rw[hb (by rw[hV];decide),hV];exact .oA (U3 0 1 2) []
 ·rw[Aj k3,Aq (by rw[h5];simp)] at hV;rw[h3 hV k3,hV];have hid:=qs1 h.rw.ids h5;have hpf:=qs0 h.rw hid;obtain⟨f2,_⟩:=Ji h.asc h5;have hw:=qg (i:=fndN s.rows d.id) oM;have hde:=wX s.rows (fndN s.rows d.id) f2 oM;rw[hpf,hw];refine C1.cut0 1 77860 1 hde rfl (by apply qh;intro _;exact⟨rfl,rfl⟩) (by apply qh;intro _;exact⟨rfl,rfl⟩) rF ?_ ?_
  ·all_goals (try exact clA)
  refine sW ?_;refine⟨by rw[List.length_eraseIdx_of_lt f2],?_⟩;exact .oA [uI 0,uI 1,uI 2,(3,some 77860)] []
 ·rw[Aq k3,Aj k4] at hV;refine⟨fun h5=>?_,fun h5=>?_⟩
  ·rw[Aj h5] at hV;rw[hb (by rw[hV];decide),hV];exact .oA (U3 0 1 2) []
  rw[Aq oM] at hV;have hB:=jY s.gone d.id h.gasc oM;refine C1.lend [2] hB ?_ rF rF ?_
  ·all_goals (try exact clA)
  refine sW ?_;refine⟨kR,fun h6=>?_,fun h6=>?_⟩
  ·rw[Aj h6] at hV;rw[hb (by rw[hV];decide),hV];exact .oA (U3 0 1 2) []
  rw[Aq (by rw[h6];simp)] at hV;have hil:insN s.gone d.id≤s.gone.length:=List.findIdx_le_length;have hin:=Kl s.gone d.id (insN s.gone d.id) hil oM;have hgl:(insG s.gone d.id).length=s.gone.length+1:=by rw[AW,CJ,Cz,List.length_drop];omega
  have hh:=h4 hV k4;refine C1.cutbackF 2 69668 1 69664 hin rfl rfl (by apply qh;intro _;exact⟨rfl,rfl⟩) (by apply qh;intro _;exact⟨rfl,rfl⟩) rF (by decide) ?_ ?_
  ·all_goals (try exact clA)
  refine sW ?_;refine⟨by rw[Cz,List.length_drop];omega,kR,fun h7=>?_,fun h7=>?_⟩
  ·rw[Aj h7] at hh;rw[hh,hV];have hid:=qs1 h.rw.ids h7;have hpf:=qs0 h.rw hid;obtain⟨f2,_⟩:=Ji h.asc h7;have hw:=qg (i:=fndN s.rows d.id) oM;have hde:=wX s.rows (fndN s.rows d.id) f2 oM;rw[hpf,hw];refine C1.cut0 1 77860 1 hde rfl (by apply qh;intro _;exact⟨rfl,rfl⟩) (by apply qh;intro _;exact⟨rfl,rfl⟩) rF ?_ ?_
   ·all_goals (try exact clA)
   refine sW ?_;refine⟨by rw[List.length_eraseIdx_of_lt f2],?_⟩;exact .oA [uI 0,uI 1,uI 2,(3,some 77860),(4,some 69668)] []
  ·rw[Aq (by rw[h7];simp)] at hh;rw[hh,hV];exact .oA [uI 0,uI 1,uI 2,(4,some 69668)] []
 ·rw[Aq k3,Aq k4] at hV;rw[hb (by rw[hV];decide),hV];exact .oA (U3 0 1 2) []
theorem zr4 {s:Src} (h:SrcOk s) (id:Int):Qa s id<0↔hasK s.rows id=false:=by
 rw[KU];unfold hasK;rw[List.any_eq_false];constructor
 ·intro k r hr;have:=k r hr;rw[qT9 (h.rows r hr)] at this;rw[this];simp
 ·intro k r hr;rw[qT9 (h.rows r hr)];simpa using k r hr
theorem zA3 {l:List (List Int)} {row:List Int} (h:AscR l) (hk:hasK l (hd row)=false):putR l row=insR l row:=by
 obtain⟨p1,p2⟩:=zM4 (r:=row) h;have e:pinR l row=insR l row:=by unfold pinR;rw[Aq (by rw[hk];simp)]
 rw[e] at p1 p2;refine KV (Yv h) p1 fun x=>?_;rw[Yw h,p2];constructor
 ·rintro (a | ⟨a,_⟩)
  ·exact .inr ⟨a,hk⟩
  ·exact .inl a
 ·rintro (a | ⟨a,_⟩)
  ·refine .inr ⟨a,fun e=>?_⟩;rw[qs2.2 ⟨x,a,e⟩] at hk;cases hk
  ·exact .inl a
theorem zA4 {l:List (List Int)} {row:List Int} (h:AscR l) (hk:hasK l (hd row)=true):putR l row=l.set (fndN l (hd row)) row:=by
 obtain⟨f2,f3⟩:=Ji h hk;have hkey:=(zr1 f3).1;have hp:=DZ.1 h;generalize fndN l (hd row)=i at f2 f3 hkey ⊢
 have hne:∀ (j:Nat) (hj:j<l.length),j≠i→hd l[j]≠hd row:=fun j hj e1 e2=>by
  rw[← hkey] at e2;by_cases c:j<i
  ·have:=hp j i hj f2 c;omega
  ·have:=hp i j f2 hj oM;omega
 have hA:AscR (l.set i row):=by
  refine DZ.2 fun a b ha hb hab=>?_;rw[Fw] at ha hb;have:=hp a b ha hb hab;rw[Fk,Fk];split
  ·rename_i e;subst e;rw[Aq oM];omega
  ·split
   ·rename_i e;subst e;omega
   ·exact this
 refine KV (Yv h) hA fun x=>?_;rw[Yw h];constructor
 ·rintro (a | ⟨a,b⟩)
  ·rw[a];exact List.mem_set f2 _
  ·obtain⟨j,hj,rfl⟩:=CX a;have hji:j≠i:=fun e=>by subst e;exact b hkey
   refine List.mem_iff_getElem.2 ⟨j,by rw[Fw];exact hj,?_⟩;rw[Fk,Aq oM]
 ·intro a;obtain⟨j,hj,rfl⟩:=CX a;rw[Fw] at hj;rw[Fk];split
  ·exact .inl rfl
  ·rename_i e;exact .inr ⟨AX hj,hne j hj oM⟩
theorem qD4 {l:List (List Int)} {id:Int} (h:AscR l) (hk:hasK l id=true):zq2 l id=delR l id:=by
 obtain⟨f2,f3⟩:=Ji h hk;have hkey:=(zr1 f3).1;have hp:=DZ.1 h;unfold delR;generalize fndN l id=i at f2 f3 hkey ⊢
 refine KV (h.filter _) (h.sublist (List.eraseIdx_sublist ..)) fun x=>?_;unfold zq2;rw[Fz,List.mem_eraseIdx_iff_getElem];constructor
 ·rintro ⟨a,b⟩;obtain⟨j,hj,rfl⟩:=CX a;refine⟨j,hj,fun e=>?_,rfl⟩;subst e;rw[hkey] at b;simp at b
 ·rintro ⟨j,hj,e1,rfl⟩;refine⟨AX hj,Bj.2 fun e2=>?_⟩;rw[← hkey] at e2;by_cases c:j<i
  ·have:=hp j i hj f2 c;omega
  ·have:=hp i j f2 hj oM;omega
theorem zA5 {l:List (List Int)} {id:Int} (hk:hasK l id=false):zq2 l id=l:=by
 unfold zq2;refine List.filter_eq_self.2 fun r hr=>Bj.2 fun e=>?_;rw[qs2.2 ⟨r,hr,e⟩] at hk;cases hk
theorem zA6 {l:List Int} {n:Int} (h:l.Pairwise fun a b=>a<b) (hk:l.contains n=false):putI l n=insG l n:=by
 have hlt:∀ x∈l.take (insN l n),x<n:=fun x hx=>by
  obtain⟨i,hi,rfl⟩:=CX hx;rw[Cz] at hi;rw[Fy];have:=List.not_of_lt_findIdx (show i<insN l n by omega);simpa using this
 have hge:∀ x∈l.drop (insN l n),n<x:=fun x hx=>by
  have hne:x≠n:=fun e=>by
   subst e;rw[FQ.2 (EW hx)] at hk;cases hk
  obtain⟨i,hi,rfl⟩:=CX hx;rw[List.length_drop] at hi;rw[List.getElem_drop] at hne ⊢
  have h1:insN l n<l.length:=by omega
  have h2:=List.findIdx_getElem (p:=fun y=>decide (n≤y)) (xs:=l) (w:=h1);have h3:n≤l[insN l n]:=of_decide_eq_true h2;rcases DX i with h5 | h5
  ·subst h5;simp only[Nat.add_zero] at hne ⊢
   omega
  ·have:=DZ.1 h (insN l n) (insN l n+i) h1 oM oM;omega
 have ha2:=h;rw[← List.take_append_drop (insN l n) l] at ha2;obtain⟨p1,p2,p3⟩:=List.pairwise_append.1 ha2;have hA:(insG l n).Pairwise fun a b=>a<b:=List.pairwise_append.2 ⟨p1,List.pairwise_cons.2 ⟨fun x hx=>hge x hx,p2⟩,fun x hx y hy=>by
  rcases Ck.1 hy with rfl | hy
  ·exact hlt x hx
  ·exact p3 x hx y hy⟩
 refine So.srt_uniq (lt:=So.ltI) ⟨fun x y h=>?_,fun x y z h1 h2=>?_⟩ ((zz8 h).imp fun h=>Cx h) (hA.imp fun h=>Cx h) fun x=>?_
 ·simp only[So.ltI,AZ] at h;exact Cq oM
 ·simp only[So.ltI,Ay] at h1 h2 ⊢
  omega
 ·rw[zz7];have:=Dz (s:=l.take (insN l n)) (t:=l.drop (insN l n)) (a:=x);rw[List.take_append_drop] at this;rw[Dz,Ck,this];constructor
  ·rintro (a | a | a)
   ·exact .inr (.inl a)
   ·exact .inl a
   ·exact .inr (.inr a)
  ·rintro (a | a | a)
   ·exact .inr (.inl a)
   ·exact .inl a
   ·exact .inr (.inr a)
theorem zr5 {s:Src} {d:Edt} (h:SrcOk s) (hv:s.ver≠300):chgE s d=JM s d:=by
 have hF:=fun id=>zr4 h id;have hF2:∀ id,0≤Qa s id↔hasK s.rows id=true:=fun id=>by
  have:=hF id;cases e:hasK s.rows id with
  | true=>rw[e] at this;simp only[Bool.true_eq_false,iff_false] at this;simp;omega
  | false=>rw[e] at this;simp at this;simp;omega
 have h9:rowE s.sch d.row≠0→rowE s.sch d.row=9:=fun k=>by
  unfold rowE at k ⊢
  rw[Aq (by rw[h.sch];simp)] at k ⊢
  split
  ·rfl
  ·rename_i q;rw[Aq q] at k;split
   ·rfl
   ·rename_i q2;rw[Aq q2] at k;exact absurd rfl k
 unfold chgE JM putE;rw[Aq (show ¬ (srcB s=false∨s.ver=300) by rw[qe2.2 h];simp [hv])];by_cases k12:d.kind=1∨d.kind=2
 ·rw[Aj k12,Aj k12];by_cases k9:rowE s.sch d.row=0
  ·simp only[k9,ne_eq,not_true_eq_false,if_false];cases hg:s.gone.contains (hd d.row) with
   | true=>simp only[if_true]
   | false=>
     simp only[EZ,if_false];have f1:=hF (hd d.row);have f2:=hF2 (hd d.row);rcases k12 with k | k
     ·have e1:(d.kind==2)=false:=by rw[k];rfl
      have e2:d.kind≠2:=by omega
      simp only[e1,eq_false e2,eq_true k,EZ,false_and,true_and,if_false];cases hk:hasK s.rows (hd d.row) with
      | true=>
        rw[hk] at f2;rw[Aj rfl,Aj (f2.2 rfl)]
      | false=>
        rw[hk] at f2;rw[Aq sMp,Aq (show ¬ 0≤Qa s (hd d.row) from fun q=>by have:=f2.1 q;cases this)]
     ·have e1:(d.kind==2)=true:=by rw[k];rfl
      have e2:d.kind≠1:=by omega
      simp only[e1,eq_false e2,eq_true k,true_and,false_and,if_false,if_true];cases hk:hasK s.rows (hd d.row) with
      | true=>
        rw[hk] at f1;rw[Aq sMp,Aq (show ¬ Qa s (hd d.row)<0 from fun q=>by have:=f1.1 q;cases this)]
      | false=>
        rw[hk] at f1;rw[Aj rfl,Aj (f1.2 rfl)]
  ·rw[Aj k9,Aj k9,h9 k9]
 ·rw[Aq k12,Aq k12];by_cases k3:d.kind=3
  ·rw[Aj k3,Aj k3];have:=hF d.id;cases hk:hasK s.rows d.id with
   | true=>rw[hk] at this;rw[Aq sMp,Aq (fun q=>by have:=this.1 q;cases this)]
   | false=>rw[hk] at this;rw[Aj rfl,Aj (this.2 rfl)]
  ·rw[Aq k3,Aq k3]
def nxS (s:Src):Src:=⟨s.sch,s.rows,s.gone,s.ver+1⟩
theorem zT0 {s:Src} (h:SrcOk s) (hv:s.ver≠300):SrcOk (nxS s):=⟨h.sch,h.nr,h.ng,by have:=h.ver;unfold nxS;dsimp only;omega,h.rows,h.asc,h.gone,h.gasc⟩
theorem put0 {s:Src} {r:List Int} {rep:Bool} (h:putE s r rep=0):hasK s.rows (hd r)=rep∧rowE s.sch r=0∧s.gone.contains (hd r)=false:=by
 unfold putE at h;split at h
 ·cases h
 ·rename_i q1;split at h
  ·cases h
  ·rename_i q2;have e1:rowE s.sch r=0:=AQ q1;have e2:s.gone.contains (hd r)=false:=by simpa using q2
   split at h
   ·cases h
   ·rename_i q3;split at h
    ·rename_i q4;rw[q4] at q3 ⊢
     exact⟨by simpa using q3,e1,e2⟩
    ·rename_i q4;split at h
     ·cases h
     ·rename_i q5;have e3:rep=false:=by simpa using q4
      rw[e3];exact⟨by simpa using q5,e1,e2⟩
theorem JO (s:Src) (d:Edt) (hs:zq5 s) (hr:d.row.length<4611686018427387904) (hi:idOk d.id):Sp 17 [srcT s,edtT d] [] (.tup [srcT (KT s d),vI (JM s d)]) []:=by
 have hV:=wz s (by have:=hs.1.2.1;omega) (by have:=hs.1.1;omega) hs.2;refine sIr qb3 fun e _ hst=>?_;unfold yD;refine sW ?_;refine C1.im hV rF rF ?_;simp only[tZ,↓uU,simprocAttr,tD,AY,Ak,Bx,Bz];refine⟨fun h=>?_,fun h=>?_⟩
 ·have hE:JM s d=13:=by rw[JM,Aj h]
  have hA:KT s d=src0:=by rw[KT,Aj (by rw[hE];decide)]
  rw[hE,hA];exact .oA [] []
 have hok:=qe2.1 h.1;have hv:s.ver≠300:=h.2;have hok2:=zT0 hok hv;have hEq:=zr5 (d:=d) hok hv;have hver:=hok.ver;have hnr:=hok.nr;have hng:=hok.ng;have hw:IntKind.i64.wrap (s.ver+1)=s.ver+1:=AK _ oM;have hrw:=yS s.rows oM (fun r hr=>by have:=(Jg (hok.rows r hr)).2.1;have:=(jn hok.sch).nc;omega);have hcl:=Kj s.gone oM;refine C1.im (jS s.sch (jn hok.sch)) rF rF ?_;refine sW ?_;refine C1.fresh 16404 hrw rF (by apply qh;intro _;exact⟨rfl,rfl⟩) rF ?_;refine sW ?_;refine C1.fresh 16416 hcl rF (by apply qh;intro _;exact⟨rfl,rfl⟩) rF ?_;simp only[tZ,↓uU,simprocAttr,hw];refine⟨kR,?_⟩;have hC:=qe5 (nxS s) hok2 d hr hi;have hE2:chgE (nxS s) d=JM s d:=hEq;rw[hE2] at hC;by_cases hE:JM s d=0
 ·have hS:KT s d=⟨s.sch,qm0 s d,if d.kind=4 then putI s.gone d.id else s.gone,s.ver+1⟩:=by rw[KT,Aq (by rw[hE];simp)]
  have hcE:=hEq.trans hE;unfold chgE at hcE;rw[hE] at hC ⊢
  by_cases k1:d.kind=1
  ·have hC:=hC (qU3 (nxS s) d.row) (fun e=>absurd rfl e) (fun _ _=>rfl) (fun _ k=>by omega) (fun _ k=>by omega) (fun _ k=>by omega);rw[Aj (.inl k1)] at hcE;have hk:=(put0 hcE).1;rw[k1] at hk;rw[hS,qm0,Aj (.inl k1),Aq oM,zA3 hok.asc hk];have hfl:=zq8 s.rows (hd d.row);refine C1.of [(0,some 16436),(1,some 16404),(2,some 16416)] [(16436,some 0),(16416,some 2),uI 3] [] ([(16436,ownO s.sch 3 (s.rows.length+1) 16416 s.gone.length (s.ver+1)),(16404,.dead),aR 16416 1 (s.gone.map vI),aR 3 1 ((insR s.rows d.row).map vIs)]) hC ?_ rF ?_ rF rF ?_ rF rF (wd rF) (.inl rF) ?_
   ·all_goals (try exact clA)
   ·all_goals (try exact clA)
   ·simp only[wrOk,wrO,TL.get,ltO1]
    all_goals (try exact clA)
   refine sW ?_;have hil:(insR s.rows d.row).length=s.rows.length+1:=by rw[AW,CJ,Cz,List.length_drop];omega
   refine⟨by rw[Cz,List.length_drop];omega,?_⟩;generalize insR s.rows d.row=R at hil ⊢
   exact .oA [] [3,16416]
  by_cases k2:d.kind=2
  ·have hC:=hC (qU2 (nxS s) d.row) (fun e=>absurd rfl e) (fun _ k=>by omega) (fun _ k=>rfl) (fun _ k=>by omega) (fun _ k=>by omega);rw[Aj (.inr k2)] at hcE;have hk:=(put0 hcE).1;rw[k2] at hk;rw[hS,qm0,Aj (.inr k2),Aq oM,zA4 hok.asc hk];refine C1.of [(0,some 16436),(1,some 16404),(2,some 16416)] [(16436,some 0),(16404,some 1),(16416,some 2)] [] ([(16436,ownO s.sch 16404 s.rows.length 16416 s.gone.length (s.ver+1)),aR 16404 1 ((s.rows.set (fndN s.rows (hd d.row)) d.row).map vIs),aR 16416 1 (s.gone.map vI)]) hC ?_ rF ?_ rF rF ?_ rF rF (wd rF) (.inl rF) ?_
   ·all_goals (try exact clA)
   ·all_goals (try exact clA)
   ·simp only[wrOk,wrO,TL.get,ltO1]
    all_goals (try exact clA)
   refine sW ?_;have hil:(s.rows.set (fndN s.rows (hd d.row)) d.row).length=s.rows.length:=Fw;generalize s.rows.set (fndN s.rows (hd d.row)) d.row=R at hil ⊢
   refine⟨oM,?_⟩;exact .oA [] [16404,16416]
  rw[Aq oM] at hcE;by_cases k3:d.kind=3
  ·have hC:=hC (zH8 (nxS s) d.id) (fun e=>absurd rfl e) (fun _ k=>by omega) (fun _ k=>by omega) (fun _ k=>rfl) (fun _ k=>by omega);rw[Aj k3] at hcE;have hk:hasK s.rows d.id=true:=by
    cases e:hasK s.rows d.id with
    | true=>rfl
    | false=>rw[Aj e] at hcE;cases hcE
   obtain⟨f2,_⟩:=Ji hok.asc hk;rw[hS,qm0,Aq oM,Aq oM,qD4 hok.asc hk];refine C1.of [(0,some 16436),(1,some 16404),(2,some 16416)] [(16436,some 0),(16416,some 2),uI 3] [] ([(16436,ownO s.sch 3 (s.rows.length-1) 16416 s.gone.length (s.ver+1)),(16404,.dead),aR 16416 1 (s.gone.map vI),aR 3 1 ((delR s.rows d.id).map vIs)]) hC ?_ rF ?_ rF rF ?_ rF rF (wd rF) (.inl rF) ?_
   ·all_goals (try exact clA)
   ·all_goals (try exact clA)
   ·simp only[wrOk,wrO,TL.get,ltO1]
    all_goals (try exact clA)
   refine sW ?_;have hil:(delR s.rows d.id).length=s.rows.length-1:=List.length_eraseIdx_of_lt f2;generalize delR s.rows d.id=R at hil ⊢
   refine⟨oM,?_⟩;exact .oA [] [3,16416]
  rw[Aq k3] at hcE;by_cases k4:d.kind=4
  ·rw[Aj k4] at hcE;have hg:s.gone.contains d.id=false:=by
    cases e:s.gone.contains d.id with
    | false=>rfl
    | true=>
      rw[Aj e] at hcE;split at hcE <;> cases hcE
   have hil2:insN s.gone d.id≤s.gone.length:=List.findIdx_le_length;rw[hS,qm0,Aq oM,Aj k4,zA6 hok.gasc hg];have hgl:(insG s.gone d.id).length=s.gone.length+1:=by rw[AW,CJ,Cz,List.length_drop];omega
   cases hk:hasK s.rows d.id with
   | true=>
     have hC:=hC (zH9 (nxS s) d.id) (fun e=>absurd rfl e) (fun _ k=>by omega) (fun _ k=>by omega) (fun _ k=>by omega) (fun _ k=>(Aj hk).symm);obtain⟨f2,_⟩:=Ji hok.asc hk;rw[qD4 hok.asc hk];refine C1.of [(0,some 16436),(1,some 16404),(2,some 16416)] [(16436,some 0),uI 3,uI 4] [] ([(16436,ownO s.sch 3 (s.rows.length-1) 4 (s.gone.length+1) (s.ver+1)),(16404,.dead),(16416,.dead),aR 3 1 ((delR s.rows d.id).map vIs),aR 4 1 ((insG s.gone d.id).map vI)]) hC ?_ rF ?_ rF rF ?_ rF rF (wd rF) (.inl rF) ?_
     ·all_goals (try exact clA)
     ·all_goals (try exact clA)
     ·simp only[wrOk,wrO,TL.get,ltO1]
      all_goals (try exact clA)
     refine sW ?_;have hil:(delR s.rows d.id).length=s.rows.length-1:=List.length_eraseIdx_of_lt f2;generalize delR s.rows d.id=R at hil ⊢
     refine⟨⟨oM,by rw[Cz,List.length_drop];omega⟩,?_⟩;generalize insG s.gone d.id=G at hgl ⊢
     exact .oA [] [3,4]
   | false=>
     have hC:=hC (zS9 (nxS s) d.id) (fun e=>absurd rfl e) (fun _ k=>by omega) (fun _ k=>by omega) (fun _ k=>by omega) (fun _ k=>(Aq (by rw[show hasK (nxS s).rows d.id=false from hk];simp)).symm);rw[zA5 hk];refine C1.of [(0,some 16436),(1,some 16404),(2,some 16416)] [(16436,some 0),(16404,some 1),uI 4] [] ([(16436,ownO s.sch 16404 s.rows.length 4 (s.gone.length+1) (s.ver+1)),aR 16404 1 (s.rows.map vIs),(16416,.dead),aR 4 1 ((insG s.gone d.id).map vI)]) hC ?_ rF ?_ rF rF ?_ rF rF (wd rF) (.inl rF) ?_
     ·all_goals (try exact clA)
     ·all_goals (try exact clA)
     ·simp only[wrOk,wrO,TL.get,ltO1]
      all_goals (try exact clA)
     refine sW ?_;refine⟨by rw[Cz,List.length_drop];omega,?_⟩;generalize insG s.gone d.id=G at hgl ⊢
     exact .oA [] [16404,4]
  ·rw[Aq k4] at hcE;cases hcE
 ·have hA:KT s d=src0:=by rw[KT,Aj hE]
  rw[hA];have hC:=hC (qI7 (nxS s)) (fun _=>rfl) (fun e=>absurd e hE) (fun e=>absurd e hE) (fun e=>absurd e hE) (fun e=>absurd e hE);refine C1.of [(0,some 16436),(1,some 16404),(2,some 16416)] [(16436,some 0),(16404,some 1),(16416,some 2)] [] ([(16436,ownO s.sch 16404 s.rows.length 16416 s.gone.length (s.ver+1)),aR 16404 1 (s.rows.map vIs),aR 16416 1 (s.gone.map vI)]) hC ?_ rF ?_ rF rF ?_ rF rF (wd rF) (.inl rF) ?_
  ·all_goals (try exact clA)
  ·all_goals (try exact clA)
  ·simp only[wrOk,wrO,TL.get,ltO1]
   all_goals (try exact clA)
  simp only[tZ,↓uU,simprocAttr,Bj,Aw];refine⟨fun _=>?_,fun e=>absurd e hE⟩;exact .oA [] []
theorem SrcOk.smy {s:Src} (h:SrcOk s):zq5 s:=⟨(jn h.sch).sm,fun r hr=>by
 have h1:=(Jg (h.rows r hr)).2.1;have h2:=(jn h.sch).nc;omega⟩
theorem qe6 (r:List Int) (k:Int):Sp 35 [vIs r,.ip [vI k]] [] (vB (atR k r)) []:=by
 rcases DX r.length with h0 | h0
 ·have hr:r=[]:=List.length_eq_zero_iff.1 h0;subst hr;rw[show atR k []=false from rfl];refine sIr Zr fun e _ hst=>?_;unfold ke;simp only[tZ,↓uU,simprocAttr,qv8,qI6,Wj,not_false_eq_true,true_and];refine⟨kR,?_⟩;exact .oA [] []
 ·have hg:=zJ h0;have e0:decide ((r.length:Int)>0)=true:=Cx oM;have:atR k r=(hd r==k):=by rw[atR,Cx h0,Fq]
  rw[this];refine sIr Zr fun e _ hst=>?_;unfold ke;simp only[tZ,↓uU,simprocAttr,hg,e0];refine⟨oM,kR,?_⟩;exact .oA [] []
theorem yp (s:Src) (k:Int) (hl:s.rows.length<4611686018427387904):Sp 15 [srcT s,vI k] [] (vI (Qa s k)) []:=by
 have hI:=Zn (atR k) 35 [.ip [vI k]] rfl s.rows (fun r _=>qe6 r k) hl;rw[show TL.idxI (atR k) s.rows=Qa s k from rfl] at hI;refine sIr qg0 fun e _ hst=>?_;unfold Ql;refine sW ?_;refine C1.lend [4100] hI ?_ rF rF ?_
 ·all_goals (try simp only[tL,simprocAttr,By,List.map_cons,List.map_nil,BW,Cy])
  all_goals (try (repeat' (first | exact zl | (apply zC;intro _;exact⟨rfl,rfl⟩) | (apply qh;intro _;exact⟨rfl,rfl⟩) | with_reducible apply zh | with_reducible refine qE ⟨rfl,rfl⟩ ?_ | exact qK | with_reducible apply zb | with_reducible refine za ⟨rfl,rfl,?_⟩ ?_ | with_reducible apply Az | exact zc rfl | exact zc (by assumption) | (refine⟨⟨?_,rfl,?_,rfl,?_⟩,trivial⟩ <;> first | (simp;done) | (apply qh;intro _;exact⟨rfl,rfl⟩)) | trivial | rfl | (rw[qg oM]) | omega)))
  simp only[ltP];exact⟨rfl,by decide,rfl,qE ⟨rfl,rfl⟩ qK⟩
 refine sW ?_;exact .oA [] []
theorem zr6 {xs:List (List Int)} {i:Nat} (h:i<xs.length):(xs.map vIs).getD i .junk=vIs (gd xs i):=by rw[ZM h];exact qd h
theorem zM5 (x y:List Int):repl (vIs x) 0 (vIs y)=vIs y:=rfl
theorem zM6 (x:List Int):(vIs x).cells.getD 0 .junk=vIs x:=rfl
theorem zT1 (xs:List (List Int)) (i:Nat) (v:List Int):(xs.map vIs).set i (vIs v)=(xs.set i v).map vIs:=List.map_set.symm
theorem zT2 (xs:List (List Int)) (i j:Nat):((xs.set i (gd xs j)).set j (gd xs i))=swp xs i j:=rfl
theorem gd_mem {xs:List (List Int)} {i:Nat} (h:i<xs.length):gd xs i∈xs:=by rw[ZM h];exact AX h
section
variable (cv:List Int→List Int→Int) (P:List Int→Prop) (f:FuncId) (hf:∀ x y,P x→P y→Sp f [vIs x,vIs y] [] (vI (cv x y)) [])
abbrev ltV (x y:List Int):Bool:=decide (cv x y<0)
include hf in
theorem kJ (xs:List (List Int)) (hP:∀ x∈xs,P x) (a b:Nat) (hab:a≤b) (hb:b≤xs.length) (hl:xs.length<4611686018427387904) :
 Sp 72 [.asl 0 xs.length,vI a,vI b,.clo f []] [aR 0 1 (xs.map vIs)] (.tup []) [aR 0 1 ((insS (ltV cv) xs a b).map vIs)]:=by
 have hw:=qg (i:=a) oM;refine sIr zQ fun e _ hst=>?_;unfold qR;simp only[tZ,↓uU,simprocAttr,hw];refine qy mixm (α:=List (List Int)×Nat) [8] (fun q=>q.1.length=xs.length∧a+1≤q.2∧(q.2≤b∨q.2=a+1)∧insF (ltV cv) a (b-q.2) q.2 q.1=insS (ltV cv) xs a b∧∀ x∈q.1,P x) (fun q=>[(8,vI q.2)]) (fun q=>[aR 0 1 (q.1.map vIs)]) (fun q=>b-q.2) (xs,a+1) ⟨rfl,BZ _,.inr rfl,rfl,hP⟩ ?_ fun q hq=>?_
 ·exact .oA (U1 0) []
 obtain⟨ys,i⟩:=q;obtain⟨h1,h2,h3,h4,hPy⟩:=hq;dsimp only at h1 h2 h3 h4 hPy;simp only[tZ,↓uU,simprocAttr,AZ,Ay];refine⟨fun h5=>?_,fun h5=>?_⟩
 ·have hi2:i<b:=by omega
  rw[show b-i=(b-(i+1))+1 by omega,insF] at h4;refine qy mixm (α:=List (List Int)×Nat) [9] (fun q=>q.1.length=xs.length∧a≤q.2∧q.2≤i∧insJ (ltV cv) a q.2 q.1=insJ (ltV cv) a i ys∧∀ x∈q.1,P x) (fun q=>[(9,vI q.2)]) (fun q=>[aR 0 1 (q.1.map vIs)]) (fun q=>q.2) (ys,i) ⟨h1,oM,BZ _,rfl,hPy⟩ ?_ fun q hq=>?_
  ·exact .oA (U1 0) []
  obtain⟨zs,j⟩:=q;obtain⟨g1,g2,g3,g4,hPz⟩:=hq;dsimp only at g1 g2 g3 g4 hPz;by_cases hj:a<j
  ·obtain⟨j,rfl⟩:∃ k,j=k+1:=⟨j-1,oM⟩;have hwj:IntKind.i64.wrap (((j+1:Nat):Int)-1)=(j:Int):=by rw[AK _ oM];omega
   have hd:decide (((j+1:Nat):Int)>a)=true:=by simp;omega
   have hc:=hf (gd zs (j+1)) (gd zs j) (hPz _ (gd_mem oM)) (hPz _ (gd_mem oM));simp only[tZ,↓uU,simprocAttr,hwj,hd,Ax,zr6 (show j<zs.length by omega),zr6 (show j+1<zs.length by omega)];refine⟨⟨g1,oM,oM⟩,⟨g1,oM⟩,⟨g1,oM,oM⟩,⟨g1,oM⟩,?_⟩;refine C2.one (by trivial) (C1.im hc rF rF ?_);have hsl:(zs.set (j+1) (gd zs j)).length=zs.length:=Fw;simp only[tZ,↓uU,simprocAttr,hwj,Ax,zr6 (show j<zs.length by omega),zr6 (show j+1<zs.length by omega),zM5,zM6,zT1,zr6 (show j<(zs.set (j+1) (gd zs j)).length by omega),zT2];have hin:insJ (ltV cv) a (j+1) zs=if a<j+1∧ltV cv (gd zs (j+1)) (gd zs j)=true then insJ (ltV cv) a j (swp zs (j+1) j) else zs:=rfl
   refine⟨kR,fun h6=>?_,fun h6=>?_⟩
   ·refine⟨⟨g1,oM,oM⟩,⟨g1,oM⟩,⟨g1,oM,oM⟩,⟨g1,oM⟩,⟨g1,oM,oM⟩,⟨g1,oM⟩,⟨oM,oM,oM⟩,⟨oM,oM⟩,kR,(swp zs (j+1) j,j),⟨by dsimp only;rw[qO];exact g1,by dsimp only;omega,by dsimp only;omega,?_,fun x hx=>hPz x ((qR8 oM oM).mem_iff.1 hx)⟩,by dsimp only;omega,?_⟩
    ·rw[← g4,hin,Aj ⟨hj,h6⟩]
    ·exact .oA (U1 0) []
   ·rw[hin,Aq (fun e=>by have e2:=e.2;unfold ltV at e2;rw[h6] at e2;cases e2)] at g4;have hwi:=qg (i:=i) oM;refine⟨(zs,i+1),⟨g1,by dsimp only;omega,by dsimp only;omega,?_,hPz⟩,by dsimp only;omega,?_⟩
    ·dsimp only;rw[g4];exact h4
    ·rw[hwi];exact .oA (U1 0) []
  ·have hd:decide ((j:Int)>a)=false:=by simp;omega
   have hwi:=qg (i:=i) oM;have hin:insJ (ltV cv) a j zs=zs:=by
    cases j with
    | zero=>rfl
    | succ j=>unfold insJ;rw[Aq (fun e=>hj e.1)]
   rw[hin] at g4;simp only[tZ,↓uU,simprocAttr,hd,hwi];refine C2.no (fun h=>h) ?_;simp only[tZ,↓uU,simprocAttr,hwi];refine⟨kR,(zs,i+1),⟨g1,by dsimp only;omega,by dsimp only;omega,?_,hPz⟩,by dsimp only;omega,?_⟩
   ·dsimp only;rw[g4];exact h4
   ·exact .oA (U1 0) []
 ·rw[show b-i=0 by omega,insF] at h4;rw[← h4];exact .oA (U1 0) []
theorem zI0 {st:Sto} {B:List Nat} (n:Nat) (ts:List T) (h:imAL ts=true):ltAs st (U1 0) B (.asl 0 n::ts) (.asl 0 n::ts):=⟨by simp [ltA,ltC,ltC0,TL.get],yB h⟩
include hf in
theorem Km (xs:List (List Int)) (hP:∀ x∈xs,P x) (lim:Nat) (hl:xs.length≤12) :
 Sp 50 [.asl 0 xs.length,vI 0,vI xs.length,vI lim,.clo f []] [aR 0 1 (xs.map vIs)] (.tup []) [aR 0 1 ((insS (ltV cv) xs 0 xs.length).map vIs)]:=by
 have hw1:IntKind.i64.wrap ((xs.length:Int)-0)=(xs.length:Int):=by rw[AK _ oM];omega
 have hin:=kJ cv P f hf xs hP 0 xs.length oM oM oM;refine jj [11,16,18] jo mixm sMp fun e _ hst=>QR ?_;unfold zg;simp only[yA,List.contains_cons,List.contains_nil,Nat.reduceBEq,Bool.or_false,Bool.or_true,Bool.true_or,Bool.false_or,cond_true,cond_false];refine sW ?_;refine qy mixm (α:=Unit) [1,2,3,10,11] (fun _=>True) (fun _=>[(1,vI 0),(2,vI xs.length),(3,vI lim),(10,vB true),(11,vB true)]) (fun _=>[aR 0 1 (xs.map vIs)]) (fun _=>0) () trivial ?_ fun q hq=>?_
 ·exact .oA (U1 0) []
 simp only[tZ,↓uU,simprocAttr,AZ,Ay,hw1];refine⟨fun h8=>?_,fun h8=>absurd (show (xs.length:Int)≤12 by omega) h8⟩;refine C1.upd 0 1 _ _ hin rF (by apply qh;intro _;exact⟨rfl,rfl⟩) (by apply qh;intro _;exact⟨rfl,rfl⟩) (zI0 _ _ rF) rF ?_;refine sW ?_;exact .oA (U1 0) []
include hf in
theorem ZA (xs:List (List Int)) (hP:∀ x∈xs,P x) (hl:xs.length≤12):∃ ys,(ys.Perm xs∧(SWOrd (ltV cv)→Srt (ltV cv) ys 0 xs.length))∧
 Sp 26 [.asl 0 xs.length,.clo f []] [aR 0 1 (xs.map vIs)] (.tup []) [aR 0 1 (ys.map vIs)]:=by
 obtain⟨lim,hlim,hs⟩:=yR xs.length oM;refine⟨insS (ltV cv) xs 0 xs.length,⟨(zn2 (ltV cv) xs (Nat.zero_le _) (BZ _)).perm,fun ho=>qS0 ho xs (Nat.zero_le _) (BZ _)⟩,?_⟩;have hu:IntKind.u64.wrap (xs.length:Int)=(xs.length:Int):=by rw[IntKind.wrap_u64];omega
 refine sIr kS fun e _ hst=>?_;unfold zD;simp only[tZ,↓uU,simprocAttr,hu];refine C1.im hs rF rF ?_;refine sW ?_;refine C1.upd 0 1 _ _ (Km cv P f hf xs hP lim hl) rF (by apply qh;intro _;exact⟨rfl,rfl⟩) (by apply qh;intro _;exact⟨rfl,rfl⟩) (zI0 _ _ rF) rF ?_;refine sW ?_;exact .oA (U1 0) []
end
end Go.Proofs
