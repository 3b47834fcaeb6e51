/- A part of the proof: trees of Go values, short forms, contracts. -/
import Derived.Test.YtnfagfikoblhfaaGreatDoorK22
namespace Go.Proofs
open Go Go.TL
set_option maxRecDepth 4000
set_option maxHeartbeats 8000000
theorem qp2 (l:List Pk) (p:Pk) (hl:l.length<4611686018427387904):Sp 133 [vPs l,pkT p] [] (vI (idxI (fun y=>eqPk p y) l)) []:=by
 refine sIr qi0 fun e _ hst=>?_;unfold wy;refine sW ?_;refine qt mixm (α:=Nat) [8] (fun i=>i≤l.length∧((l.take i).any (fun y=>eqPk p y)=false)) (fun i=>[(8,vI i)]) (fun i=>[aR 4096 2 [pkT p]]) (fun i=>l.length-i) 0 ⟨oM,?_⟩ ?_ fun i hi=>?_
 ·rfl
 ·exact .oA (U1 4096) []
 simp only[tZ,↓uU,simprocAttr,AZ,Ay];refine⟨fun h=>?_,fun h=>?_⟩
 ·have hi2:i<l.length:=by omega
  have hwi:=qh (i:=i) oM;simp only[tZ,↓uU,simprocAttr,Ax,qd hi2,hwi];refine⟨oM,?_⟩
  repeat (first | refine⟨oM,?_⟩ | refine⟨kR,?_⟩)
  have e:(p.col==l[i].col&&p.lev==l[i].lev)=eqPk p l[i]:=rfl;rw[e];refine⟨fun h3=>?_,fun h3=>⟨i+1,⟨oM,zS hi2 hi.2 h3⟩,oM,?_⟩⟩
  ·rw[idxI,Aj (YG hi2 h3),yg hi2 hi.2 h3];exact .oA [] []
  ·exact .oA (U1 4096) []
 ·have h2:i=l.length:=by omega
  have h3:=hi.2;rw[h2,Bw] at h3;rw[idxI,Aq (by rw[h3];simp)];exact .oA [] []
theorem qb0 (l:List Pk) (p:Pk) (hl:l.length<4611686018427387904):Sp 72 [vPs l,pkT p] [] (vB (l.any fun y=>eqPk p y)) []:=by
 refine sIr WT fun e _ hst=>?_;unfold jW;refine sW ?_;refine C1.im (qp2 l p hl) rF rF ?_;refine sW ?_;rw[show decide (idxI (fun y=>eqPk p y) l≥0)=l.any (fun y=>eqPk p y) from ql4 _ l];exact .oA [] []
theorem js4 (x y:Pk):eqPk x y=eqPk y x:=by
 rw[Bool.eq_iff_iff,qu9,qu9];exact⟨fun h=>h.symm,fun h=>h.symm⟩
theorem zJ2 {α:Type} {p:α→Bool} {l:List α} (h:l.any p=true):∃ (i:Nat) (hi:i<l.length),idxI p l=i∧p l[i]=true:=by
 obtain⟨x,hx,hp⟩:=DJ.1 h;have hlt:=List.findIdx_lt_length_of_exists ⟨x,hx,hp⟩;exact⟨l.findIdx p,hlt,by rw[idxI,Aj h],List.findIdx_getElem⟩
abbrev witT (w:Int×Int×Int×Bool):T:=.tup [vI w.1,vI w.2.1,vI w.2.2.1,vB w.2.2.2]
theorem Ki (s:Sch) (hs:ki s) (d:Dcl) (col:Int) (w:Int×Int×Int×Bool) (hW:WitR s d col w)
 (hM:∀ (q:Qst) (k:Nat) (lev a b:Int),QstOk s q→0<k→k<s.cols.length→(qg s k).kind≠2→0≤lev→lev≤finI s k→qD1 s q k lev a b→Sp 75 [schT s,qstT q,vI k,vI lev] [] (.tup [vI a,vI b]) []):Sp 22 [schT s,dclT d,vI col] [] (witT w) []:=by
 have sP:=JV s hs d;have hpl:=qv6 s d;have sI:=Qc (fun p=>p.col==col) 71 [.ip [vI col]] rfl (zU s d) (fun p _=>qj4 p col) oM;have hge:=ql4 (fun p:Pk=>p.col==col) (zU s d);have hany:((zU s d).any fun p=>p.col==col)=true→dclE s d=0→0<mxl (zU s d) col:=fun h hd=>by
  obtain⟨p,hp,e⟩:=DJ.1 h;rw[AY] at e;have h1:=qk7 hp;rw[wq hd] at hp;have:=(QX hp).1;rw[e] at h1;omega
 refine sIr qm0 fun e _ hst=>?_;unfold wQ;refine sW ?_;refine C1.im sP rF rF ?_;refine sW ?_;refine C1.lend [4104] sI ?_ rF rF ?_
 ·all_goals (try simp only[tL,simprocAttr,By,List.map_cons,List.map_nil,BW,Cy])
  all_goals (try (repeat' (first | exact zk | (apply zH;intro _;exact⟨rfl,rfl⟩) | (apply qw;intro _;exact⟨rfl,rfl⟩) | with_reducible apply ze | with_reducible refine qQ ⟨rfl,rfl⟩ ?_ | exact qR | with_reducible apply qZ | with_reducible refine zd ⟨rfl,rfl,?_⟩ ?_ | with_reducible apply Az | exact qY rfl | exact qY (by assumption) | (refine⟨⟨?_,rfl,?_,rfl,?_⟩,trivial⟩ <;> first | (simp;done) | (apply qw;intro _;exact⟨rfl,rfl⟩)) | trivial | rfl | (rw[qh oM]) | omega)))
  all_goals (simp only[ltP];exact⟨rfl,by decide,rfl,qQ ⟨rfl,rfl⟩ qR⟩)
 simp only[tZ,↓uU,simprocAttr,tD,Bj,Aw];refine⟨fun h=>?_,fun h=>?_⟩
 ·have hw:w=(0,0,0,false):=by
   rcases hW with⟨_,hw⟩ | ⟨hd,k,n,a,b,e1,e2,e3,e4,_,_,_,_,_⟩
   ·exact hw
   ·exfalso
    rcases h with h | h
    ·exact h hd
    ·obtain⟨p,hp,e⟩:=zU7 e4;have:((zU s d).any fun p=>p.col==col)=true:=DJ.2 ⟨p,hp,by rw[AY,e1];exact e⟩;rw[this,AZ] at hge;omega
  rw[hw];exact .oA [] []
 obtain⟨hd,hi0⟩:=h;have hA:((zU s d).any fun p=>p.col==col)=true:=by rw[← hge,AZ];omega
 rcases hW with⟨hno,_⟩ | ⟨_,k,n,a,b,rfl,hk0,hk,hm,hn,hnq,hnm,hP,rfl⟩
 ·exact absurd ⟨hd,hany hA hd⟩ hno
 obtain⟨i,hi,hidx,hic⟩:=zJ2 hA;rw[hidx];rw[AY] at hic;obtain⟨_,_,_,_,_,hq1,hq2,hqs⟩:=JG hd;have hkey:∀ p∈zU s d,p.col=k→p.lev=mxl (zU s d) k:=fun p hp e=>by
  rw[qf8 hd hk];have h2:=hp;rw[wq hd] at h2;have:=(QX h2).2.1;rw[e,Ax] at this;exact this
 have hlev:=hkey _ (AX hi) hic;have hfin:mxl (zU s d) k≤finI s k:=by
  rw[← hnq,QW (hqs n hn) hk];have hqk:=wE (hqs n hn);exact qU7 (JQ hqk.sch hk0 hk) fun p hp e=>by rw[← e];exact qx3 hqk p hp
 have hat:qg s k=s.cols[k]:=by rw[qg,qj hk]
 have hE:=(JG hd).1;have hf59:=JH (c:=k) hE;have hgi:((zU s d).map pkT).getD i .junk=pkT (zU s d)[i]:=qd hi;have hpi:(zU s d)[i]=⟨k,mxl (zU s d) k⟩:=by
  rw[← hlev];cases h:(zU s d)[i] with
  | mk c v=>rw[h] at hic;dsimp only at hic;rw[hic]
 rw[hpi] at hgi;have hw1:IntKind.i64.wrap (mxl (zU s d) k-1)=mxl (zU s d) k-1:=AK _ oM;generalize hlp:mxl (zU s d) k=lev at hm hnq hnm hP hlev hfin hgi hw1;generalize hLL:zU s d=L at hi hgi hlp hpl;refine qt mixm (α:=Nat) [37] (fun j=>j≤n) (fun j=>[(37,vI j)]) (fun j=>[aR 4096 2 [schT s],aR 4104 1 [vI k]]) (fun j=>n-j) 0 oM ?_ fun j hj=>?_
 ·exact .oA (U2 4096 4104) []
 refine sD ?_;refine⟨fun h3=>?_,fun h3=>by omega⟩;have hj2:j<d.qs.length:=by omega
 have hwj:=qh (i:=j) oM;have hqj:qAt d.qs j=d.qs[j]:=by rw[qAt,qj hj2]
 have hqe:=hqs j hj2;rw[hqj] at hqe;have sN:=WE s hs d.qs[j];have hnl:=qe9 s d.qs[j];have sC:=qb0 (jU s d.qs[j]) ⟨k,lev⟩ oM;have hhas:=js3 hqe hk hm;rw[show (fun p=>eqPk p (⟨k,lev⟩:Pk))=fun p=>eqPk ⟨k,lev⟩ p from funext fun p=>js4 _ _] at hhas;simp only[tZ,↓uU,simprocAttr,Ax,qd hj2];refine⟨oM,?_⟩;refine C1.im sN rF rF ?_;simp only[tZ,↓uU,simprocAttr,Ax,hgi];refine⟨oM,?_⟩;refine C1.im sC rF rF ?_;simp only[tZ,↓uU,simprocAttr,Bx,Bz,hwj];refine⟨kR,fun h4=>?_,fun h4=>?_⟩
 ·have hne:j≠n:=fun e=>by
   subst e;rw[hqj] at hnq;rw[hhas.2 hnq] at h4;cases h4
  refine⟨j+1,oM,oM,?_⟩;exact .oA (U2 4096 4104) []
 have hjn:j=n:=by
  refine AQ fun hne=>hnm j oM ?_;rw[hqj];exact hhas.1 h4
 subst hjn;rw[hqj] at hP;have hqk:=wE hqe;unfold qD1 at hP;have hMM:=hM d.qs[j] k (lev-1) a b hqk hk0 hk;have hCC:=qa9 s d.qs[j] hqk k hk hk0;unfold qD1 at hMM;rw[hat] at hP hMM hCC;simp only[tZ,↓uU,simprocAttr,Ax,qd hk,AY,Ak];refine⟨oM,fun h5=>?_,fun h5=>?_⟩
 ·rw[Aj h5] at hP;simp only[tZ,↓uU,simprocAttr,hw1,hgi];refine⟨oM,?_⟩;refine C1.im (hCC h5 (lev-1) a b hP) rF rF ?_;refine sW ?_
  repeat (first | refine⟨oM,?_⟩ | refine⟨kR,?_⟩)
  exact .oA [] []
 ·have hMM:=hMM h5 oM oM hP;simp only[tZ,↓uU,simprocAttr,hw1,hgi];refine⟨oM,?_⟩;refine C1.im hMM rF rF ?_;refine sW ?_
  repeat (first | refine⟨oM,?_⟩ | refine⟨kR,?_⟩)
  exact .oA [] []
def jC2:CodL:=⟨⟨#[108]⟩,[⟨⟨#[97]⟩,-1⟩,⟨⟨#[98]⟩,0⟩,⟨⟨#[99]⟩,0⟩]⟩
def qj5:Sch:=⟨[jC2],[⟨⟨#[119,104,111]⟩,1,0,0,0,[],false⟩,⟨⟨#[115,101,120]⟩,2,0,0,0,[],false⟩]⟩
def jC3:Qst:=⟨⟨#[113]⟩,1,.mk 1 0 0 0 0 [],[⟨1,1⟩],-1,[],cnd0⟩
def qV0:Dcl:=⟨⟨#[112]⟩,⟨#[115]⟩,.mk 1 0 0 0 0 [],⟨1,1,0⟩,[jC3]⟩
theorem zp6:ki qj5:=⟨by decide,by decide,by decide⟩
theorem jW1:WitR qj5 qV0 1 (1,2,0,true):=by
 have hE:schE qj5=0:=by kernel_rfl
 have hok:=qV hE;have hlv:qE qj5 1=[1,2]:=by kernel_rfl
 have h2:(qg qj5 1).kind=2:=rfl;have hh:∀ v,qT qj5 1 v=true→v=1∨v=2:=fun v hv=>by
  have:=(jq hok (i:=1) (by decide) h2).1 hv;rw[hlv] at this;simpa using this
 have hm:mxl (zU qj5 qV0) (1:Nat)=1:=by kernel_rfl
 refine .inr ⟨kR,1,0,1,2,rfl,by decide,by decide,by rw[hm];decide,by decide,?_,fun m h=>by omega,?_,rfl⟩
 ·rw[hm];kernel_rfl
 ·rw[hm];unfold qD1;rw[Aj h2];refine⟨kR,kR,by decide,⟨kR,kR⟩,fun x y hx hy hxy _=>?_⟩;rcases hh x hx with e | e <;> rcases hh y hy with e2 | e2 <;> omega
theorem qx6:Sp 9 [] [] (vB true) []:=by
 have hP:=JV qj5 zp6 qV0;rw[show zU qj5 qV0=[⟨1,1⟩] by kernel_rfl,show dclE qj5 qV0=0 by kernel_rfl] at hP;have hW:=Ki qj5 zp6 qV0 1 _ jW1 fun q k lev a b _ h1 h2 h3 _ _ _=>by
  have:k=1:=by
   have:k<2:=h2;omega
  subst this;exact absurd rfl h3
 have hS:=Ww [⟨1,1⟩] [⟨1,1⟩] (by decide);rw[show qF0 [⟨1,1⟩] [⟨1,1⟩]=true by kernel_rfl] at hS;have hC:=YL qj5 zp6 qV0 [] (by decide);rw[show qT0 qj5 qV0 []=23 by kernel_rfl] at hC;have hI:=QJ [⟨1,1⟩] [⟨1,1⟩] (by decide) (by decide);rw[show covB [⟨1,1⟩] [⟨1,1⟩]=true by kernel_rfl] at hI;refine sIr qW2 fun e _ hst=>?_;unfold Kj;refine sW ?_;refine C1.shutD [8204,8212,8224,16400,16408] hP ?_ rF rfl ?_
 ·simp [ptw,ltAD,ltD,TL.get,T.cells,imT,imL,qj5,jC3,jC2,qV0]
  all_goals (try (repeat' apply Az))
  all_goals (try rfl)
 refine sW ?_;refine C1.lendD [8204,8212,8224,16400,16408] hW ?_ rF rF ?_
 ·simp [ptw,ltAD,ltD,TL.get,T.cells,imT,imL,qj5,jC3,jC2,qV0]
  all_goals (try (repeat' apply Az))
  all_goals (try rfl)
 refine sW ?_;refine C2.lendD [28692] (fun _=>hS) (fun _=>?_) rF rF ?_
 ·simp [ptw,ltAD,ltD,TL.get,T.cells,imT,imL]
  all_goals (try (repeat' apply Az))
  all_goals (try rfl)
 refine sW ?_;refine C2.lendD [8204,8212,8224,16400,16408] (fun _=>hC) (fun _=>?_) rF rF ?_
 ·simp [ptw,ltAD,ltD,TL.get,T.cells,imT,imL,qj5,jC3,jC2,qV0]
  all_goals (try (repeat' apply Az))
  all_goals (try rfl)
 refine sW ?_;refine C2.im (fun _=>hI) (fun _=>rfl) rF ?_;refine sW ?_;exact .oA [] []
theorem nm_p:∀ n:Nat,n<10→jE ⟨#[112,dgt n]⟩=true∧jE ⟨#[113,dgt n]⟩=true:=by
 have:∀ n:Fin 10,jE ⟨#[112,dgt n.1]⟩=true∧jE ⟨#[113,dgt n.1]⟩=true:=by decide +kernel
 exact fun n h=>this ⟨n,h⟩
theorem jW2:∀ i j:Nat,i<10→j<10→i≠j→eqB ⟨#[113,dgt i]⟩ ⟨#[113,dgt j]⟩=false:=by
 have:∀ i j:Fin 10,i.1≠j.1→eqB ⟨#[113,dgt i.1]⟩ ⟨#[113,dgt j.1]⟩=false:=by decide +kernel
 exact fun i j hi hj h=>this ⟨i,hi⟩ ⟨j,hj⟩ h
def qJ9:ByteArray:=⟨#[115,114,99]⟩
theorem jW3:jE qJ9=true:=by decide +kernel
abbrev dcl0:Dcl:=⟨⟨#[]⟩,⟨#[]⟩,cnd0,⟨0,0,0⟩,[]⟩
theorem jW4 {s:Sch} {P:Nat} {c:Cnd} {x:Smp} {qs:List Qst} {N:Nat} (hE:schE s=0) (hP:P<10) (hc:chkC s c=0) (hx:smpE x=0) (h1:1≤qs.length) (hN:qs.length=N) (hN3:N≤3) (hq:∀ i (h:i<qs.length),qstE s qs[i]=0∧qs[i].name=⟨#[113,dgt (N-i)]⟩) :
 dclE s ⟨⟨#[112,dgt P]⟩,qJ9,c,x,qs⟩=0:=by
 rw[dclE,Aq (by rw[hE];simp),Aq (by rw[(nm_p P hP).1,jW3];simp),Aq (by rw[hc];simp),Aq (by rw[hx];simp),Aq (by dsimp only;omega)];refine Wv fun i hi=>?_;have hi:i<qs.length:=hi;have hpi:qAt qs i=qs[i]:=by rw[qAt,qj hi]
 obtain⟨a,b⟩:=hq i hi;rw[qsE,hpi,Aq (by rw[a];simp),Aq];intro k;obtain⟨x,hx,e⟩:=DJ.1 k;obtain⟨j,hj,rfl⟩:=List.mem_take_iff_getElem.1 hx;have hj2:j<i∧j<qs.length:=by have:j<min i qs.length:=hj;omega
 rw[b,(hq j oM).2,jW2 (N-j) (N-i) oM oM oM] at e;cases e
structure DrD (s:Sch) (d:Dcl):Prop where
 len:d.qs.length≤3
 nm:∀ q∈d.qs,∃ n,n<10∧q.name=⟨#[113,dgt n]⟩
 coh:CndOk s 1 d.coh
theorem zp7 {s:Sch} {P:Nat} {c:Cnd} {x:Smp} {qs:List Qst} {N:Nat} (hE:schE s=0) (hP:P<10) (hco:CndOk s 1 c) (hc:chkC s c=0) (hx:smpE x=0) (h1:1≤qs.length) (hN:qs.length=N) (hN3:N≤3) (hq:∀ i (h:i<qs.length),qstE s qs[i]=0∧qs[i].name=⟨#[113,dgt (N-i)]⟩) :
 dclE s ⟨⟨#[112,dgt P]⟩,qJ9,c,x,qs⟩=0∧DrD s ⟨⟨#[112,dgt P]⟩,qJ9,c,x,qs⟩:=
 ⟨jW4 hE hP hc hx h1 hN hN3 hq,by dsimp only;omega,fun q hq2=>by
   obtain⟨i,hi,rfl⟩:=CX hq2;exact⟨N-i,oM,(hq i hi).2⟩,hco⟩
theorem Wa (s:Sch) (hd:DrS s) (l:List UInt8) (a:Nat) (hl:l.length≤400) (ha:a≤l.length) :
 ∃ r:Dcl×Nat,((dclE s r.1=0∧DrD s r.1)∧r.2≤l.length)∧Sp 12 [.ptr 0 1 0 0,schT s] [(0,oC l a)] (dclT r.1) [(0,oC l r.2)]:=by
 have hE:=hd.ok;have hok:=qV hE;obtain⟨p,a1,p1,p2,ha1,sP⟩:=yZ l a 3 hl ha oM;obtain⟨P,rfl⟩:=AJ p1;have hIt:=qv8 P oM;obtain⟨⟨c0,a2⟩,⟨hc0,ha2⟩,sC⟩:=QH s hd l hl 1 a1 ha1 oM;dsimp only at hc0 ha2 sC;have hcf0:=hc0.chk hE oM;have hca:chkC s (.mk 1 0 0 0 0 [])=0:=(yd (s:=s) 1 (qU0 s) rfl).chk hE oM;obtain⟨sd,a3,sd1,sd2,ha3,sS⟩:=yZ l a2 999 hl ha2 oM;obtain⟨o1,a4,ha4,sO⟩:=jA3 l a3 3 hl ha3 oM;obtain⟨o2,a5,ha5,sO2⟩:=jA3 l a4 3 hl ha4 oM;obtain⟨f,a6,f1,f2,ha6,sF⟩:=qf0 l a5 2 5 hl ha5 oM oM;obtain⟨g,a7,g1,g2,ha7,sG⟩:=qf0 l a6 1 f hl ha6 oM oM;obtain⟨ra,ba,ra1,ra2,hba,sRa⟩:=qf0 l a5 1 3 hl ha5 oM oM;obtain⟨Na,rfl⟩:=AJ (show 0≤ra by omega);obtain⟨rb,bb,rb1,rb2,hbb,sRb⟩:=qf0 l a7 1 3 hl ha7 oM oM;obtain⟨Nb,rfl⟩:=AJ (show 0≤rb by omega);refine jB Kl mixm (fun r:Dcl×Nat=>dclT r.1) (fun r=>[(0,oC l r.2)]) sMp ?_;unfold jG;refine sW ?_;refine XE.mp (fun _ _=>C1.draw 0 l a _ sP rfl rfl rfl) ?_;refine sW ?_;refine XE.mp (fun _ _=>C1.im hIt rF rF) ?_;simp only[tZ,↓uU,simprocAttr,qv7];refine XE.sd (show 1+1≤9223372036854775807 by omega) ?_;refine XE.mp (fun _ _=>C1.draw 0 l a1 _ sC rfl rfl rfl) ?_;refine sW ?_;refine XE.mp (fun _ _=>C1.draw 0 l a2 _ sS rfl rfl rfl) ?_;refine sW ?_;refine XE.sd kR ?_;refine XE.mp (fun _ _=>C1.draw 0 l a3 _ sO rfl rfl rfl) ?_;refine sW ?_;apply XE.brB
 ·intro h1;refine XE.mp (fun _ _=>C1.draw 0 l a4 _ sO2 rfl rfl rfl) ?_;refine sW ?_;apply XE.brB
  focus
   intro h2;refine XE.mp (fun _ _=>C1.draw 0 l a5 _ sF rfl rfl rfl) ?_;refine sW ?_;refine XE.mp (fun _ _=>C1.draw 0 l a6 _ sG rfl rfl rfl) ?_;refine sW ?_;refine XE.mp (fun _ _=>C1.draw 0 l a7 _ (sRb) rfl rfl rfl) ?_;refine sW ?_;refine XE.loopF mixm [6,19,23] (fun y:List Qst×Nat=>y.1.length≤Nb∧(∀ i (h:i<y.1.length),qstE s y.1[i]=0∧y.1[i].name=⟨#[113,dgt (Nb-i)]⟩)∧y.2≤l.length) (fun y=>[(6,vI ((Nb-y.1.length:Nat):Int))]) (fun y=>[(0,oC l y.2),aR 4096 2 [schT s],aR 4100 12 [dclT dcl0],aR 8236 12 [.agg [vS ⟨#[112,dgt P]⟩,vS qJ9,vI ((.mk 1 0 0 0 0 []):Cnd).op,vI ((.mk 1 0 0 0 0 []):Cnd).col,vI ((.mk 1 0 0 0 0 []):Cnd).code,vI ((.mk 1 0 0 0 0 []):Cnd).lo,vI ((.mk 1 0 0 0 0 []):Cnd).hi,vCs ((.mk 1 0 0 0 0 []):Cnd).kids,vI g,vI f,vI sd,.asl 1 y.1.length]],aR 1 17 (y.1.map qstT)]) (fun y=>Nb-y.1.length) ([],bb) ⟨sMp,fun i h=>by simp at h,hbb⟩ (fun e ⟨_,hst⟩=>?_) fun T' y hy ih=>?_
   ·exact .oA [uI 0,uI 4096,uI 4100,uI 8236,(1,none)] []
   obtain⟨qs,a8⟩:=y;obtain⟨y1,y2,y3⟩:=hy;dsimp only at y1 y2 y3;simp only[tZ,↓uU,simprocAttr,AZ,Ay];refine XE.brN (fun h4=>?_) (fun h4=>?_)
   ·have hlt:qs.length<Nb:=by omega
    have hI:=qv8 (Nb-qs.length) oM;obtain⟨⟨q,a9⟩,⟨⟨hq,hqn⟩,ha9⟩,sQ⟩:=jF s hd ⟨#[113,dgt (Nb-qs.length)]⟩ (nm_p _ oM).2 l a8 hl y3;dsimp only at hq hqn ha9 sQ;have hwk:=wJ (i:=Nb-qs.length) oM oM;refine XE.mp (fun _ _=>C1.im hI rF rF) ?_;simp only[tZ,↓uU,simprocAttr,qv7];refine XE.sd (show 1+1≤9223372036854775807 by omega) ?_;refine XE.mp (fun _ _=>C1.draw 0 l a8 _ sQ rfl rfl rfl) ?_;simp only[tZ,↓uU,simprocAttr,hwk];refine XE.sd oM (XE.sd kR ?_);refine XE.next ih (qs++[q],a9) ⟨by simp;omega,fun i h=>?_,ha9⟩ (by simp;omega) fun e ⟨_,hst⟩=>?_
    ·dsimp only at h ⊢
     by_cases hi:i<qs.length
     ·rw[List.getElem_append_left hi];exact y2 i hi
     ·have he:i=qs.length:=by rw[AW] at h;simp at h;omega
      subst he;rw[List.getElem_append_right (BZ _)];simpa using Az hq hqn
    ·have e1:Nb-(qs++[q]).length=Nb-qs.length-1:=by rw[AW];simp;omega
     simp only[e1];exact .oA (U5 0 4096 4100 8236 1) []
   ·refine XE.fin (⟨⟨#[112,dgt P]⟩,qJ9,(.mk 1 0 0 0 0 []),⟨g,f,sd⟩,qs⟩,a8) ⟨zp7 hE oM (yd (s:=s) 1 (qU0 s) rfl) hca (by rw[smpE,Aq];dsimp only;omega) oM rfl oM (fun i h=>by have:=y2 i h;rwa [show Nb=qs.length by omega] at this),y3⟩ fun e ⟨_,hst⟩=>?_;exact .oA (U1 0) [1]
  focus
   intro h2;refine XE.mp (fun _ _=>C1.draw 0 l a5 _ (sRa) rfl rfl rfl) ?_;refine sW ?_;refine XE.loopF mixm [6,19,23] (fun y:List Qst×Nat=>y.1.length≤Na∧(∀ i (h:i<y.1.length),qstE s y.1[i]=0∧y.1[i].name=⟨#[113,dgt (Na-i)]⟩)∧y.2≤l.length) (fun y=>[(6,vI ((Na-y.1.length:Nat):Int))]) (fun y=>[(0,oC l y.2),aR 4096 2 [schT s],aR 4100 12 [dclT dcl0],aR 8236 12 [.agg [vS ⟨#[112,dgt P]⟩,vS qJ9,vI ((.mk 1 0 0 0 0 []):Cnd).op,vI ((.mk 1 0 0 0 0 []):Cnd).col,vI ((.mk 1 0 0 0 0 []):Cnd).code,vI ((.mk 1 0 0 0 0 []):Cnd).lo,vI ((.mk 1 0 0 0 0 []):Cnd).hi,vCs ((.mk 1 0 0 0 0 []):Cnd).kids,vI 1,vI 1,vI sd,.asl 1 y.1.length]],aR 1 17 (y.1.map qstT)]) (fun y=>Na-y.1.length) ([],ba) ⟨sMp,fun i h=>by simp at h,hba⟩ (fun e ⟨_,hst⟩=>?_) fun T' y hy ih=>?_
   ·exact .oA [uI 0,uI 4096,uI 4100,uI 8236,(1,none)] []
   obtain⟨qs,a8⟩:=y;obtain⟨y1,y2,y3⟩:=hy;dsimp only at y1 y2 y3;simp only[tZ,↓uU,simprocAttr,AZ,Ay];refine XE.brN (fun h4=>?_) (fun h4=>?_)
   ·have hlt:qs.length<Na:=by omega
    have hI:=qv8 (Na-qs.length) oM;obtain⟨⟨q,a9⟩,⟨⟨hq,hqn⟩,ha9⟩,sQ⟩:=jF s hd ⟨#[113,dgt (Na-qs.length)]⟩ (nm_p _ oM).2 l a8 hl y3;dsimp only at hq hqn ha9 sQ;have hwk:=wJ (i:=Na-qs.length) oM oM;refine XE.mp (fun _ _=>C1.im hI rF rF) ?_;simp only[tZ,↓uU,simprocAttr,qv7];refine XE.sd (show 1+1≤9223372036854775807 by omega) ?_;refine XE.mp (fun _ _=>C1.draw 0 l a8 _ sQ rfl rfl rfl) ?_;simp only[tZ,↓uU,simprocAttr,hwk];refine XE.sd oM (XE.sd kR ?_);refine XE.next ih (qs++[q],a9) ⟨by simp;omega,fun i h=>?_,ha9⟩ (by simp;omega) fun e ⟨_,hst⟩=>?_
    ·dsimp only at h ⊢
     by_cases hi:i<qs.length
     ·rw[List.getElem_append_left hi];exact y2 i hi
     ·have he:i=qs.length:=by rw[AW] at h;simp at h;omega
      subst he;rw[List.getElem_append_right (BZ _)];simpa using Az hq hqn
    ·have e1:Na-(qs++[q]).length=Na-qs.length-1:=by rw[AW];simp;omega
     simp only[e1];exact .oA (U5 0 4096 4100 8236 1) []
   ·refine XE.fin (⟨⟨#[112,dgt P]⟩,qJ9,(.mk 1 0 0 0 0 []),⟨1,1,sd⟩,qs⟩,a8) ⟨zp7 hE oM (yd (s:=s) 1 (qU0 s) rfl) hca (by rw[smpE,Aq];dsimp only;omega) oM rfl oM (fun i h=>by have:=y2 i h;rwa [show Na=qs.length by omega] at this),y3⟩ fun e ⟨_,hst⟩=>?_;exact .oA (U1 0) [1]
 ·intro h1;refine XE.mp (fun _ _=>C1.draw 0 l a4 _ sO2 rfl rfl rfl) ?_;refine sW ?_;apply XE.brB
  focus
   intro h2;refine XE.mp (fun _ _=>C1.draw 0 l a5 _ sF rfl rfl rfl) ?_;refine sW ?_;refine XE.mp (fun _ _=>C1.draw 0 l a6 _ sG rfl rfl rfl) ?_;refine sW ?_;refine XE.mp (fun _ _=>C1.draw 0 l a7 _ (sRb) rfl rfl rfl) ?_;refine sW ?_;refine XE.loopF mixm [6,19,23] (fun y:List Qst×Nat=>y.1.length≤Nb∧(∀ i (h:i<y.1.length),qstE s y.1[i]=0∧y.1[i].name=⟨#[113,dgt (Nb-i)]⟩)∧y.2≤l.length) (fun y=>[(6,vI ((Nb-y.1.length:Nat):Int))]) (fun y=>[(0,oC l y.2),aR 4096 2 [schT s],aR 4100 12 [dclT dcl0],aR 8236 12 [.agg [vS ⟨#[112,dgt P]⟩,vS qJ9,vI (c0:Cnd).op,vI (c0:Cnd).col,vI (c0:Cnd).code,vI (c0:Cnd).lo,vI (c0:Cnd).hi,vCs (c0:Cnd).kids,vI g,vI f,vI sd,.asl 1 y.1.length]],aR 1 17 (y.1.map qstT)]) (fun y=>Nb-y.1.length) ([],bb) ⟨sMp,fun i h=>by simp at h,hbb⟩ (fun e ⟨_,hst⟩=>?_) fun T' y hy ih=>?_
   ·exact .oA [uI 0,uI 4096,uI 4100,uI 8236,(1,none)] []
   obtain⟨qs,a8⟩:=y;obtain⟨y1,y2,y3⟩:=hy;dsimp only at y1 y2 y3;simp only[tZ,↓uU,simprocAttr,AZ,Ay];refine XE.brN (fun h4=>?_) (fun h4=>?_)
   ·have hlt:qs.length<Nb:=by omega
    have hI:=qv8 (Nb-qs.length) oM;obtain⟨⟨q,a9⟩,⟨⟨hq,hqn⟩,ha9⟩,sQ⟩:=jF s hd ⟨#[113,dgt (Nb-qs.length)]⟩ (nm_p _ oM).2 l a8 hl y3;dsimp only at hq hqn ha9 sQ;have hwk:=wJ (i:=Nb-qs.length) oM oM;refine XE.mp (fun _ _=>C1.im hI rF rF) ?_;simp only[tZ,↓uU,simprocAttr,qv7];refine XE.sd (show 1+1≤9223372036854775807 by omega) ?_;refine XE.mp (fun _ _=>C1.draw 0 l a8 _ sQ rfl rfl rfl) ?_;simp only[tZ,↓uU,simprocAttr,hwk];refine XE.sd oM (XE.sd kR ?_);refine XE.next ih (qs++[q],a9) ⟨by simp;omega,fun i h=>?_,ha9⟩ (by simp;omega) fun e ⟨_,hst⟩=>?_
    ·dsimp only at h ⊢
     by_cases hi:i<qs.length
     ·rw[List.getElem_append_left hi];exact y2 i hi
     ·have he:i=qs.length:=by rw[AW] at h;simp at h;omega
      subst he;rw[List.getElem_append_right (BZ _)];simpa using Az hq hqn
    ·have e1:Nb-(qs++[q]).length=Nb-qs.length-1:=by rw[AW];simp;omega
     simp only[e1];exact .oA (U5 0 4096 4100 8236 1) []
   ·refine XE.fin (⟨⟨#[112,dgt P]⟩,qJ9,c0,⟨g,f,sd⟩,qs⟩,a8) ⟨zp7 hE oM hc0 hcf0 (by rw[smpE,Aq];dsimp only;omega) oM rfl oM (fun i h=>by have:=y2 i h;rwa [show Nb=qs.length by omega] at this),y3⟩ fun e ⟨_,hst⟩=>?_;exact .oA (U1 0) [1]
  focus
   intro h2;refine XE.mp (fun _ _=>C1.draw 0 l a5 _ (sRa) rfl rfl rfl) ?_;refine sW ?_;refine XE.loopF mixm [6,19,23] (fun y:List Qst×Nat=>y.1.length≤Na∧(∀ i (h:i<y.1.length),qstE s y.1[i]=0∧y.1[i].name=⟨#[113,dgt (Na-i)]⟩)∧y.2≤l.length) (fun y=>[(6,vI ((Na-y.1.length:Nat):Int))]) (fun y=>[(0,oC l y.2),aR 4096 2 [schT s],aR 4100 12 [dclT dcl0],aR 8236 12 [.agg [vS ⟨#[112,dgt P]⟩,vS qJ9,vI (c0:Cnd).op,vI (c0:Cnd).col,vI (c0:Cnd).code,vI (c0:Cnd).lo,vI (c0:Cnd).hi,vCs (c0:Cnd).kids,vI 1,vI 1,vI sd,.asl 1 y.1.length]],aR 1 17 (y.1.map qstT)]) (fun y=>Na-y.1.length) ([],ba) ⟨sMp,fun i h=>by simp at h,hba⟩ (fun e ⟨_,hst⟩=>?_) fun T' y hy ih=>?_
   ·exact .oA [uI 0,uI 4096,uI 4100,uI 8236,(1,none)] []
   obtain⟨qs,a8⟩:=y;obtain⟨y1,y2,y3⟩:=hy;dsimp only at y1 y2 y3;simp only[tZ,↓uU,simprocAttr,AZ,Ay];refine XE.brN (fun h4=>?_) (fun h4=>?_)
   ·have hlt:qs.length<Na:=by omega
    have hI:=qv8 (Na-qs.length) oM;obtain⟨⟨q,a9⟩,⟨⟨hq,hqn⟩,ha9⟩,sQ⟩:=jF s hd ⟨#[113,dgt (Na-qs.length)]⟩ (nm_p _ oM).2 l a8 hl y3;dsimp only at hq hqn ha9 sQ;have hwk:=wJ (i:=Na-qs.length) oM oM;refine XE.mp (fun _ _=>C1.im hI rF rF) ?_;simp only[tZ,↓uU,simprocAttr,qv7];refine XE.sd (show 1+1≤9223372036854775807 by omega) ?_;refine XE.mp (fun _ _=>C1.draw 0 l a8 _ sQ rfl rfl rfl) ?_;simp only[tZ,↓uU,simprocAttr,hwk];refine XE.sd oM (XE.sd kR ?_);refine XE.next ih (qs++[q],a9) ⟨by simp;omega,fun i h=>?_,ha9⟩ (by simp;omega) fun e ⟨_,hst⟩=>?_
    ·dsimp only at h ⊢
     by_cases hi:i<qs.length
     ·rw[List.getElem_append_left hi];exact y2 i hi
     ·have he:i=qs.length:=by rw[AW] at h;simp at h;omega
      subst he;rw[List.getElem_append_right (BZ _)];simpa using Az hq hqn
    ·have e1:Na-(qs++[q]).length=Na-qs.length-1:=by rw[AW];simp;omega
     simp only[e1];exact .oA (U5 0 4096 4100 8236 1) []
   ·refine XE.fin (⟨⟨#[112,dgt P]⟩,qJ9,c0,⟨1,1,sd⟩,qs⟩,a8) ⟨zp7 hE oM hc0 hcf0 (by rw[smpE,Aq];dsimp only;omega) oM rfl oM (fun i h=>by have:=y2 i h;rwa [show Na=qs.length by omega] at this),y3⟩ fun e ⟨_,hst⟩=>?_;exact .oA (U1 0) [1]
theorem WH (s:Sch) (hd:DrS s) (l:List UInt8) (a:Nat) (hl:l.length≤400) (ha:a≤l.length) :
 ∃ r:Dcl×Nat,(dclE s r.1=0∧r.2≤l.length)∧Sp 12 [.ptr 0 1 0 0,schT s] [(0,oC l a)] (dclT r.1) [(0,oC l r.2)]:=by
 obtain⟨r,⟨⟨h1,_⟩,h2⟩,h⟩:=Wa s hd l a hl ha;exact⟨r,⟨h1,h2⟩,h⟩
theorem zJ3 {s:Sch} {d:Dcl} (h:dclE s d=0):yW s (zU s d)=0∧(∀ p∈zU s d,0<p.lev)∧(zU s d).Pairwise fun a b=>a.col<b.col:=by
 obtain⟨hE,_,_,_,_,_,_,hqs⟩:=JG h;have hp:yW s (zU s d)=0:=by
  rw[wq h];refine zY8 hE fun k hk h0=>?_;obtain⟨p,hp,e1,e2⟩:=qf5 h0;obtain⟨q,hq,hp2⟩:=Ew.1 hp;have hb:=qx5 q p hp2;have hqe:qstE s q=0:=by
   obtain⟨n,hn,rfl⟩:=CX hq;have:=hqs n hn;rw[qAt,qj hn] at this;exact this
  have hqk:=wE hqe;refine⟨oM,?_⟩;rw[← e2];have h1:=qk7 hp2;rw[e1,QW hqe hk] at h1;have:=qU7 (l:=wI s q) (k:=k) (JQ hE oM hk) fun p hp e=>by rw[← e];exact qx3 hqk p hp
  omega
 refine⟨hp,fun p hp=>?_,(zA8 hp).2.2⟩;rw[wq h] at hp;exact (QX hp).1
theorem x_SD (l:List UInt8) (hl:l.length≤400):∃ (s:Sch) (d:Dcl) (a1 a2:Nat),DrS s∧dclE s d=0∧a1≤l.length∧a2≤l.length∧schE s=0∧ki s∧0<s.lists.length∧1≤s.cols.length∧s.cols.length≤8∧
 Sp 11 [.ptr 0 1 0 0] [(0,oC l 0)] (schT s) [(0,oC l a1)]∧Sp 12 [.ptr 0 1 0 0,schT s] [(0,oC l a1)] (dclT d) [(0,oC l a2)]:=by
 obtain⟨⟨s,a1⟩,⟨hD,ha1⟩,sS⟩:=qo6 l 0 hl oM;dsimp only at hD ha1 sS;obtain⟨⟨d,a2⟩,⟨hd,ha2⟩,sDd⟩:=WH s hD l a1 hl ha1;dsimp only at hd ha2 sDd;have hE:=hD.ok;have hn:=(qV hE).nc;exact⟨s,d,a1,a2,hD,hd,ha1,ha2,hE,(qV hE).sm,by obtain⟨a,b,e,_⟩:=hD.ls;rw[e];simp,oM,oM,sS,sDd⟩
theorem zc4 (c:Cnd) (m:Int) (hm:1≤m) (hm2:m≤1000) (hc:cntC c m<m):Sp 148 [cnT c] [] (.asl 0 (atsC c).length) [aR 0 6 ((atsC c).map cndT)]:=by
 have hal:=kY c m hm hc;rw[ZA] at hc hal;obtain⟨hk1,hk2⟩:=qg9 oM hc;have hi:isAt c=((c.op==2)||(c.op==3)||(c.op==4)):=rfl;refine sIr qk2 fun e _ hst=>?_;unfold QM;refine sW ?_;rw[← hi];refine⟨fun h=>?_,fun h=>?_⟩
 ·rw[Yr,Aj h];show yx [] _ _ (.asl 0 1) [aR 0 6 [cndT c]];rw[zh];exact .oA [(0,some 12292)] []
 ·rw[Yr,Aq (by rw[h];simp)] at hal ⊢
  refine qt mixm (α:=Nat) [3,4,17] (fun i=>i≤c.kids.length) (fun i=>[(3,.asl 1 (ZB (c.kids.take i)).length),(4,vI i)]) (fun i=>[aR 4096 6 [cnT c],aR 1 6 ((ZB (c.kids.take i)).map cndT)]) (fun i=>c.kids.length-i) 0 oM ?_ fun i hi2=>?_
  ·exact .oA [uI 4096,(1,none)] []
  have htl:=kg c.kids i;refine sD ?_;refine⟨fun h5=>?_,fun h5=>?_⟩
  ·have hi2:i<c.kids.length:=by omega
   have hwi:=qh (i:=i) oM;obtain⟨m',a1,a2,a3⟩:=hk2 _ (AX hi2);have htl2:=kg c.kids (i+1);rw[qS hi2,QF,AW] at htl2;simp only[tZ,↓uU,simprocAttr,Ax,qd hi2,zh];refine⟨oM,?_⟩;refine C1.im (Ys _ m' a1 oM a3) rF rF ?_;simp only[tZ,↓uU,simprocAttr,hwi];refine⟨oM,i+1,oM,oM,?_⟩;rw[qS hi2,QF,By];refine .of (U2 4096 1) [] rfl (by first | rfl | (rw[hst];rfl)) ?_ ?_
   all_goals (try simp only[tL,simprocAttr,By,List.map_cons,List.map_nil,BW,Cy,Dj])
   all_goals (try (repeat' (first | exact zk | (apply zH;intro _;exact⟨rfl,rfl⟩) | (apply qw;intro _;exact⟨rfl,rfl⟩) | with_reducible apply ze | with_reducible refine qQ ⟨rfl,rfl⟩ ?_ | exact qR | with_reducible apply qZ | with_reducible refine zd ⟨rfl,rfl,?_⟩ ?_ | with_reducible apply Az | exact qY rfl | exact qY (by assumption) | (refine⟨⟨?_,rfl,?_,rfl,?_⟩,trivial⟩ <;> first | (simp;done) | (apply qw;intro _;exact⟨rfl,rfl⟩)) | trivial | rfl | (rw[qh oM]) | omega)))
   all_goals first | exact KW _ | exact YH _
  ·have hil:i=c.kids.length:=by omega
   subst hil;rw[Bw];refine .of [(0,some 1)] [] rfl (by first | rfl | (rw[hst];rfl)) ?_ ?_
   all_goals (try simp only[tL,simprocAttr,By,List.map_cons,List.map_nil,BW,Cy,Dj])
   all_goals (try (repeat' (first | exact zk | (apply zH;intro _;exact⟨rfl,rfl⟩) | (apply qw;intro _;exact⟨rfl,rfl⟩) | with_reducible apply ze | with_reducible refine qQ ⟨rfl,rfl⟩ ?_ | exact qR | with_reducible apply qZ | with_reducible refine zd ⟨rfl,rfl,?_⟩ ?_ | with_reducible apply Az | exact qY rfl | exact qY (by assumption) | (refine⟨⟨?_,rfl,?_,rfl,?_⟩,trivial⟩ <;> first | (simp;done) | (apply qw;intro _;exact⟨rfl,rfl⟩)) | trivial | rfl | (rw[qh oM]) | omega)))
   all_goals first | exact KW _ | exact YH _
def atsQ (q:Qst):List Cnd:=atsC q.filt++atsC q.event
theorem qx7 (q:Qst) (k:Int) (h1:cntC q.filt 41<41) (h2:cntC q.event 41<41):Sp 82 [qstT q,vI k] [] (vCs ((atsQ q).filter fun x=>x.col==k)) []:=by
 have hl1:=kY q.filt 41 oM h1;have hl2:=kY q.event 41 oM h2;refine sIr qY2 fun e _ hst=>?_;unfold Kv;refine sW ?_;refine C1.fresh 5 (zc4 q.filt 41 oM oM h1) rF (YH _) rF ?_;refine sW ?_;refine C1.im (Ys q.event 41 oM oM h2) rF rF ?_;refine sW ?_;rw[show (atsC q.filt).map cndT++(atsC q.event).map cndT=(atsQ q).map cndT by rw[atsQ,By]];have hq:(atsC q.filt).length+(atsC q.event).length=(atsQ q).length:=by rw[atsQ,AW]
 rw[hq];generalize atsQ q=L at hq ⊢
 repeat (first | refine⟨oM,?_⟩ | refine⟨kR,?_⟩)
 have hfl:∀ i,((L.take i).filter fun x=>x.col==k).length≤L.length:=fun i=>FX (Fq _ _) (by rw[Cz];omega);have hfs:∀ {i:Nat} (h:i<L.length),(L.take (i+1)).filter (fun x=>x.col==k)=(L.take i).filter (fun x=>x.col==k)++if (L[i].col==k)=true then [L[i]] else []:=fun {i} h=>by
  rw[qS h,Gz]
  congr 1
  split
  ·rename_i h2;rw[List.filter_cons_of_pos (p:=fun x:Cnd=>x.col==k) h2];rfl
  ·rename_i h2;rw[List.filter_cons_of_neg (p:=fun x:Cnd=>x.col==k) h2];rfl
 refine qt mixm (α:=Nat) [5,7,2,4,8,9,10] (fun i=>i≤L.length) (fun i=>[(5,.asl 1 ((L.take i).filter fun x=>x.col==k).length),(7,vI i)]) (fun i=>[aR 5 6 (L.map cndT),aR 1 6 (((L.take i).filter fun x=>x.col==k).map cndT)]) (fun i=>L.length-i) 0 oM ?_ fun i hi=>?_
 ·refine .of [uI 5,(1,none)] [] rfl (by first | rfl | (rw[hst];rfl)) ?_ ?_
  all_goals (try simp only[tL,simprocAttr,By,List.map_cons,List.map_nil,BW,Cy])
  all_goals (try (repeat' (first | exact zk | (apply zH;intro _;exact⟨rfl,rfl⟩) | (apply qw;intro _;exact⟨rfl,rfl⟩) | with_reducible apply ze | with_reducible refine qQ ⟨rfl,rfl⟩ ?_ | exact qR | with_reducible apply qZ | with_reducible refine zd ⟨rfl,rfl,?_⟩ ?_ | with_reducible apply Az | exact qY rfl | exact qY (by assumption) | (refine⟨⟨?_,rfl,?_,rfl,?_⟩,trivial⟩ <;> first | (simp;done) | (apply qw;intro _;exact⟨rfl,rfl⟩)) | trivial | rfl | (rw[qh oM]) | omega)))
  all_goals first | exact KW _ | exact YH _
 have hfi:=hfl i;refine sD ?_;refine⟨fun h5=>?_,fun h5=>?_⟩
 ·have hi2:i<L.length:=by omega
  have hwi:=qh (i:=i) oM;have hs:=hfs hi2;simp only[tZ,↓uU,simprocAttr,Ax,qd hi2,zh,hwi];refine⟨oM,oM,fun h6=>?_,fun h6=>?_⟩
  ·rw[Aj h6] at hs;refine⟨oM,oM,oM,i+1,oM,oM,?_⟩;rw[hs,By,AW,List.map_cons,List.map_nil,zh L[i]];refine .of (U2 5 1) [] rfl (by first | rfl | (rw[hst];rfl)) ?_ ?_
   all_goals (try simp only[tL,simprocAttr,By,List.map_cons,List.map_nil,BW,Cy,Dj])
   all_goals (try (repeat' (first | exact zk | (apply zH;intro _;exact⟨rfl,rfl⟩) | (apply qw;intro _;exact⟨rfl,rfl⟩) | with_reducible apply ze | with_reducible refine qQ ⟨rfl,rfl⟩ ?_ | exact qR | with_reducible apply qZ | with_reducible refine zd ⟨rfl,rfl,?_⟩ ?_ | with_reducible apply Az | exact qY rfl | exact qY (by assumption) | (refine⟨⟨?_,rfl,?_,rfl,?_⟩,trivial⟩ <;> first | (simp;done) | (apply qw;intro _;exact⟨rfl,rfl⟩)) | trivial | rfl | (rw[qh oM]) | omega)))
   all_goals first | exact KW _ | exact YH _
  ·rw[Aq (by rw[h6];simp),CW] at hs;refine⟨i+1,oM,oM,?_⟩;rw[hs];refine .of (U2 5 1) [] rfl (by first | rfl | (rw[hst];rfl)) ?_ ?_
   all_goals (try simp only[tL,simprocAttr,By,List.map_cons,List.map_nil,BW,Cy])
   all_goals (try (repeat' (first | exact zk | (apply zH;intro _;exact⟨rfl,rfl⟩) | (apply qw;intro _;exact⟨rfl,rfl⟩) | with_reducible apply ze | with_reducible refine qQ ⟨rfl,rfl⟩ ?_ | exact qR | with_reducible apply qZ | with_reducible refine zd ⟨rfl,rfl,?_⟩ ?_ | with_reducible apply Az | exact qY rfl | exact qY (by assumption) | (refine⟨⟨?_,rfl,?_,rfl,?_⟩,trivial⟩ <;> first | (simp;done) | (apply qw;intro _;exact⟨rfl,rfl⟩)) | trivial | rfl | (rw[qh oM]) | omega)))
   all_goals first | exact KW _ | exact YH _
 ·have hil:i=L.length:=by omega
  subst hil;rw[Bw];refine .of [] [1] rfl (by first | rfl | (rw[hst];rfl)) ?_ ?_
  all_goals (try simp only[tL,simprocAttr,By,List.map_cons,List.map_nil,BW,Cy,Dj])
  all_goals (try (repeat' (first | exact zk | (apply zH;intro _;exact⟨rfl,rfl⟩) | (apply qw;intro _;exact⟨rfl,rfl⟩) | with_reducible apply ze | with_reducible refine qQ ⟨rfl,rfl⟩ ?_ | exact qR | with_reducible apply qZ | with_reducible refine zd ⟨rfl,rfl,?_⟩ ?_ | with_reducible apply Az | exact qY rfl | exact qY (by assumption) | (refine⟨⟨?_,rfl,?_,rfl,?_⟩,trivial⟩ <;> first | (simp;done) | (apply qw;intro _;exact⟨rfl,rfl⟩)) | trivial | rfl | (rw[qh oM]) | omega)))
  all_goals first | exact KW _ | exact YH _
def zZ2 (s:Sch) (q:Qst) (k a b:Int):Bool:=(((atsQ q).filter fun x=>x.col==k).any fun x=>zg s x a != zg s x b)||(q.dims.any fun d=>(d.col==k)&&(qk s k d.lev a != qk s k d.lev b))||(qB9 q k&&(a != b))
theorem js5 {c:Cnd} (h:KU c cnd0=true):atsC c=[]∧cntC c 41=1:=by
 rw[zn0] at h;simp only[Bq,AY] at h;obtain⟨⟨⟨⟨⟨h1,_⟩,_⟩,_⟩,_⟩,h6⟩:=h;have hk:c.kids=[]:=by
  cases hk:c.kids with
  | nil=>rfl
  | cons x r=>rw[hk,show cnd0.kids=[] from rfl,wF] at h6;cases h6
 have ho:c.op=0:=h1;refine⟨?_,by rw[ZA,hk,kL]⟩;rw[Yr,Aq (by rw[isAt,ho];decide),hk,ZB]
theorem JW {s:Sch} {q:Qst} (hq:QstOk s q):cntC q.filt 41<41∧cntC q.event 41<41∧(∀ x∈atsQ q,NdOk s x∧isAt x=true)∧(cnsL q).flatMap atsC=atsQ q:=by
 obtain⟨_,f2,_,f4⟩:=JI hq.filt;by_cases h3:q.kind=3
 ·obtain⟨_,e2,_,e4⟩:=JI (hq.event h3).2.2;refine⟨f2,e2,fun x hx=>?_,by rw[cnsL,Aj h3,atsQ];simp⟩;rcases Dz.1 hx with h | h
  ·exact qk3 _ f4 x h
  ·exact qk3 _ e4 x h
 ·obtain⟨e1,e2⟩:=js5 (hq.e0 h3);refine⟨f2,oM,fun x hx=>?_,by rw[cnsL,Aq h3,atsQ,e1];simp⟩;rw[atsQ,e1,CW] at hx;exact qk3 _ f4 x hx
theorem zU8 {s:Sch} {q:Qst} (hq:QstOk s q) {k:Int} (hk:1≤k) (a b:Int):jJ s q k a b=zZ2 s q k a b:=by
 obtain⟨_,_,_,h4⟩:=JW hq;have e1:((cnsL q).any fun c=>(atsC c).any fun x=>(x.col==k)&&(zg s x a != zg s x b))=(((atsQ q).filter fun x=>x.col==k).any fun x=>zg s x a != zg s x b):=by
  rw[List.any_filter,← h4,List.any_flatMap]
 have e2:usB q k=qB9 q k:=by rw[usB,Cx oM,Fj]
 rw[jJ,zZ2,e1,e2,Bool.or_assoc,Bool.or_comm,Bool.or_comm (List.any _ _)]
theorem zp8 {s:Sch} {i:Nat} (h1:1≤i) (h2:i<s.cols.length) (v:Int):canB s i v=qT s i v:=by
 unfold canB;rw[Cx oM,Cx oM,Ax];rfl
theorem jC4 {s:Sch} {k:Int} (h:¬ (1≤k∧k<s.cols.length)) (v:Int):canB s k v=false:=by
 unfold canB;rw[show (decide (1≤k)&&decide (k<s.cols.length))=false by rw[FK,Ay,Ay];omega]
 rfl
theorem zp9 (s:Sch) (hs:ki s) (hL:0<s.lists.length) (q:Qst) (k a b:Int):Sp 24 [schT s,qstT q,vI k,vI a,vI b] [] (vB (Qk s q k a b)) []:=by
 refine sIr qW6 fun e _ hst=>?_;unfold Kn;refine sW ?_;refine C1.im (wK s hs hL q) rF rF ?_;by_cases h0:qstE s q=0∧1≤k∧k<s.cols.length
 ·obtain⟨h0,h1,h2⟩:=h0;obtain⟨i,rfl⟩:=AJ (show 0≤k by omega);have hil:i<s.cols.length:=by omega
  have hq:=wE h0;have hok:=qV hq.sch;obtain⟨f2,f3,hats,_⟩:=JW hq;have hnd:=hq.nd;have hnt:=hq.nt;have hT:Qk s q i a b=(qT s i a&&qT s i b&&zZ2 s q i a b):=by
   rw[Qk,h0,zp8 oM hil,zp8 oM hil,zU8 hq h1];simp
  have hR:zZ2 s q i a b=((((atsQ q).filter fun x=>x.col==(i:Int)).any fun x=>zg s x a != zg s x b)||(q.dims.any fun d=>(d.col==(i:Int))&&(qk s i d.lev a != qk s i d.lev b))||(qB9 q i&&(a != b))):=rfl;have e1:decide ((i:Int)<1)=false:=Cq oM;have e2:decide ((i:Int)≥s.cols.length)=false:=Cq oM;have hHa:=Yq s hok i hil a;have hHb:=Yq s hok i hil b;have hAll:=kY q.filt 41 oM f2;have hAll2:=kY q.event 41 oM f3;have hQl:(atsQ q).length≤80:=by rw[atsQ,AW];omega
  have hfl:=Fq (fun x:Cnd=>x.col==(i:Int)) (atsQ q);have hfm:∀ x∈(atsQ q).filter (fun x=>x.col==(i:Int)),NdOk s x∧isAt x=true:=fun x hx=>hats x (Fx.1 hx).1;rw[hT];simp only[tZ,↓uU,simprocAttr,h0,bne_self_eq_false,e1,e2];refine C2.im (fun _=>hHa) (fun _=>rfl) rF ?_;refine sW ?_;refine C2.im (fun _=>hHb) (fun _=>rfl) rF ?_;simp only[tZ,↓uU,simprocAttr,tD,Bx,Bz];refine⟨fun h=>?_,fun h=>?_⟩
  ·rw[show (qT s i a&&qT s i b&&zZ2 s q i a b)=false by rcases h with h | h <;> rw[h] <;> simp];exact .oA [] []
  rw[h.1,h.2,Fj,Fj,hR];refine C1.im (qx7 q i f2 f3) rF rF ?_;generalize (atsQ q).filter (fun x=>x.col==(i:Int))=L at hfl hfm ⊢
  refine sW ?_;refine qt mixm (α:=Nat) [12] (fun n=>n≤L.length∧((L.take n).any fun x=>zg s x a != zg s x b)=false) (fun n=>[(12,vI n)]) (fun n=>[aR 4096 2 [schT s],aR 4100 17 [qstT q]]) (fun n=>L.length-n) 0 ⟨oM,rfl⟩ ?_ fun n hn=>?_
  ·exact .oA (U2 4096 4100) []
  refine sD ?_;refine⟨fun h5=>?_,fun h5=>?_⟩
  ·have hn2:n<L.length:=by omega
   have hwn:=qh (i:=n) oM;obtain⟨hnd1,ha⟩:=hfm _ (AX hn2);have hAt:=fun v=>qe5 s hok L[n] hnd1 v;simp only[tZ,↓uU,simprocAttr,Ax,qd hn2,zh];refine⟨oM,?_⟩;refine C1.im (hAt a) rF rF ?_;simp only[tZ,↓uU,simprocAttr,Ax,qd hn2,zh];refine⟨oM,?_⟩;refine C1.im (hAt b) rF rF ?_;simp only[tZ,↓uU,simprocAttr,hwn];refine⟨kR,fun h6=>?_,fun h6=>?_⟩
   ·rw[YG hn2 h6,Bool.true_or,Bool.true_or];exact .oA [] []
   ·refine⟨n+1,⟨oM,zS hn2 hn.2 h6⟩,oM,?_⟩;exact .oA (U2 4096 4100) []
  ·have hnl:n=L.length:=by omega
   subst hnl;have hn2:=hn.2;rw[Bw] at hn2;rw[hn2,Bool.false_or];refine qt mixm (α:=Nat) [13] (fun n=>n≤q.dims.length∧((q.dims.take n).any fun d=>(d.col==(i:Int))&&(qk s i d.lev a != qk s i d.lev b))=false) (fun n=>[(13,vI n)]) (fun n=>[aR 4096 2 [schT s],aR 4100 17 [qstT q]]) (fun n=>q.dims.length-n) 0 ⟨oM,rfl⟩ ?_ fun n hn=>?_
   ·exact .oA (U2 4096 4100) []
   refine sD ?_;refine⟨fun h5=>?_,fun h5=>?_⟩
   ·have hn2:n<q.dims.length:=by omega
    have hwn:=qh (i:=n) oM;have hC:=fun v=>jj s hs i q.dims[n].lev v;simp only[tZ,↓uU,simprocAttr,Ax,qd hn2];refine⟨oM,?_⟩;refine C2.im (fun _=>hC a) (fun _=>rfl) rF ?_;refine sW ?_;refine C2.im (fun _=>hC b) (fun _=>rfl) rF ?_;simp only[tZ,↓uU,simprocAttr,hwn];refine⟨kR,fun h6=>?_,fun h6=>?_⟩
    ·rw[YG hn2 h6,Bool.true_or];exact .oA [] []
    ·refine⟨n+1,⟨oM,zS hn2 hn.2 h6⟩,oM,?_⟩;exact .oA (U2 4096 4100) []
   ·have hnl:n=q.dims.length:=by omega
    subst hnl;have hn2:=hn.2;rw[Bw] at hn2;rw[hn2,Bool.false_or];refine C1.im (qe6 q i oM) rF rF ?_;refine sW ?_;exact .oA [] []
 ·have e:((qstE s q != 0)||decide (k<1)||decide (k≥(s.cols.length:Int)))=true:=by
   by_cases h1:qstE s q=0
   ·simp only[DZ,AZ];omega
   ·rw[Bj.2 h1];rfl
  rw[show Qk s q k a b=false by
   unfold Qk;by_cases h1:qstE s q=0
   ·rw[jC4 (fun h=>h0 ⟨h1,h⟩)];simp
   ·rw[Ak.2 h1];rfl]
  simp only[tZ,↓uU,simprocAttr,e];refine C2.no sMp ?_;refine sW ?_;refine C2.no sMp ?_;refine sW ?_;exact .oA [] []
def edgA (k:Int) (l:List Cnd):List Int:=l.flatMap fun x=>if x.col=k then [x.lo,IntKind.i64.wrap (x.hi+1)] else []
def edgL (s:Sch) (q:Qst) (k:Nat):List Int:=((if usB q k=true then [(qg s k).low+1,(qg s k).low+2] else [])++edgA k (atsC q.filt))++edgA k (atsC q.event)
theorem zZ3 {s:Sch} {q:Qst} {k a x b:Int} (h1:jJ s q k a x=false) (h2:jJ s q k a b=false):jJ s q k x b=false:=by
 unfold jJ at h1 h2 ⊢
 rw[FQ,FQ] at h1 h2 ⊢
 obtain⟨⟨u1,d1⟩,c1⟩:=h1;obtain⟨⟨u2,d2⟩,c2⟩:=h2;refine⟨⟨?_,?_⟩,?_⟩
 ·rw[FK,Aw] at u1 u2 ⊢
  rcases u1 with u1 | u1
  ·exact .inl u1
  rcases u2 with u2 | u2
  ·exact .inl u2
  ·exact .inr (u1.symm.trans u2)
 ·rw[List.any_eq_false] at d1 d2 ⊢
  intro d hd;have e1:=d1 d hd;have e2:=d2 d hd;rw[Bq,Bj] at e1 e2 ⊢
  rintro ⟨e,hne⟩;have f1:qk s k d.lev a=qk s k d.lev x:=AQ fun n=>e1 ⟨e,n⟩;have f2:qk s k d.lev a=qk s k d.lev b:=AQ fun n=>e2 ⟨e,n⟩;exact hne (f1.symm.trans f2)
 ·rw[List.any_eq_false] at c1 c2 ⊢
  intro c hc;have e1:=c1 c hc;have e2:=c2 c hc;rw[Bool.not_eq_true,List.any_eq_false] at e1 e2 ⊢
  intro y hy;have e1:=e1 y hy;have e2:=e2 y hy;rw[Bq,Bj] at e1 e2 ⊢
  rintro ⟨e,hne⟩;have f1:zg s y a=zg s y x:=AQ fun n=>e1 ⟨e,n⟩;have f2:zg s y a=zg s y b:=AQ fun n=>e2 ⟨e,n⟩;exact hne (f1.symm.trans f2)
theorem zZ4 {s:Sch} {q:Qst} (hE:schE s=0) {k:Nat} (hk:k<s.cols.length) (h0:0<k) (h2:(qg s k).kind≠2) {lev:Nat} (hl:(lev:Int)≤finI s k) {a b:Int} (hL:LeastX s q k lev b) (ha:(qg s k).low≤a) (hab:a<b) (hc:qk s k lev a=qk s k lev b):jJ s q k a b=true:=by
 cases ht:jJ s q k a b with
 | true=>rfl
 | false=>
   exfalso
   have hno:jJ s q k a (b-1)=false:=by
    rcases (show a<b-1∨b-1≤a by omega) with g | g
    ·cases e:jJ s q k a (b-1) with
     | false=>rfl
     | true=>
       exfalso
       obtain⟨y,y1,y2,y3⟩:=qU9 g e;refine hL.least y oM oM ⟨?_,y3⟩;rw[qD2 hE hk h0 h2 hl ha hL.hi (show a≤y-1 by omega) oM hc,qD2 hE hk h0 h2 hl ha hL.hi (show a≤y by omega) oM hc]
    ·rw[show b-1=a by omega];exact zC6
   have:=zZ3 hno ht;rw[hL.qb.2] at this;cases this
theorem zZ5 {s:Sch} {q:Qst} (hE:schE s=0) {k:Nat} (hk:k<s.cols.length) (h0:0<k) (h2:(qg s k).kind≠2) {lev:Nat} (hl:(lev:Int)≤finI s k) {a x b:Int} (hL:LeastX s q k lev b) (ha:(qg s k).low≤a) (hax:a<x) (hx:x≤(qg s k).high) (hc:qk s k lev a=qk s k lev x) (ht:jJ s q k a x=true):b≤x:=by
 obtain⟨y,y1,y2,y3⟩:=qU9 hax ht;refine AQ fun hn=>hL.least y oM oM ⟨?_,y3⟩;rw[qD2 hE hk h0 h2 hl ha hx (show a≤y-1 by omega) oM hc,qD2 hE hk h0 h2 hl ha hx (show a≤y by omega) oM hc]
theorem qx8 {s:Sch} {q:Qst} (hq:QstOk s q) {k:Nat} (h2:(qg s k).kind≠2) {x:Cnd} (hx:x∈atsQ q) (e:x.col=k):(x.op=3∨x.op=4)∧(x.op=3→-1000000≤x.lo∧x.hi≤1000000∧x.lo≤x.hi):=by
 obtain⟨hnd,hia⟩:=(JW hq).2.2.1 x hx;refine⟨?_,fun h=>(hnd.between h).2⟩;unfold isAt at hia;simp only[DZ,AY] at hia;rcases hia with (h | h) | h
 ·have:=(zu.1 (hnd.under h).1).2.2;rw[e,Ax] at this;exact absurd this h2
 ·exact .inl h
 ·exact .inr h
theorem zC7 {s:Sch} {q:Qst} (hq:QstOk s q) {k:Nat} (h2:(qg s k).kind≠2) {a b:Int} (h:jJ s q k a b=true):(usB q k=true∧a≠b)∨∃ x∈atsQ q,x.col=k∧zg s x a≠zg s x b:=by
 unfold jJ at h;rw[DZ,DZ] at h;rcases h with (h | h) | h
 ·rw[Bq,Bj] at h;exact .inl h
 ·obtain⟨d,hd,h3⟩:=DJ.1 h;rw[Bq,AY] at h3;have:=(zu.1 (qf4 hq d hd).2).2.2;rw[h3.1,Ax] at this;exact absurd this h2
 ·obtain⟨c,hc,h3⟩:=DJ.1 h;obtain⟨x,hx,h4⟩:=DJ.1 h3;rw[Bq,AY,Bj] at h4;refine .inr ⟨x,?_,h4⟩;rw[← (JW hq).2.2.2];exact Ew.2 ⟨c,hc,hx⟩
theorem jQ5 {s:Sch} {q:Qst} (hq:QstOk s q) {k:Nat} (h0:0<k) {a b:Int} (h:(usB q k=true∧a≠b)∨∃ x∈atsQ q,x.col=k∧zg s x a≠zg s x b):jJ s q k a b=true:=by
 rcases h with h | ⟨x,hx,e,hne⟩
 ·unfold jJ;rw[h.1,Bj.2 h.2]
  rfl
 ·rw[zU8 hq oM];unfold zZ2;rw[show (((atsQ q).filter fun x=>x.col==(k:Int)).any fun x=>zg s x a != zg s x b)=true from DJ.2 ⟨x,Fx.2 ⟨hx,AY.2 e⟩,Bj.2 hne⟩];simp
theorem jY0 (b:Bool):tf b≠0:=by cases b <;> decide
theorem js6 {s:Sch} {q:Qst} (hq:QstOk s q) {k:Nat} (h0:0<k) (hk:k<s.cols.length) (h2:(qg s k).kind≠2) (h:0<mxl (wI s q) k) {v:Int} (hv:v≠zn):jJ s q k zn v=true:=by
 obtain⟨a,b,_,_,_,ht⟩:=zU6 hq h0 hk h;refine jQ5 hq h0 ?_;rcases zC7 hq h2 ht with h3 | ⟨x,hx,e,_⟩
 ·exact .inl ⟨h3.1,fun e=>hv e.symm⟩
 ·refine .inr ⟨x,hx,e,?_⟩;rcases (qx8 hq h2 hx e).1 with o | o
  ·rw[zY9 o,zY9 o,Aj rfl,Aq hv];exact fun e=>jY0 _ e.symm
  ·rw[zC5 o,zC5 o,beq_self_eq_true,show (v==zn)=false from Ak.2 hv];decide
theorem jK7 {s:Sch} {q:Qst} (hE:schE s=0) {k:Nat} (hk:k<s.cols.length) (h0:0<k) (h2:(qg s k).kind≠2) {lev:Nat} (hl:(lev:Int)≤finI s k) {b:Int} (hL:LeastX s q k lev b) (hu:usB q k=true) :
 (b=(qg s k).low+1∧(lev=0∨qk s k lev b≤(qg s k).low))∨(b=(qg s k).low+2∧lev≠0∧qk s k lev b=(qg s k).low+1):=by
 have hm:=zK hE hk h0 h2;have hlh:=hm.lh;have hlo:=hL.lo;have hhi:=hL.hi;have hH:∀ v,(qg s k).low≤v→v≤(qg s k).high→qT s k v=true:=fun v h1 h2=>(zx hm.kind).2 (.inr ⟨h1,h2⟩);have hq2:∀ y,(qg s k).low<y→y<b→qk s k lev (y-1)≠qk s k lev y:=fun y h1 h3 e=>hL.least y h1 h3 ⟨e,by
  unfold jJ;rw[hu,Bj.2 (show y-1≠y by omega)]
  rfl⟩
 have hb:=hL.qb.1;by_cases e0:lev=0
 ·subst e0;left
  refine⟨AQ fun hn=>?_,.inl rfl⟩;refine hq2 ((qg s k).low+1) oM oM ?_;have c1:=ZC hE hk h0 h2 (hH ((qg s k).low+1-1) oM oM);have c2:=ZC hE hk h0 h2 (hH ((qg s k).low+1) oM oM);exact c1.trans c2.symm
 ·have hf:=hm.fin;have hw:=hm.wid lev oM oM;have cm:∀ v,(qg s k).low≤v→v≤(qg s k).high→qk s k lev v=qJ v (qK (qg s k) lev)*qK (qg s k) lev:=fun v h1 h3=>by
   rw[JR hm hl (hH v h1 h3),Aq e0,Aq (fun e=>by unfold zn at e;omega)]
  rw[cm (b-1) oM oM,cm b oM oM] at hb;by_cases e1:qJ (qg s k).low (qK (qg s k) lev)*qK (qg s k) lev=qJ ((qg s k).low+1) (qK (qg s k) lev)*qK (qg s k) lev
  ·have hbl:b=(qg s k).low+1:=AQ fun hn=>by
    refine hq2 ((qg s k).low+1) oM oM ?_;rw[show (qg s k).low+1-1=(qg s k).low by omega,cm _ oM oM,cm _ oM oM];exact e1
   left
   refine⟨hbl,.inr ?_⟩;rw[cm b oM oM,hbl,← e1];exact (jV oM).2
  ·have hd:qK (qg s k) lev ∣ (qg s k).low+1:=AQ fun hn=>by
    have:=qU8 (show 0<qK (qg s k) lev by omega) hn;rw[show (qg s k).low+1-1=(qg s k).low by omega] at this;exact e1 this
   have hb1:b≠(qg s k).low+1:=fun e=>by
    rw[e,show (qg s k).low+1-1=(qg s k).low by omega] at hb;exact e1 hb
   have hb2:b=(qg s k).low+2:=AQ fun hn=>by
    have h3:=hq2 ((qg s k).low+2) oM oM;rw[cm _ oM oM,cm _ oM oM] at h3;have hd2:qK (qg s k) lev ∣ (qg s k).low+2:=AQ fun hn=>h3 (qU8 oM hn);have h4:=Int.dvd_sub hd2 hd;rw[show (qg s k).low+2-((qg s k).low+1)=1 by omega] at h4;have h5:=Int.le_of_dvd (by decide) h4;have h6:qK (qg s k) lev=1:=by omega
    rw[h6] at hb;exact jr3 (by decide) ⟨b,oM⟩ hb
   right
   refine⟨hb2,e0,?_⟩;rw[cm b oM oM,← hb,hb2,show (qg s k).low+2-1=(qg s k).low+1 by omega];exact jr2 oM hd
theorem zh3 {s:Sch} {q:Qst} (hq:QstOk s q) {k:Nat} (hk:k<s.cols.length) (h0:0<k) (h2:(qg s k).kind≠2) {lev:Nat} (hl:(lev:Int)≤finI s k) {b:Int} (hL:LeastX s q k lev b):(usB q k=true∧(b=(qg s k).low+1∨b=(qg s k).low+2))∨∃ x∈atsQ q,x.col=k∧x.op=3∧(b=x.lo∨b=x.hi+1):=by
 have hm:=zK hq.sch hk h0 h2;have hlh:=hm.lh;have hlo:=hL.lo;rcases zC7 hq h2 hL.qb.2 with h | ⟨x,hx,e,hne⟩
 ·refine .inl ⟨h.1,?_⟩;rcases jK7 hq.sch hk h0 h2 hl hL h.1 with h | h
  ·exact .inl h.1
  ·exact .inr h.1
 ·refine .inr ⟨x,hx,e,?_⟩;have n1:b-1≠zn:=fun e=>by unfold zn at e;omega
  have n2:b≠zn:=fun e=>by unfold zn at e;omega
  rcases (qx8 hq h2 hx e).1 with o | o
  ·refine⟨o,?_⟩;rw[zY9 o,zY9 o,Aq n1,Aq n2] at hne;refine AQ fun hn=>hne ?_
   congr 1
   rw[Bool.eq_iff_iff,Bq,Bq,AZ,AZ,AZ,AZ];omega
  ·rw[zC5 o,zC5 o,Ak.2 n1,Ak.2 n2] at hne;exact absurd rfl hne
theorem jC5 {s:Sch} {q:Qst} (hq:QstOk s q) {k:Nat} (hk:k<s.cols.length) (h0:0<k) (h2:(qg s k).kind≠2) {lev:Nat} (hl:(lev:Int)≤finI s k) {b:Int} (hL:LeastX s q k lev b):b∈edgL s q k:=by
 have hA:∀ (l:List Cnd) (x:Cnd),x∈l→x.col=(k:Int)→x.op=3→x∈atsQ q→(b=x.lo∨b=x.hi+1)→b∈edgA k l:=fun l x hx e o hx2 hb=>by
  have h3:=(qx8 hq h2 hx2 e).2 o;refine Ew.2 ⟨x,hx,?_⟩;rw[Aj e,AK _ (show -9223372036854775808≤x.hi+1∧x.hi+1≤9223372036854775807 by omega)];rcases hb with h | h
  ·rw[h];exact List.mem_cons_self
  ·rw[h];exact CQ _ List.mem_cons_self
 unfold edgL;rcases zh3 hq hk h0 h2 hl hL with⟨h1,h3⟩ | ⟨x,hx,e,o,hb⟩
 ·refine Dz.2 (.inl (Dz.2 (.inl ?_)));rw[Aj h1];rcases h3 with h3 | h3
  ·rw[h3];exact List.mem_cons_self
  ·rw[h3];exact CQ _ List.mem_cons_self
 ·rcases Dz.1 hx with hx2 | hx2
  ·exact Dz.2 (.inl (Dz.2 (.inr (hA _ x hx2 e o hx hb))))
  ·exact Dz.2 (.inr (hA _ x hx2 e o hx hb))
theorem zC8 {F:List Int} (hs:F.Pairwise (·≤·)) {b:Int} (hb:b∈F):∃ (j:Nat) (hj:j<F.length),F[j]=b∧∀ (i:Nat) (hi:i<j),F[i]<b:=by
 obtain⟨n,hn,e⟩:=CX hb;obtain⟨j,⟨j1,j2⟩,_,j3⟩:=qh4 (p:=fun n=>n<F.length∧F.getD n 0=b) n ⟨hn,by rw[qj hn];exact e⟩;rw[qj j1] at j2;refine⟨j,j1,j2,fun i hi=>?_⟩;have h1:=DX.1 hs i j oM j1 hi;have h2:F[i]≠b:=fun e=>j3 i hi ⟨oM,by rw[qj (show i<F.length by omega)];exact e⟩;omega
theorem qL2 (k:Int) (l:List Cnd):(edgA k l).length≤2*l.length:=by
 induction l with
 | nil=>simp [edgA]
 | cons x r ih=>
   unfold edgA at ih ⊢
   rw[Gj,AW,CJ];have:(if x.col=k then [x.lo,IntKind.i64.wrap (x.hi+1)] else []).length≤2:=by split <;> simp
   omega
theorem zC9 (k:Int) {l:List Cnd} {i:Nat} (h:i<l.length):edgA k (l.take (i+1))=edgA k (l.take i)++if l[i].col=k then [l[i].lo,IntKind.i64.wrap (l[i].hi+1)] else []:=by
 unfold edgA;rw[qS h,List.flatMap_append];simp
open Go.TL.So
theorem jC6 (k:UInt8):IntKind.i64.wrap (0+IntKind.i64.wrap ((k.toNat:Nat):Int))=(k.toNat:Int):=by
 have h:=k.toNat_lt;rw[AK (k.toNat:Int) oM,AK _ oM];omega
def L8 (n:Nat):Nat:=if n=0 then 0 else Nat.log2 n+1
theorem jW5 (n:Nat) (h:n<256):L8 n≤8∧n<2 ^ L8 n∧(0<n→2 ^ L8 n≤2*n):=by
 unfold L8
 revert n
 decide +kernel
def L16 (n:Nat):Nat:=if n<256 then L8 n else 8+L8 (n / 256)
theorem jW6 (n:Nat) (h:n<65536):L16 n≤16∧n<2 ^ L16 n∧(0<n→2 ^ L16 n≤2*n):=by
 unfold L16;split
 ·rename_i h2;obtain⟨h3,h4,h5⟩:=jW5 n h2;exact⟨oM,h4,h5⟩
 ·rename_i h2;obtain⟨h3,h4,h5⟩:=jW5 (n / 256) oM;rw[Nat.pow_add];have h6:=h5 oM;generalize 2 ^ L8 (n / 256)=p at *
  refine⟨oM,?_,fun _=>?_⟩ <;> omega
set_option maxRecDepth 100000 in
theorem qD4 (n:Nat) (h:n<65536):Sp 227 [vU64 n] [] (vI (L16 n)) []:=by
 have d1:decide ((n:Int)≥4294967296)=false:=Cq oM;have d2:decide ((n:Int)≥65536)=false:=Cq oM;by_cases h8:n<256
 ·have d3:decide ((n:Int)≥256)=false:=Cq oM;have hw:IntKind.u8.wrap (n:Int)=n:=by rw[IntKind.wrap_u8];omega
  rw[L16,Aj h8];refine sIr Kh fun e _ hst=>?_;unfold kI;simp only[tZ,↓uU,simprocAttr,d1,d2,d3,hw,Ax,jC6];refine⟨⟨oM,Int.ofNat_lt.2 h8⟩,.imR (congrArg (fun k:Nat=>vI (k:Int)) ?_) rfl⟩;clear d1 d2 d3 hw h;unfold L8
  revert n
  decide +kernel
 ·have d3:decide ((n:Int)≥256)=true:=Cx oM;have hs:shrI .u64 (n:Int) 8=((n / 256:Nat):Int):=by
   simp only[shrI];rw[show min (8:Int).toNat IntKind.u64.bits=8 from rfl,show (2:Int) ^ 8=256 from rfl,DW _ oM];omega
  have hw:IntKind.u8.wrap ((n / 256:Nat):Int)=((n / 256:Nat):Int):=by rw[IntKind.wrap_u8];omega
  have hw2:IntKind.i64.wrap (0+8)=8:=by decide
  rw[L16,Aq h8];refine sIr Kh fun e _ hst=>?_;unfold kI;simp only[tZ,↓uU,simprocAttr,d1,d2,d3,hs,hw,hw2,Ax];have hm:n / 256<256:=by omega
  refine⟨⟨oM,Int.ofNat_lt.2 hm⟩,.imR (congrArg vI ?_) rfl⟩;clear d1 d2 d3 hw hw2 hs h h8 hst;generalize n / 256=m at *
  unfold L8
  revert m
  decide +kernel
theorem qf9 (n:Nat) (h:n<65536):∃ l:Nat,(l≤16∧n<2 ^ l∧(0<n→2 ^ l≤2*n))∧Sp 166 [vU64 n] [] (vI l) []:=by
 have hs:=qD4 n h;refine⟨L16 n,jW6 n h,?_⟩;refine sIr qH5 fun e _ hst=>?_;unfold Zj;refine sW ?_;refine C1.im hs rF rF ?_;refine sW ?_;exact .imR rfl rfl
theorem YA (n:Nat) (h0:0<n) (h:n<65536):∃ p:Nat,(0<p∧p≤2*n)∧Sp 257 [vI n] [] (vU64 p) []:=by
 obtain⟨l,hl,hs⟩:=qf9 n h;refine⟨2 ^ l,⟨Nat.pow_pos oM,hl.2.2 h0⟩,?_⟩;have hw:IntKind.u64.wrap (n:Int)=n:=by rw[IntKind.wrap_u64];omega
 refine sIr Wr fun e _ hst=>?_;unfold jR;simp only[tZ,↓uU,simprocAttr,hw];refine C1.im hs rF rF ?_;refine sW ?_;have h2:shlI .u64 1 (l:Int)=((2 ^ l:Nat):Int):=by
  obtain⟨h1,_,_⟩:=hl;have:∀ l:Nat,l≤16→shlI .u64 1 (l:Int)=((2 ^ l:Nat):Int):=by decide
  exact this l h1
 rw[h2];exact⟨oM,.imR rfl rfl⟩
def xs1 (v:Int):Int:=xorI .u64 v (shlI .u64 v 13)
def xs2 (v:Int):Int:=xorI .u64 v (shrI .u64 v 7)
def xs3 (v:Int):Int:=xorI .u64 v (shlI .u64 v 17)
theorem qb1 (v:Int):Sp 258 [.ptr 0 1 0 0] [aR 0 1 [vU64 v]] (vU64 (xs3 (xs2 (xs1 v)))) [aR 0 1 [vU64 (xs3 (xs2 (xs1 v)))]]:=by
 simp only[xs1,xs2,xs3];refine sIr Yo fun e _ hst=>?_;unfold kf;refine sW ?_;refine⟨kR,kR,kR,?_⟩;exact .oA (U1 0) []
theorem jK8 (w:Int) {m:Int} (h0:0≤m) (h:m<18446744073709551616):0≤andI .u64 w m∧andI .u64 w m≤m:=by
 unfold andI;have h1:(BitVec.ofInt IntKind.u64.bits w &&& BitVec.ofInt IntKind.u64.bits m).toNat≤m.toNat:=by
  rw[BitVec.toNat_and];refine FX Nat.and_le_right ?_;rw[show IntKind.u64.bits=64 from rfl,BitVec.toNat_ofInt];omega
 generalize (BitVec.ofInt IntKind.u64.bits w &&& BitVec.ofInt IntKind.u64.bits m).toNat=x at *
 rw[IntKind.wrap_u64];omega
theorem _root_.Go.TL.C1.upd2 {P:Program} {e:Env} {kss:List (Nat×List Nat)} {Q:Ex→St→Prop} {K:List KF} {rows:Option (List Nat)} {ks:List Nat} {nid:Nat} {ops:List ROp} {F:XF} {acc:Acc} {st:Sto} {fid:FuncId} {xs caps ts':List T} {r:T} {d:Option Nat} (i1 k0 k1:Nat) (ys0 zs0 ys1 zs1:List T)
 (hs:Spc P fid ts' [(0,.arr k0 ys0 false),(1,.arr k1 ys1 false)] r [(0,.arr k0 zs0 false),(1,.arr k1 zs1 false)]) (hg:TL.get st 0=some (.arr k0 ys0 false)) (hg1:TL.get st i1=some (.arr k1 ys1 false)) (hne:¬ (0=i1))
 (m0:ImXs k0 ys0) (m1:ImXs k0 zs0) (m2:ImXs k1 ys1) (m3:ImXs k1 zs1) (ha:ltAs st [uI 0,(1,some i1)] [] (xs++caps) ts') (h2:YM r=true)
 (h:R P e kss Q rows ks K nid ops (putX F d (.p r)) (stUp st [(0,.arr k0 zs0 false),(i1,.arr k1 zs1 false)]) (acc++[([]++[(0,Ob.arr k0 zs0 false),(i1,Ob.arr k1 zs1 false)].map (·.1),[(0,Ob.arr k0 zs0 false),(i1,Ob.arr k1 zs1 false)].map (·.1))])):C1 P e kss Q rows ks K (.clo fid caps) xs d nid ops F st acc:=by
 refine C1.of [uI 0,(1,some i1)] [uI 0,(i1,some 1)] [] [(0,.arr k0 zs0 false),(i1,.arr k1 zs1 false)] hs ha (by simp [yz,TL.get,hne]) ?_ rF (by simp [TL.get,hne]) ?_ (by simp [yz,TL.get,hne]) rF (qj9 h2) (.inl rF) h
 ·refine⟨?_,?_,trivial⟩
  ·simp only[TL.get,if_true,ltO2,hg,ltO1];exact⟨trivial,sMp,jA m0,sMp⟩
  ·show ltO1 st _ [] k1 _ false i1 (TL.get st i1);rw[hg1];exact⟨rfl,sMp,jA m2,sMp⟩
 ·refine⟨?_,?_,trivial⟩
  ·simp only[TL.get,if_true,wrO,ltO1];exact⟨⟨trivial,sMp,jA m1,sMp⟩,.inr ⟨trivial,rfl⟩⟩
  ·simp only[TL.get,if_true,wrO,ltO1,Aq hne];exact⟨⟨rfl,sMp,jA m3,sMp⟩,.inr ⟨rfl,rfl⟩⟩
def rnd (v:Int):Int:=xs3 (xs2 (xs1 v))
def oth (n p:Nat) (v:Int):Nat:=if n≤(andI .u64 v ((p:Int)-1)).toNat then (andI .u64 v ((p:Int)-1)).toNat-n else (andI .u64 v ((p:Int)-1)).toNat
theorem jK9 {n p:Nat} (h0:0<p) (h1:p≤2*n) (h2:n<65536) (v:Int):oth n p v<n:=by
 have:=jK8 v (m:=(p:Int)-1) oM oM;unfold oth;split <;> omega
def bk {α:Type} [Inhabited α] (a n p:Nat):Nat→Nat→Int→List α→List α
 | 0,_,_,xs=>xs
 | f+1,i,v,xs=>bk a n p f (i+1) (rnd v) (swp xs i (a+oth n p (rnd v)))
theorem jW7 {α:Type} [Inhabited α] {a b p:Nat} (h0:0<p) (h1:p≤2*(b-a)) (h2:b-a<65536):∀ (f i:Nat) (v:Int) (xs:List α),a≤i→i+f≤b→b≤xs.length→Sw a b xs (bk a (b-a) p f i v xs)
 | 0,_,_,xs,_,_,_=>.refl xs
 | f+1,i,v,xs,h3,h4,h5=>by
   have h6:=jK9 h0 h1 h2 (rnd v);have h7:Sw a b xs (swp xs i (a+oth (b-a) p (rnd v))):=Sw.one ⟨h3,oM⟩ ⟨oM,oM⟩ h5;exact h7.trans (jW7 h0 h1 h2 f (i+1) (rnd v) _ oM oM (by rw[h7.len];exact h5))
theorem js7 (n:Int):Sp 254 [vI n] [] (vB false) []:=by
 refine sIr qJ1 fun e _ hst=>?_;unfold Zv;simp only[tZ,↓uU,simprocAttr,bne_self_eq_false];exact .oA [] []
theorem zc (a b:Int):Sp 208 [vI a,vI b] [] (vB (ltI a b)) []:=by
 refine sIr qR8 fun e _ hst=>?_;unfold Ju;refine sW ?_;refine C1.im (js7 a) rF rF ?_;refine sW ?_;refine C2.no sMp ?_;refine sW ?_;exact .oA [] []
end Go.Proofs
