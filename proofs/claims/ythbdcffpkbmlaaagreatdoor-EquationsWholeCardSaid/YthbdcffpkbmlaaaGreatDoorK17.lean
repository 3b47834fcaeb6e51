/- A part of the proof: trees of Go values, short forms, contracts. -/
import Derived.Test.YthbdcffpkbmlaaaGreatDoorK16
namespace Go.Proofs
open Go Go.TL
theorem jM {s:Sch} (h:SchOk s) {i:Nat} (hi:i<s.cols.length) (h2:(qj s i).kind=2):(qA s i).length≤60:=by
 obtain⟨d1,d2⟩:=h.cdl hi h2;obtain⟨_,d5,d6⟩:=ze d2;unfold qA atL;rw[Aq (by rw[d2];simp),BY];have:=Fx (fun i=>(dep (qK s i).codes i:Int)==zA (qK s i)-1) (List.range (qK s i).codes.length);refine FZ (Fx _ _) ?_;rw[List.length_range];exact d6
theorem qz9 (s:Sch) (hok:SchOk s) (i o lev:Nat) (hi:i<s.cols.length) (h0:0<i) (hl:(lev:Int)≤finI s i):Sp 143 [schT s,vI i,vI o,vI lev] [] (vB (divB s i o lev)) []:=by
 have hat:qj s i=s.cols[i]:=by rw[qj,qg hi]
 obtain⟨hE,c1,c2,hfin⟩:=kz (s:=s) (c:=i) oM;rw[Ax,hat] at hfin;have hwd:=fun e l=>hok.wid hi oM e (lev:=l);have hlv:=jv s hok i hi;have hll:=jM hok hi;rw[hat] at hwd hlv hll;have hE2:divB s i o lev=if lev=0∨lev≤o then true
  else if s.cols[i].kind=2 then qj0 (qA s i).length (divP s i (qA s i) o lev)
  else if o=0 then !s.cols[i].opt&&decide ((qU s.cols[i].low (qJ s.cols[i] lev)+1)*qJ s.cols[i] lev>s.cols[i].high)
  else divM s.cols[i].high (qJ s.cols[i] lev) (qJ s.cols[i] o) 2 ((qU s.cols[i].low (qJ s.cols[i] lev)+1)*qJ s.cols[i] lev):=by rw[divB,hat]
 rw[hE2];refine sIr qo5 fun e _ hst=>?_;unfold yf;simp only[tZ,↓uU,simprocAttr,Ax,qd hi];generalize s.cols[i]=x at hwd hlv hfin hll ⊢
 simp only[tZ,↓uU,simprocAttr,tD,AY,Ak];refine⟨oM,fun h=>?_,fun h=>?_⟩
 ·rw[Aj oM];exact .oA [] []
 rw[Aq oM];refine⟨fun h2=>?_,fun h2=>?_⟩
 ·rw[Aj h2];refine C1.im (hlv h2) rF rF ?_;generalize qA s i=L at hll ⊢
  have hll:=hll h2;refine sW ?_;refine qt mixm (α:=Nat) [11] (fun j=>j≤L.length∧qj0 j (divP s i L o lev)=true) (fun j=>[(11,vI j)]) (fun j=>[aR 4096 2 [schT s],aR 8212 7 [colT x]]) (fun j=>L.length-j) 0 ⟨oM,rfl⟩ ?_ fun j hj=>?_
  ·exact .oA (U2 4096 8212) []
  obtain⟨j1,j2⟩:=hj;refine sD ?_;refine⟨fun h3=>?_,fun h3=>?_⟩
  ·have hj2:j<L.length:=by omega
   have hwj:=qh (i:=j) oM;have hgj:L.getD j 0=L[j]:=qg hj2;refine qt mixm (α:=Nat) [12] (fun k=>k≤j∧(List.range k).all (divP s i L o lev j)=true) (fun k=>[(12,vI k)]) (fun k=>[aR 4096 2 [schT s],aR 8212 7 [colT x]]) (fun k=>j-k) 0 ⟨oM,rfl⟩ ?_ fun k hk=>?_
   ·exact .oA (U2 4096 8212) []
   obtain⟨k1,k2⟩:=hk;refine sD ?_;refine⟨fun h4=>?_,fun h4=>?_⟩
   ·have hk2:k<L.length:=by omega
    have hwk:=qh (i:=k) oM;have hgk:L.getD k 0=L[k]:=qg hk2;have hP:divP s i L o lev j k=!(!(qk s i lev L[j]==qk s i lev L[k])&&(qk s i o L[j]==qk s i o L[k])):=by rw[divP,hgj,hgk]
    have hC1:=zk s hok.sm i o L[j];have hC2:=zk s hok.sm i o L[k];simp only[tZ,↓uU,simprocAttr,Ax,qd hj2,qd hk2];refine⟨oM,?_⟩;refine C1.im (zk s hok.sm i lev L[j]) rF rF ?_;simp only[tZ,↓uU,simprocAttr,Ax,qd hj2,qd hk2];refine⟨oM,?_⟩;refine C1.im (zk s hok.sm i lev L[k]) rF rF ?_;simp only[tZ,↓uU,simprocAttr,Ax,qd hj2,qd hk2];refine⟨fun _=>by omega,?_⟩;refine C2.im (fun _=>hC1) (fun _=>rfl) rF ?_;simp only[tZ,↓uU,simprocAttr,Ax,qd hj2,qd hk2];refine⟨fun _=>by omega,?_⟩;refine C2.im (fun _=>hC2) (fun _=>rfl) rF ?_;simp only[tZ,↓uU,simprocAttr,hwk,tD,Bj,Aw,AY,Ak];refine⟨kR,fun h5=>?_,fun h5=>?_⟩
    ·rw[zL1 hj2 (show k<j by omega) (by rw[hP];grind)];exact .oA [] []
    ·refine⟨k+1,⟨oM,?_⟩,oM,?_⟩
     ·rw[qd8,k2,hP];grind
     ·exact .oA (U2 4096 8212) []
   ·have hkj:k=j:=by omega
    subst hkj;simp only[tZ,↓uU,simprocAttr,hwj];refine⟨k+1,⟨oM,?_⟩,oM,?_⟩
    ·rw[qQ6,j2,k2];rfl
    ·exact .oA (U2 4096 8212) []
  ·have hjl:j=L.length:=by omega
   subst hjl;rw[j2];exact .oA [] []
 rw[Aq h2] at hfin;rw[Aq h2];obtain⟨w1,w2,w3,w4,w5,w6,w7,_⟩:=hwd h2 lev oM;generalize hW:qJ x lev=w at w1 w2 ⊢
 have hfm:=ZO (v:=x.low) (w:=w) oM;have hfl:=jx8 (v:=x.low) (w:=w) oM oM;have hw1:IntKind.i64.wrap (qU x.low w+1)=qU x.low w+1:=AK _ oM;have hw2:IntKind.i64.wrap ((qU x.low w+1)*w)=(qU x.low w+1)*w:=AK _ (by rw[Int.add_mul];omega);have hF : -3000000≤(qU x.low w+1)*w∧(qU x.low w+1)*w≤3000000:=by rw[Int.add_mul];omega
 refine C1.im (wa x lev oM oM) rF rF ?_;rw[hW];refine sW ?_;refine C1.im (qd7 x.low w oM oM) rF rF ?_;simp only[tZ,↓uU,simprocAttr,hw1,hw2];generalize (qU x.low w+1)*w=F at hF ⊢
 simp only[tZ,↓uU,simprocAttr,AY,Ak];refine⟨fun h3=>?_,fun h3=>?_⟩
 ·rw[Aj oM];exact .oA [] []
 rw[Aq oM];obtain⟨v1,v2,_⟩:=hwd h2 o oM;have hwo:=wa x o oM oM;generalize qJ x o=wo at v1 v2 hwo ⊢
 refine qt mixm (α:=Nat×Int) [14,15] (fun y=>y.1≤2∧divM x.high w wo 2 F=divM x.high w wo (2-y.1) y.2∧-3000000-1000000*y.1≤y.2∧y.2≤3000000+1000000*y.1) (fun y=>[(14,vI y.2),(15,vI y.1)]) (fun y=>[aR 4096 2 [schT s],aR 8212 7 [colT x]]) (fun y=>2-y.1) (0,F) ⟨sMp,rfl,by simp;omega,by simp;omega⟩ ?_ fun y hy=>?_
 ·exact .oA (U2 4096 8212) []
 obtain⟨n,f⟩:=y;obtain⟨y1,y2,y3,y4⟩:=hy;dsimp only at y1 y2 y3 y4;have hwn:=qh (i:=n) oM;have hwf:IntKind.i64.wrap (f+w)=f+w:=AK _ oM;rw[y2];refine sD ?_;refine⟨fun h4=>?_,fun h4=>?_⟩
 ·obtain⟨m,hm⟩:∃ m,2-n=m+1:=⟨1-n,oM⟩;refine C1.im hwo rF rF ?_;simp only[tZ,↓uU,simprocAttr,Bj,Aw];rw[hm,divM,Aq oM];refine⟨oM,fun h5=>?_,fun h5=>?_⟩
  ·rw[Aj h5];exact .oA [] []
  ·simp only[tZ,↓uU,simprocAttr,hwn,hwf];refine⟨(n+1,f+w),⟨by dsimp only;omega,?_,by dsimp only;omega,by dsimp only;omega⟩,by dsimp only;omega,?_⟩
   ·dsimp only;rw[Aq (by rw[h5];simp),show 2-(n+1)=m by omega]
   ·exact .oA (U2 4096 8212) []
 ·have:divM x.high w wo (2-n) f=true:=by
   by_cases e:n=2
   ·subst e;rfl
   ·obtain⟨m,hm⟩:∃ m,2-n=m+1:=⟨1-n,oM⟩;rw[hm,divM,Aj oM]
  rw[this];exact .oA [] []
theorem zL2 (s:Sch) (i lev:Nat):divB s i lev lev=true:=by unfold divB;rw[Aj oM]
theorem qj2 {s:Sch} {c:Int} (h:schE s=0):finI s c≤59:=by
 by_cases h0:0≤finI s c
 ·obtain⟨_,h1,h2,h3⟩:=kz h0;rw[h3];split
  ·have:=YD (l:=qK s c.toNat);omega
  ·rename_i h4;have hok:=qO h;by_cases e:(qj s c.toNat).widths.length=0
   ·omega
   ·have:=hok.wid (i:=c.toNat) oM oM h4 (lev:=1) oM;omega
 ·omega
theorem JH (s:Sch) (hs:jY s) (c lev:Int):Sp 84 [schT s,vI c,vI lev] [] (vI (zO s c lev)) []:=by
 refine sIr qG4 fun e _ hst=>?_;unfold Za;refine sW ?_;refine C1.im (zM s hs c) rF rF ?_;refine sW ?_;refine C1.im (zF lev 0 (finI s c)) rF rF ?_;simp only[tZ,↓uU,simprocAttr,Bx,Bz];refine⟨fun h=>?_,fun h=>?_⟩
 ·rw[zO,Aj h];exact .oA [] []
 rw[zO,Aq (by rw[h];simp)];rw[zP] at h;obtain⟨hE,c1,c2,hfin⟩:=kz (s:=s) (c:=c) oM;have hfl:=qj2 (c:=c) hE;have hok:=qO hE;obtain⟨i,rfl⟩:=AJ (show 0≤c by omega);obtain⟨v,rfl⟩:=AJ h.1;simp only[Ax];refine qt mixm (α:=Nat) [7] (fun n=>n≤v∧JT (fun n=>divB s i n v) 64 0=JT (fun n=>divB s i n v) (64-n) n) (fun n=>[(7,vI n)]) (fun n=>[aR 4096 2 [schT s]]) (fun n=>v-n) 0 ⟨oM,rfl⟩ ?_ fun n hn=>?_
 ·exact .oA (U1 4096) []
 obtain⟨n1,n2⟩:=hn;have hwn:=qh (i:=n) oM;refine sW ?_;refine C1.im (qz9 s hok i n v oM oM h.2) rF rF ?_;simp only[tZ,↓uU,simprocAttr,Bx,Bz,hwn];have e:64-n=(63-n)+1:=by omega
 rw[n2,e,JT];refine⟨fun h3=>?_,fun h3=>?_⟩
 ·have hnv:n≠v:=fun k=>by rw[k,zL2] at h3;cases h3
  refine⟨n+1,⟨oM,?_⟩,oM,?_⟩
  ·rw[Aq (by rw[h3];simp),show 63-n=64-(n+1) by omega]
  ·exact .oA (U1 4096) []
 ·rw[Aj h3];exact .oA [] []
abbrev cnT (c:Cnd):T:=.agg [vI c.op,vI c.col,vI c.code,vI c.lo,vI c.hi,vCs c.kids]
theorem jx9 (c:Cnd):(cndT c).cells.length=6∧imL (cndT c).cells=true:=by rw[Qn];exact⟨rfl,rfl⟩
theorem QG {α:Type} {f:α→T} {l:List α} {i:Nat} (h:l.length≤i):(l.map f).getD i .junk = .junk:=by simp [List.getD,h]
theorem zz6 {α:Type} {l:List α} {i:Nat} (h:i<l.length):l.drop i=l[i]::l.drop (i+1):=List.drop_eq_getElem_cons h
theorem za0:∀ (c:Cnd) (m:Int),1≤m→m≤1000→Sp 133 [cnT c,vI m] [] (vI (cntC c m)) []:=by
 refine Cnd.ind' fun c ih m hm hm2=>?_;rw[qi7];refine sIr qJ0 fun e _ hst=>?_;unfold Zp;refine sW ?_;refine qt mixm (α:=Nat×Int) [5,6] (fun y=>y.1≤c.kids.length∧wg c.kids m 1=wg (c.kids.drop y.1) m y.2∧y.2≤m∧y.1+1≤y.2) (fun y=>[(5,vI y.2),(6,vI y.1)]) (fun y=>[aR 4096 6 [cnT c]]) (fun y=>c.kids.length-y.1) (0,1) ⟨sMp,rfl,hm,sMp⟩ ?_ fun y hy=>?_
 ·exact .oA (U1 4096) []
 obtain⟨i,n⟩:=y;obtain⟨y1,y2,y3,y4⟩:=hy;dsimp only at y1 y2 y3 y4;rw[y2];refine sD ?_;refine⟨fun h=>?_,fun h=>?_⟩
 ·have hi:i<c.kids.length:=by omega
  have hwi:=qh (i:=i) oM;have hw:IntKind.i64.wrap (m-n)=m-n:=AK _ oM;have hc:=qQ7 c.kids[i] (m-n) oM;have hw2:IntKind.i64.wrap (n+cntC c.kids[i] (m-n))=n+cntC c.kids[i] (m-n):=AK _ oM;simp only[tZ,↓uU,simprocAttr,Ax,qd hi,Qn,hw];refine⟨oM,?_⟩;refine C1.im (ih _ (AX hi) (m-n) oM oM) rF rF ?_;simp only[tZ,↓uU,simprocAttr,hw2,hwi];refine⟨(i+1,n+cntC c.kids[i] (m-n)),⟨by dsimp only;omega,?_,by dsimp only;omega,by dsimp only;omega⟩,by dsimp only;omega,?_⟩
  ·dsimp only;rw[zz6 hi,wg,Aj oM]
  ·exact .oA (U1 4096) []
 ·have:wg (c.kids.drop i) m n=n:=by
   by_cases hi:i<c.kids.length
   ·rw[zz6 hi,wg,Aq oM]
   ·rw[List.drop_of_length_le oM,wg]
  rw[this];exact .oA [] []
theorem qQ8:∀ (l:List Cnd) (k:Cnd),Qp (l++[k])=max (Qp l) (depC k)
 | [],k=>by simp [Qp]
 | x::r,k=>by rw[BW,Qp,qQ8 r k,Qp];omega
theorem qQ9:∀ (l:List Cnd) (i:Nat),Qp (l.take i)≤Qp l
 | [],i=>by simp
 | x::r,0=>by simp [Qp]
 | x::r,i+1=>by rw[List.take_succ_cons,Qp,Qp];have:=qQ9 r i;omega
theorem za1:∀ {l:List Cnd} {m n:Int},n≤m→wg l m n<m→n+l.length≤wg l m n∧∀ k∈l,∃ m',1≤m'∧m'≤m-n∧cntC k m'<m'
 | [],m,n,_,h=>by rw[wg];simp
 | x::r,m,n,h1,h=>by
   rw[wg] at h ⊢
   split at h
   ·rename_i h2;rw[Aj h2];have h3:=qQ7 x (m-n) oM;obtain⟨h4,h5⟩:=za1 (l:=r) oM h;refine⟨by rw[CJ];omega,fun k hk=>?_⟩;rcases Ck.1 hk with e | hk
    ·subst e;exact⟨m-n,oM,oM,oM⟩
    ·obtain⟨m',a,b,c⟩:=h5 k hk;exact⟨m',a,oM,c⟩
   ·omega
theorem za2:∀ (c:Cnd) (m:Int),1≤m→m≤1000→cntC c m<m→Sp 134 [cnT c] [] (vI (depC c)) []:=by
 refine Cnd.ind' fun c ih m hm hm2 hc=>?_;have hd:=jM4 c m hm hc;rw[qi7] at hc hd;obtain⟨hk1,hk2⟩:=za1 oM hc;rw[jk7] at hd ⊢
 refine sIr qJ2 fun e _ hst=>?_;unfold Zq;refine sW ?_;refine qt mixm (α:=Nat) [3,4] (fun i=>i≤c.kids.length) (fun i=>[(3,vI (Qp (c.kids.take i))),(4,vI i)]) (fun i=>[aR 4096 6 [cnT c]]) (fun i=>c.kids.length-i) 0 oM ?_ fun i hi=>?_
 ·refine .of (U1 4096) [] rfl (by first | rfl | (rw[hst];rfl)) ?_ ?_
  all_goals (try simp only[tL,simprocAttr,By,List.map_cons,List.map_nil,BW,Cy,List.take_zero,Qp])
  all_goals (try (exact clA))
 have hdt:=qQ9 c.kids i;refine sD ?_;refine⟨fun h=>?_,fun h=>?_⟩
 ·have hi2:i<c.kids.length:=by omega
  have hwi:=qh (i:=i) oM;have hs:Qp (c.kids.take (i+1))=max (Qp (c.kids.take i)) (depC c.kids[i]):=by rw[qy hi2,qQ8]
  obtain⟨m',a1,a2,a3⟩:=hk2 _ (AX hi2);simp only[tZ,↓uU,simprocAttr,Ax,qd hi2,Qn];refine⟨oM,?_⟩;refine C1.im (ih _ (AX hi2) m' a1 oM a3) rF rF ?_;have hmx:maxI (Qp (c.kids.take i):Int) (depC c.kids[i])=(Qp (c.kids.take (i+1)):Int):=by rw[hs];unfold maxI;omega
  simp only[tZ,↓uU,simprocAttr,hwi,hmx];refine⟨i+1,oM,oM,?_⟩;exact .oA (U1 4096) []
 ·have hil:i=c.kids.length:=by omega
  subst hil;rw[Bw] at hdt ⊢
  have hw:=qh (i:=Qp c.kids) oM;simp only[tZ,↓uU,simprocAttr,hw];exact .oA [] []
theorem qZ (s:Sch) (col kind:Int):Sp 165 [schT s,vI col,vI kind] [] (vB (isB s col kind)) []:=by
 by_cases h:0≤col∧col<s.cols.length
 ·obtain⟨i,rfl⟩:=AJ h.1;have hi:i<s.cols.length:=by omega
  have e1:decide ((i:Int)≥0)=true:=Cx oM;have e2:decide ((i:Int)<s.cols.length)=true:=Cx oM;have e3:isB s i kind=(s.cols[i].kind==kind):=by
   rw[isB,Ax,qj,qg hi,Cx h.1,Cx h.2];rfl
  refine sIr Yx fun e _ hst=>?_;unfold Qk;simp only[tZ,↓uU,simprocAttr,e1,e2,Ax,qd hi];rw[e3];refine⟨oM,?_⟩;exact .oA [] []
 ·have e1:(decide (col≥0)&&decide (col<(s.cols.length:Int)))=false:=by
   rw[FJ,Ay,Ay];omega
  have e3:isB s col kind=false:=by
   unfold isB;rw[show (decide (0≤col)&&decide (col<(s.cols.length:Int)))=false from e1];rfl
  rcases Nat.lt_or_ge col.toNat s.cols.length with hk | hk
  ·refine sIr Yx fun e _ hst=>?_;unfold Qk;simp only[tZ,↓uU,simprocAttr,e1,qd hk];rw[e3];exact .oA [] []
  ·have hj:(s.cols.map colT).getD col.toNat .junk = .junk:=QG hk;refine sIr Yx fun e _ hst=>?_;unfold Qk;simp only[tZ,↓uU,simprocAttr,e1,hj,List.drop_succ_cons,List.drop_nil];rw[e3];exact .oA [] []
set_option maxRecDepth 4000
set_option maxHeartbeats 8000000
theorem qA0:∀ {s:Sch} {l:List Cnd} {i:Nat} (h:i<l.length),Ka s (l.take i)=0→nodE s l[i]≠0→Ka s l=nodE s l[i]
 | s,x::r,0,h,_,h2=>by
   have h2:nodE s x≠0:=h2;rw[Ka,Aj h2];rfl
 | s,x::r,i+1,h,h1,h2=>by
   rw[List.take_succ_cons,Ka] at h1;split at h1
   ·rename_i h3;exact absurd h1 h3
   ·rename_i h3;rw[Ka,Aq h3];exact qA0 (l:=r) (i:=i) (by simpa using h) h1 h2
theorem qR0:∀ {s:Sch} {l:List Cnd} {k:Cnd},Ka s l=0→nodE s k=0→Ka s (l++[k])=0
 | s,[],k,_,h=>by simp [Ka,h]
 | s,x::r,k,h1,h2=>by
   rw[Ka] at h1;split at h1
   ·rename_i h3;exact absurd h1 h3
   ·rename_i h3;rw[BW,Ka,Aq h3];exact qR0 h1 h2
theorem SchOk.list0 {s:Sch} (h:SchOk s) {i:Nat} (hi:i<s.cols.length) (hk:(qj s i).kind≠2):(qj s i).list=0:=by
 have:=h.cs i hi;unfold colE at this
 grind
theorem zp3 (s:Sch) (hok:SchOk s) (hL:0<s.lists.length):∀ (c:Cnd),Sp 135 [schT s,cnT c] [] (vI (nodE s c)) []:=by
 refine Cnd.ind' fun c ih=>?_;have hN0:=jk8 s c;have hn0:=hok.nl;have hn1:=hok.nc;generalize nodE s c=N at hN0 ⊢
 obtain⟨op,col,code,lo,hi,ks⟩:=c;simp only[Cnd.op,Cnd.col,Cnd.code,Cnd.lo,Cnd.hi,Cnd.kids] at ih hN0 ⊢
 have hn:ndE s (.mk op col code lo hi ks)=if op<1∨7<op then 4
 else if ks.length≠arC op∨(op≠2∧op≠3∧op≠4∧col≠0)∨(op≠2∧code≠0)∨(op≠3∧(lo≠0∨hi≠0)) then 11
 else if (op=2∧isB s col 2=false)∨(op=3∧isB s col 3=false)∨(op=4∧(isB s col 3=false∨(qj s col.toNat).opt=false)) then 7
 else if op=2∧(code<0∨code≥(qK s col.toNat).codes.length) then 6
 else if op=3∧(lo < -1000000∨hi>1000000∨lo>hi) then 2 else 0:=rfl
 have hbad:∀ v,v≠0→ndE s (.mk op col code lo hi ks)=v→N=v:=fun v h1 h2=>by rw[hN0,h2,Aj h1]
 have hgood:ndE s (.mk op col code lo hi ks)=0→N=Ka s ks:=fun h2=>by rw[hN0,h2,Aq sMp]
 clear hN0;generalize ndE s (.mk op col code lo hi ks)=E at hn hbad hgood;have h0p:0<s.cols.length:=by omega
 have hg0:(s.cols.map colT).getD 0 .junk=colT s.cols[0]:=qd (i:=0) h0p;have hl0:s.cols[0].list.toNat=0:=by
  have h1:=hok.c0;have:=hok.list0 (i:=0) h0p (by rw[h1];decide);rw[qj,qg h0p] at this;rw[this];rfl
 have hgl:(s.lists.map cdlT).getD 0 .junk=cdlT s.lists[0]:=qd hL;have hop:op=1∨op=2∨op=3∨op=4∨op=5∨op=6∨op=7∨op<1∨7<op:=by omega
 rcases hop with e | e | e | e | e | e | e | e
 focus
  have q1:(op==1)=true:=by rw[e];rfl
  have q2:(op==2)=false:=by rw[e];rfl
  have q3:(op==3)=false:=by rw[e];rfl
  have q4:(op==4)=false:=by rw[e];rfl
  have q5:(op==5)=false:=by rw[e];rfl
  have q6:(op==6)=false:=by rw[e];rfl
  have q7:(op==7)=false:=by rw[e];rfl
  simp [arC,-List.length_eq_zero_iff,e] at hn;refine sIr jd fun e _ hst=>?_;unfold zx;simp only[tZ,↓uU,simprocAttr,cQ,q1,q2,q3,q4,q5,q6,q7];refine⟨kR,fun h=>?_,fun h=>?_⟩
  ·rw[hbad 11 (by decide) (by rw[hn,Aj];grind)];exact .oA [] []
  have hks:ks.length≤2:=by grind
  rw[hgood (by rw[hn,Aq];grind)];have hc0:col.toNat=0:=by grind
  refine C2.im (fun _=>qZ s col 2) (fun _=>rfl) rF ?_;simp only[tZ,↓uU,simprocAttr,cQ,q1,q2,q3,q4,q5,q6,q7];refine C2.im (fun _=>qZ s col 3) (fun _=>rfl) rF ?_;simp only[tZ,↓uU,simprocAttr,cQ,q1,q2,q3,q4,q5,q6,q7];refine C2.im (fun _=>qZ s col 3) (fun _=>rfl) rF ?_;simp only[tZ,↓uU,simprocAttr,cQ,q1,q2,q3,q4,q5,q6,q7,hc0,hg0,hl0,hgl];refine⟨kR,?_⟩
 rotate_left
 focus
  have q1:(op==1)=false:=by rw[e];rfl
  have q2:(op==2)=true:=by rw[e];rfl
  have q3:(op==3)=false:=by rw[e];rfl
  have q4:(op==4)=false:=by rw[e];rfl
  have q5:(op==5)=false:=by rw[e];rfl
  have q6:(op==6)=false:=by rw[e];rfl
  have q7:(op==7)=false:=by rw[e];rfl
  simp [arC,-List.length_eq_zero_iff,e] at hn;refine sIr jd fun e _ hst=>?_;unfold zx;simp only[tZ,↓uU,simprocAttr,cQ,q1,q2,q3,q4,q5,q6,q7];refine⟨kR,?_⟩;refine⟨kR,?_⟩;refine⟨fun h=>?_,fun h=>?_⟩
  ·rw[hbad 11 (by decide) (by rw[hn,Aj];grind)];exact .oA [] []
  have hks:ks.length≤2:=by grind
  rw[Aq (by grind)] at hn;refine C2.im (fun _=>qZ s col 2) (fun _=>rfl) rF ?_;simp only[tZ,↓uU,simprocAttr,cQ,q1,q2,q3,q4,q5,q6,q7];refine C2.im (fun _=>qZ s col 3) (fun _=>rfl) rF ?_;simp only[tZ,↓uU,simprocAttr,cQ,q1,q2,q3,q4,q5,q6,q7];refine C2.im (fun _=>qZ s col 3) (fun _=>rfl) rF ?_;by_cases h2:isB s col 2=false
  ·rw[hbad 7 (by decide) (by rw[hn,Aj (by grind)])];rcases Nat.lt_or_ge col.toNat s.cols.length with hk | hk
   ·simp only[tZ,↓uU,simprocAttr,cQ,q1,q2,q3,q4,q5,q6,q7,h2,qd hk];exact .oA [] []
   ·simp only[tZ,↓uU,simprocAttr,cQ,q1,q2,q3,q4,q5,q6,q7,h2,QG hk,List.drop_succ_cons,List.drop_nil];exact .oA [] []
  rw[Ez] at h2;obtain⟨b1,b2,b3⟩:=jk.1 h2;obtain⟨i,hci⟩:∃ i:Nat,col.toNat=i:=⟨_,rfl⟩;rw[hci] at b3
  try rw[hci] at hn
  have hil:i<s.cols.length:=by omega
  have hat:qj s i=s.cols[i]:=by rw[qj,qg hil]
  have hcd:=hok.cdl hil b3;have hcd2:=(zo (hok.cs i hil)).2.2.2.1 b3;have hcl:qK s i=s.lists.getD s.cols[i].list.toNat default:=by rw[qK,hat]
  rw[hat] at hcd hcd2;rw[hcl,qg hcd.1] at hcd;have hn:E=if code<0∨code≥s.lists[s.cols[i].list.toNat].codes.length then 6 else 0:=by
   rw[hn,Aq (by rw[h2];simp)];simp [hil,hcd.1]
  simp only[tZ,↓uU,simprocAttr,cQ,q1,q2,q3,q4,q5,q6,q7,h2,hci,qd hil,qd hcd.1,tD];refine⟨fun _=>by omega,fun _=>by omega,kR,fun h3=>?_,fun h3=>?_⟩
  ·rw[hbad 6 (by decide) (by rw[hn,Aj oM])];exact .oA [] []
  rw[hgood (by rw[hn,Aq oM])]
 rotate_left
 focus
  have q1:(op==1)=false:=by rw[e];rfl
  have q2:(op==2)=false:=by rw[e];rfl
  have q3:(op==3)=true:=by rw[e];rfl
  have q4:(op==4)=false:=by rw[e];rfl
  have q5:(op==5)=false:=by rw[e];rfl
  have q6:(op==6)=false:=by rw[e];rfl
  have q7:(op==7)=false:=by rw[e];rfl
  simp [arC,-List.length_eq_zero_iff,e] at hn;refine sIr jd fun e _ hst=>?_;unfold zx;simp only[tZ,↓uU,simprocAttr,cQ,q1,q2,q3,q4,q5,q6,q7];refine⟨kR,?_⟩;refine⟨kR,?_⟩;refine⟨fun h=>?_,fun h=>?_⟩
  ·rw[hbad 11 (by decide) (by rw[hn,Aj];grind)];exact .oA [] []
  have hks:ks.length≤2:=by grind
  rw[Aq (by grind)] at hn;refine C2.im (fun _=>qZ s col 2) (fun _=>rfl) rF ?_;simp only[tZ,↓uU,simprocAttr,cQ,q1,q2,q3,q4,q5,q6,q7];refine C2.im (fun _=>qZ s col 3) (fun _=>rfl) rF ?_;simp only[tZ,↓uU,simprocAttr,cQ,q1,q2,q3,q4,q5,q6,q7];refine C2.im (fun _=>qZ s col 3) (fun _=>rfl) rF ?_;by_cases h2:isB s col 3=false
  ·rw[hbad 7 (by decide) (by rw[hn,Aj (by grind)])];rcases Nat.lt_or_ge col.toNat s.cols.length with hk | hk
   ·simp only[tZ,↓uU,simprocAttr,cQ,q1,q2,q3,q4,q5,q6,q7,h2,qd hk];exact .oA [] []
   ·simp only[tZ,↓uU,simprocAttr,cQ,q1,q2,q3,q4,q5,q6,q7,h2,QG hk,List.drop_succ_cons,List.drop_nil];exact .oA [] []
  rw[Ez] at h2;obtain⟨b1,b2,b3⟩:=jk.1 h2;obtain⟨i,hci⟩:∃ i:Nat,col.toNat=i:=⟨_,rfl⟩;rw[hci] at b3
  try rw[hci] at hn
  have hil:i<s.cols.length:=by omega
  have hat:qj s i=s.cols[i]:=by rw[qj,qg hil]
  have hli:s.cols[i].list.toNat=0:=by
   have:=hok.list0 hil (by rw[b3];decide);rw[hat] at this;rw[this];rfl
  rw[Aq (by rw[h2];simp)] at hn;simp only[tZ,↓uU,simprocAttr,cQ,q1,q2,q3,q4,q5,q6,q7,h2,hci,qd hil,hli,hgl,tD];refine⟨kR,fun h3=>?_,fun h3=>?_⟩
  ·rw[hbad 2 (by decide) (by rw[hn,Aj oM])];exact .oA [] []
  rw[hgood (by rw[hn,Aq oM])]
 rotate_left
 focus
  have q1:(op==1)=false:=by rw[e];rfl
  have q2:(op==2)=false:=by rw[e];rfl
  have q3:(op==3)=false:=by rw[e];rfl
  have q4:(op==4)=true:=by rw[e];rfl
  have q5:(op==5)=false:=by rw[e];rfl
  have q6:(op==6)=false:=by rw[e];rfl
  have q7:(op==7)=false:=by rw[e];rfl
  simp [arC,-List.length_eq_zero_iff,e] at hn;refine sIr jd fun e _ hst=>?_;unfold zx;simp only[tZ,↓uU,simprocAttr,cQ,q1,q2,q3,q4,q5,q6,q7];refine⟨kR,?_⟩;refine⟨fun h=>?_,fun h=>?_⟩
  ·rw[hbad 11 (by decide) (by rw[hn,Aj];grind)];exact .oA [] []
  have hks:ks.length≤2:=by grind
  rw[Aq (by grind)] at hn;refine C2.im (fun _=>qZ s col 2) (fun _=>rfl) rF ?_;simp only[tZ,↓uU,simprocAttr,cQ,q1,q2,q3,q4,q5,q6,q7];refine C2.im (fun _=>qZ s col 3) (fun _=>rfl) rF ?_;simp only[tZ,↓uU,simprocAttr,cQ,q1,q2,q3,q4,q5,q6,q7];refine C2.im (fun _=>qZ s col 3) (fun _=>rfl) rF ?_;by_cases h2:isB s col 3=false
  ·rw[hbad 7 (by decide) (by rw[hn,Aj (by grind)])];rcases Nat.lt_or_ge col.toNat s.cols.length with hk | hk
   ·simp only[tZ,↓uU,simprocAttr,cQ,q1,q2,q3,q4,q5,q6,q7,h2,qd hk];exact .oA [] []
   ·simp only[tZ,↓uU,simprocAttr,cQ,q1,q2,q3,q4,q5,q6,q7,h2,QG hk,List.drop_succ_cons,List.drop_nil];exact .oA [] []
  rw[Ez] at h2;obtain⟨b1,b2,b3⟩:=jk.1 h2;obtain⟨i,hci⟩:∃ i:Nat,col.toNat=i:=⟨_,rfl⟩;rw[hci] at b3
  try rw[hci] at hn
  have hil:i<s.cols.length:=by omega
  have hat:qj s i=s.cols[i]:=by rw[qj,qg hil]
  have hli:s.cols[i].list.toNat=0:=by
   have:=hok.list0 hil (by rw[b3];decide);rw[hat] at this;rw[this];rfl
  have hn:E=if s.cols[i].opt=false then 7 else 0:=by
   rw[hn];simp [hil,h2]
  simp only[tZ,↓uU,simprocAttr,cQ,q1,q2,q3,q4,q5,q6,q7,h2,hci,qd hil,hli,hgl,Bx,Bz];refine⟨oM,fun h3=>?_,fun h3=>?_⟩
  ·rw[hbad 7 (by decide) (by rw[hn,Aj h3])];exact .oA [] []
  rw[hgood (by rw[hn,Aq (by rw[h3];simp)])];refine⟨kR,?_⟩
 rotate_left
 focus
  have q1:(op==1)=false:=by rw[e];rfl
  have q2:(op==2)=false:=by rw[e];rfl
  have q3:(op==3)=false:=by rw[e];rfl
  have q4:(op==4)=false:=by rw[e];rfl
  have q5:(op==5)=true:=by rw[e];rfl
  have q6:(op==6)=false:=by rw[e];rfl
  have q7:(op==7)=false:=by rw[e];rfl
  simp [arC,-List.length_eq_zero_iff,e] at hn;refine sIr jd fun e _ hst=>?_;unfold zx;simp only[tZ,↓uU,simprocAttr,cQ,q1,q2,q3,q4,q5,q6,q7];refine⟨kR,fun h=>?_,fun h=>?_⟩
  ·rw[hbad 11 (by decide) (by rw[hn,Aj];grind)];exact .oA [] []
  have hks:ks.length≤2:=by grind
  rw[hgood (by rw[hn,Aq];grind)];have hc0:col.toNat=0:=by grind
  refine C2.im (fun _=>qZ s col 2) (fun _=>rfl) rF ?_;simp only[tZ,↓uU,simprocAttr,cQ,q1,q2,q3,q4,q5,q6,q7];refine C2.im (fun _=>qZ s col 3) (fun _=>rfl) rF ?_;simp only[tZ,↓uU,simprocAttr,cQ,q1,q2,q3,q4,q5,q6,q7];refine C2.im (fun _=>qZ s col 3) (fun _=>rfl) rF ?_;simp only[tZ,↓uU,simprocAttr,cQ,q1,q2,q3,q4,q5,q6,q7,hc0,hg0,hl0,hgl];refine⟨kR,?_⟩
 rotate_left
 focus
  have q1:(op==1)=false:=by rw[e];rfl
  have q2:(op==2)=false:=by rw[e];rfl
  have q3:(op==3)=false:=by rw[e];rfl
  have q4:(op==4)=false:=by rw[e];rfl
  have q5:(op==5)=false:=by rw[e];rfl
  have q6:(op==6)=true:=by rw[e];rfl
  have q7:(op==7)=false:=by rw[e];rfl
  simp [arC,-List.length_eq_zero_iff,e] at hn;refine sIr jd fun e _ hst=>?_;unfold zx;simp only[tZ,↓uU,simprocAttr,cQ,q1,q2,q3,q4,q5,q6,q7];refine⟨kR,fun h=>?_,fun h=>?_⟩
  ·rw[hbad 11 (by decide) (by rw[hn,Aj];grind)];exact .oA [] []
  have hks:ks.length≤2:=by grind
  rw[hgood (by rw[hn,Aq];grind)];have hc0:col.toNat=0:=by grind
  refine C2.im (fun _=>qZ s col 2) (fun _=>rfl) rF ?_;simp only[tZ,↓uU,simprocAttr,cQ,q1,q2,q3,q4,q5,q6,q7];refine C2.im (fun _=>qZ s col 3) (fun _=>rfl) rF ?_;simp only[tZ,↓uU,simprocAttr,cQ,q1,q2,q3,q4,q5,q6,q7];refine C2.im (fun _=>qZ s col 3) (fun _=>rfl) rF ?_;simp only[tZ,↓uU,simprocAttr,cQ,q1,q2,q3,q4,q5,q6,q7,hc0,hg0,hl0,hgl];refine⟨kR,?_⟩
 rotate_left
 focus
  have q1:(op==1)=false:=by rw[e];rfl
  have q2:(op==2)=false:=by rw[e];rfl
  have q3:(op==3)=false:=by rw[e];rfl
  have q4:(op==4)=false:=by rw[e];rfl
  have q5:(op==5)=false:=by rw[e];rfl
  have q6:(op==6)=false:=by rw[e];rfl
  have q7:(op==7)=true:=by rw[e];rfl
  simp [arC,-List.length_eq_zero_iff,e] at hn;refine sIr jd fun e _ hst=>?_;unfold zx;simp only[tZ,↓uU,simprocAttr,cQ,q1,q2,q3,q4,q5,q6,q7];refine⟨kR,fun h=>?_,fun h=>?_⟩
  ·rw[hbad 11 (by decide) (by rw[hn,Aj];grind)];exact .oA [] []
  have hks:ks.length≤2:=by grind
  rw[hgood (by rw[hn,Aq];grind)];have hc0:col.toNat=0:=by grind
  refine C2.im (fun _=>qZ s col 2) (fun _=>rfl) rF ?_;simp only[tZ,↓uU,simprocAttr,cQ,q1,q2,q3,q4,q5,q6,q7];refine C2.im (fun _=>qZ s col 3) (fun _=>rfl) rF ?_;simp only[tZ,↓uU,simprocAttr,cQ,q1,q2,q3,q4,q5,q6,q7];refine C2.im (fun _=>qZ s col 3) (fun _=>rfl) rF ?_;simp only[tZ,↓uU,simprocAttr,cQ,q1,q2,q3,q4,q5,q6,q7,hc0,hg0,hl0,hgl];refine⟨kR,?_⟩
 rotate_left
 focus
  have q1:(op==1)=false:=Ak.2 oM;have q2:(op==2)=false:=Ak.2 oM;have q3:(op==3)=false:=Ak.2 oM;have q4:(op==4)=false:=Ak.2 oM;have q5:(op==5)=false:=Ak.2 oM;have q6:(op==6)=false:=Ak.2 oM;have q7:(op==7)=false:=Ak.2 oM;rw[hbad 4 (by decide) (by rw[hn,Aj e])];refine sIr jd fun e _ hst=>?_;unfold zx;simp only[tZ,↓uU,simprocAttr,cQ,q1,q2,q3,q4,q5,q6,q7];refine⟨kR,?_⟩;exact .oA [] []
 all_goals (
  refine qt mixm (α:=Nat) [7,77,121,147,167] (fun i=>i≤ks.length∧Ka s (ks.take i)=0) (fun i=>[(7,vI i)]) (fun i=>[aR 4096 2 [schT s],aR 4100 6 [.agg [vI op,vI col,vI code,vI lo,vI hi,vCs ks]]]) (fun i=>ks.length-i) 0 ⟨oM,by rw[List.take_zero,Ka]⟩ ?_ fun i hi2=>?_
  ·exact .oA (U2 4096 4100) []
  obtain⟨i1,i2⟩:=hi2;refine sD ?_;refine⟨fun h5=>?_,fun h5=>?_⟩
  ·have hi2:i<ks.length:=by omega
   have hwi:=qh (i:=i) oM;simp only[tZ,↓uU,simprocAttr,Ax,qd hi2,Qn];refine⟨oM,?_⟩;refine C1.im (ih _ (AX hi2)) rF rF ?_;simp only[tZ,↓uU,simprocAttr,hwi,Bj,Aw];refine⟨kR,fun h6=>?_,fun h6=>?_⟩
   ·rw[qA0 hi2 i2 h6];exact .oA [] []
   ·refine⟨i+1,⟨oM,by rw[qy hi2];exact qR0 i2 h6⟩,oM,?_⟩;exact .oA (U2 4096 4100) []
  ·have hil:i=ks.length:=by omega
   subst hil;rw[Bw] at i2;rw[i2];exact .oA [] []
  )
set_option maxHeartbeats 4000000
theorem jt (s:Sch) (hs:jY s) (hL:0<s.lists.length) (c:Cnd):Sp 78 [schT s,cnT c] [] (vI (chkC s c)) []:=by
 refine sIr qF7 fun e _ hst=>?_;unfold QX;refine sW ?_;refine C1.im (zy s hs) rF rF ?_;simp only[tZ,↓uU,simprocAttr,Bj,Aw];refine⟨fun h=>?_,fun h=>?_⟩
 ·rw[chkC,Aj h];exact .oA [] []
 have hok:=qO h;refine C1.im (za0 c 41 oM oM) rF rF ?_;refine sD ?_;refine⟨fun h2=>?_,fun h2=>?_⟩
 ·rw[chkC,Aq (by rw[h];simp),Aj h2];exact .oA [] []
 refine C1.im (za2 c 41 oM oM oM) rF rF ?_;refine sD ?_;refine⟨fun h3=>?_,fun h3=>?_⟩
 ·rw[chkC,Aq (by rw[h];simp),Aq h2,Aj oM];exact .oA [] []
 rw[chkC,Aq (by rw[h];simp),Aq h2,Aq oM];refine C1.im (zp3 s hok hL c) rF rF ?_;refine sW ?_;exact .oA [] []
theorem YG {s:Sch} {c:Cnd} (h:chkC s c=0):schE s=0∧cntC c 41<41∧depC c≤10∧nodE s c=0:=by
 unfold chkC at h;split at h
 ·rename_i h1;exact absurd h h1
 rename_i h1;split at h
 ·cases h
 rename_i h2;split at h
 ·cases h
 rename_i h3;exact⟨AQ h1,oM,oM,h⟩
theorem QH (s:Sch) (hok:SchOk s) (c:Cnd) (hc:NdOk s c) (v:Int):Sp 169 [schT s,cnT c,vI v] [] (vI (Qq s c v)) []:=by
 have hn0:=hok.nl;have hn1:=hok.nc;have hA:Qq s c v=if c.op=2 then tf (zK2 (qK s c.col.toNat) v c.code)
 else if c.op=3 then (if v=qW then 0 else tf (decide (c.lo≤v)&&decide (v≤c.hi)))
 else if c.op=4 then tf (v==qW) else -1:=rfl
 rw[hA];by_cases h2:c.op=2
 ·obtain⟨b,b4,b5⟩:=hc.under h2;obtain⟨b1,b2,b3⟩:=jk.1 b;obtain⟨i,hci⟩:=AJ b1;rw[hci] at b2 b5;rw[hci,Ax] at b3;rw[Ax] at b5;have hil:i<s.cols.length:=by omega
  have hat:qj s i=s.cols[i]:=by rw[qj,qg hil]
  have hcd:=hok.cdl hil b3;have hcd2:=(zo (hok.cs i hil)).2.2.2.1 b3;have hcl:qK s i=s.lists.getD s.cols[i].list.toNat default:=by rw[qK,hat]
  rw[hat] at hcd hcd2;rw[Aj h2,hci,Ax];rw[hcl,qg hcd.1] at hcd ⊢
  obtain⟨_,d5,d6⟩:=ze hcd.2;have q:(c.op==2)=true:=AY.2 h2;refine sIr yA fun e _ hst=>?_;unfold jK;simp only[tZ,↓uU,simprocAttr,q,hci,Ax,qd hil,qd hcd.1];refine⟨oM,oM,?_⟩;refine C1.im (qZ7 _ v c.code oM) rF rF ?_;refine sW ?_;refine⟨kR,fun h=>?_,fun h=>?_⟩
  ·rw[h];exact .oA [] []
  ·rw[h];exact .oA [] []
 have q:(c.op==2)=false:=Ak.2 h2;rw[Aq h2];by_cases h3:c.op=3
 ·have q3:(c.op==3)=true:=AY.2 h3;rw[Aj h3];refine sIr yA fun e _ hst=>?_;unfold jK;simp only[tZ,↓uU,simprocAttr,q,q3,AY,Ak];rw[show (-1099511627776:Int)=qW from rfl];refine⟨fun h=>?_,fun h=>?_⟩
  ·rw[Aj h];exact .oA [] []
  ·rw[Aq h];refine⟨fun h=>?_,fun h=>?_⟩
   ·rw[h];exact .oA [] []
   ·rw[h];exact .oA [] []
 have q3:(c.op==3)=false:=Ak.2 h3;rw[Aq h3];by_cases h4:c.op=4
 ·have q4:(c.op==4)=true:=AY.2 h4;rw[Aj h4];refine sIr yA fun e _ hst=>?_;unfold jK;simp only[tZ,↓uU,simprocAttr,q,q3,q4];rw[show (-1099511627776:Int)=qW from rfl];refine⟨fun h=>?_,fun h=>?_⟩
  ·rw[h];exact .oA [] []
  ·rw[h];exact .oA [] []
 have q4:(c.op==4)=false:=Ak.2 h4;rw[Aq h4];refine sIr yA fun e _ hst=>?_;unfold jK;simp only[tZ,↓uU,simprocAttr,q,q3,q4];exact .oA [] []
theorem qm6 (op:Int) (ks:List Int) (h7:op=7→1≤ks.length) (h5:op=5∨op=6→2≤ks.length) (hv:∀ k∈ks,-1≤k∧k≤1):Sp 171 [vI op,vIs ks] [] (vI (qL1 op ks)) []:=by
 refine sIr qY8 fun e _ hst=>?_;unfold JE;simp only[tZ,↓uU,simprocAttr,AY,Ak];refine⟨fun h=>?_,fun h=>⟨fun h2=>?_,fun h2=>⟨fun h3=>?_,fun h3=>?_⟩⟩⟩
 ·have h0:0<ks.length:=by have:=h7 h;omega
  have hk:=hv _ (AX h0);have hw:IntKind.i64.wrap ((0:Int)-ks[0]) =-ks[0]:=by rw[AK _ oM];omega
  rw[qL1,Aj h,qg h0];simp only[tZ,↓uU,simprocAttr,qd h0];rw[hw];refine⟨oM,?_⟩;exact .oA [] []
 ·have h0:0<ks.length:=by have:=h5 (.inl h2);omega
  have h1:1<ks.length:=by have:=h5 (.inl h2);omega
  rw[qL1,Aq h,Aj h2,qg h0,qg h1];have hm:minI ks[0] ks[1]=min ks[0] ks[1]:=by unfold minI;omega
  simp only[tZ,↓uU,simprocAttr,qd h0,qd h1,hm];refine⟨oM,oM,kR,?_⟩;exact .oA [] []
 ·have h0:0<ks.length:=by have:=h5 (.inr h3);omega
  have h1:1<ks.length:=by have:=h5 (.inr h3);omega
  rw[qL1,Aq h,Aq h2,Aj h3,qg h0,qg h1];have hm:maxI ks[0] ks[1]=max ks[0] ks[1]:=by unfold maxI;omega
  simp only[tZ,↓uU,simprocAttr,qd h0,qd h1,hm];refine⟨oM,oM,kR,?_⟩;exact .oA [] []
 ·rw[qL1,Aq h,Aq h2,Aq h3];exact .oA [] []
theorem jy0 (s:Sch) (c:Cnd) (v:Int) : -1≤Qq s c v∧Qq s c v≤1:=by
 unfold Qq tf
 grind
theorem jy1 {op:Int} {ks:List Int} (h:∀ k∈ks,-1≤k∧k≤1) : -1≤qL1 op ks∧qL1 op ks≤1:=by
 have key:∀ i,-1≤ks.getD i 0∧ks.getD i 0≤1:=fun i=>by
  rcases Nat.lt_or_ge i ks.length with hi | hi
  ·rw[qg hi];exact h _ (AX hi)
  ·rw[CY,List.getElem?_eq_none hi];simp
 have h0:=key 0;have h1:=key 1;unfold qL1
 grind
theorem jH5 (s:Sch) (row:List Int):∀ c,-1≤evC s row c∧evC s row c≤1:=by
 refine Cnd.ind' fun c ih=>?_;rw[jl0];split
 ·exact jy0 s c _
 ·refine jy1 fun k hk=>?_;obtain⟨x,hx,rfl⟩:=Cj.1 hk;exact ih x hx
theorem zp4 (s:Sch) (hok:SchOk s) (row:List Int) (hr:row.length=s.cols.length):∀ (c:Cnd),nodE s c=0→Sp 161 [schT s,cnT c,vIs row] [] (vI (evC s row c)) []:=by
 refine Cnd.ind' fun c ih hE=>?_;obtain⟨hE1,hE2⟩:=zz4 hE;have hnd:=jk9 hE1;have hks:c.kids.length≤2:=by have:=hnd.nk;unfold arC at this;grind
 rw[jl0];have hi:isAt c=((c.op==2)||(c.op==3)||(c.op==4)):=rfl;refine sIr qX9 fun e _ hst=>?_;unfold JA;refine sW ?_;rw[← hi];refine⟨fun h=>?_,fun h=>?_⟩
 ·rw[Aj h];have hb:∃ k,isB s c.col k=true:=by
   rw[hi] at h;simp only[tD,AY] at h;rcases h with (h | h) | h
   ·exact⟨2,(hnd.under h).1⟩
   ·exact⟨3,(hnd.between h).1⟩
   ·exact⟨3,(hnd.miss h).1⟩
  obtain⟨kk,hb⟩:=hb;obtain⟨b1,b2,_⟩:=jk.1 hb;have hil:c.col.toNat<row.length:=by omega
  rw[qg hil];simp only[tZ,↓uU,simprocAttr,qd hil];refine⟨oM,?_⟩;refine C1.im (QH s hok c hnd _) rF rF ?_;refine sW ?_;refine⟨kR,?_⟩;exact .oA [] []
 ·rw[Aq (by rw[h];simp)];refine qt mixm (α:=Nat) [7,8,21] (fun i=>i≤c.kids.length) (fun i=>[(7,.asl 1 i),(8,vI i)]) (fun i=>[aR 4096 2 [schT s],aR 4100 6 [cnT c],aR 1 1 (((c.kids.take i).map (evC s row)).map vI)]) (fun i=>c.kids.length-i) 0 oM ?_ fun i hi2=>?_
  ·exact .oA [uI 4096,uI 4100,(1,none)] []
  refine sD ?_;refine⟨fun h5=>?_,fun h5=>?_⟩
  ·have hi2:i<c.kids.length:=by omega
   have hwi:=qh (i:=i) oM;simp only[tZ,↓uU,simprocAttr,Ax,qd hi2,Qn];refine⟨oM,?_⟩;refine C1.im (ih _ (AX hi2) (hE2 _ (AX hi2))) rF rF ?_;simp only[tZ,↓uU,simprocAttr,hwi];have hlt:(c.kids.take i).length=i:=by simp;omega
   refine⟨oM,kR,i+1,oM,oM,?_⟩;rw[qy hi2,By,By];exact .oA (U3 4096 4100 1) []
  ·have hil:i=c.kids.length:=by omega
   subst hil;rw[Bw];have hj:=qm6 c.op (c.kids.map (evC s row)) (fun e=>by rw[BY,hnd.nk,e];decide) (fun e=>by rw[BY,hnd.nk];rcases e with e | e <;> rw[e] <;> decide) (fun k hk=>by
    obtain⟨x,_,rfl⟩:=Cj.1 hk;exact jH5 s row x)
   refine C1.shut [1] hj ?_ rF rfl ?_
   ·simp only[tL,simprocAttr];exact jg9 _
   refine sW ?_;exact .oA [] []
theorem zp5 (s:Sch) (hs:jY s) (hL:0<s.lists.length) (c:Cnd) (row:List Int) (hr:row.length<4611686018427387904):Sp 122 [schT s,cnT c,vIs row] [] (vI (qZ8 s c row)) []:=by
 have hR:=qz6 s hs row hr;refine sIr qW6 fun e _ hst=>?_;unfold Js;refine sW ?_;refine C1.im (jt s hs hL c) rF rF ?_;refine sW ?_;refine C2.im (fun _=>hR) (fun _=>rfl) rF ?_;simp only[tZ,↓uU,simprocAttr,tD,Bj,Aw];refine⟨fun h=>?_,fun h=>?_⟩
 ·rw[qZ8,Aj h];exact .oA [] []
 obtain⟨k1,k2,k3,k4⟩:=YG h.1;rw[qZ8,Aq oM];refine C1.im (zp4 s (qO k1) row (wA h.2).2.1 c k4) rF rF ?_;refine sW ?_;exact .oA [] []
theorem zz7:∀ c m,1≤m→cntC c m<m→((atsC c).length:Int)≤cntC c m:=by
 refine Cnd.ind' fun c ih m hm h=>?_;have hc:=qQ7 c m hm;rw[qi8];split
 ·simp;omega
 ·rw[qi7] at h ⊢
  have key:∀ l:List Cnd,(∀ k∈l,k∈c.kids)→∀ n,1≤n→n≤m→wg l m n<m→n+(QC l).length≤wg l m n:=by
   intro l
   induction l with
   | nil=>intro _ n h1 h2 _;rw[wg,QC];simp
   | cons k r ihl=>
     intro hk n h1 h2 h3;rw[wg] at h3 ⊢
     rw[QC,AW];split at h3
     ·rename_i h4;rw[Aj h4];have c1:=qQ7 k (m-n) oM;have c2:=qZ9 r m (n+cntC k (m-n)) oM;have c3:=ih k (hk k sMp) (m-n) oM oM;have c4:=ihl (fun x hx=>hk x (CQ _ hx)) (n+cntC k (m-n)) oM oM h3;omega
     ·omega
  have:=key c.kids (fun k hk=>hk) 1 oM hm h;omega
theorem JI:∀ (l:List Cnd) (i:Nat),(QC (l.take i)).length≤(QC l).length
 | [],i=>by simp
 | x::r,0=>by simp [QC]
 | x::r,i+1=>by rw[List.take_succ_cons,QC,QC,AW,AW];have:=JI r i;omega
theorem jl3 (l:List Cnd):ImXs 6 (l.map cndT):=qV jx9 l
theorem jl4 {st:Sto} {ρ:Ren} {B:List Nat} (l:List Cnd):ltXs st ρ B 6 (l.map cndT) (l.map cndT):=jV (jl3 l)
theorem za3:∀ (c:Cnd) (m:Int),1≤m→m≤1000→cntC c m<m→Sp 167 [cnT c] [] (vCs (atsC c)) []:=by
 refine Cnd.ind' fun c ih m hm hm2 hc=>?_;have hal:=zz7 c m hm hc;rw[qi7] at hc hal;obtain⟨hk1,hk2⟩:=za1 oM hc;have hi:isAt c=((c.op==2)||(c.op==3)||(c.op==4)):=rfl;refine sIr qK6 fun e _ hst=>?_;unfold Zx;refine sW ?_;rw[← hi];refine⟨fun h=>?_,fun h=>?_⟩
 ·rw[qi8,Aj h];show Qx [] _ _ (.sl 6 [cndT c]) [];rw[Qn];exact .oA [] [12292]
 ·rw[qi8,Aq (by rw[h];simp)] at hal ⊢
  refine qt mixm (α:=Nat) [3,4,17] (fun i=>i≤c.kids.length) (fun i=>[(3,.asl 1 (QC (c.kids.take i)).length),(4,vI i)]) (fun i=>[aR 4096 6 [cnT c],aR 1 6 ((QC (c.kids.take i)).map cndT)]) (fun i=>c.kids.length-i) 0 oM ?_ fun i hi2=>?_
  ·exact .oA [uI 4096,(1,none)] []
  have htl:=JI c.kids i;refine sD ?_;refine⟨fun h5=>?_,fun h5=>?_⟩
  ·have hi2:i<c.kids.length:=by omega
   have hwi:=qh (i:=i) oM;obtain⟨m',a1,a2,a3⟩:=hk2 _ (AX hi2);have htl2:=JI c.kids (i+1);rw[qy hi2,qi9,AW] at htl2;simp only[tZ,↓uU,simprocAttr,Ax,qd hi2,Qn];refine⟨oM,?_⟩;refine C1.im (ih _ (AX hi2) m' a1 oM a3) rF rF ?_;simp only[tZ,↓uU,simprocAttr,hwi];refine⟨oM,i+1,oM,oM,?_⟩;rw[qy hi2,qi9,By];refine .of (U2 4096 1) [] rfl (by first | rfl | (rw[hst];rfl)) ?_ ?_
   all_goals (try simp only[tL,simprocAttr,By,List.map_cons,List.map_nil,BW,Cy,Dj])
   all_goals (try (repeat' (first | exact zq | (apply jm;intro _;exact⟨rfl,rfl⟩) | (apply qV;intro _;exact⟨rfl,rfl⟩) | with_reducible apply zm | with_reducible refine zj ⟨rfl,rfl⟩ ?_ | exact zC | with_reducible apply zg | with_reducible refine zf ⟨rfl,rfl,?_⟩ ?_ | with_reducible apply Az | exact zh rfl | exact zh (by assumption) | (refine⟨⟨?_,rfl,?_,rfl,?_⟩,trivial⟩ <;> first | (simp;done) | (apply qV;intro _;exact⟨rfl,rfl⟩)) | trivial | rfl | (rw[qh oM]) | omega)))
   all_goals first | exact jl4 _ | exact jl3 _
  ·have hil:i=c.kids.length:=by omega
   subst hil;rw[Bw];refine .of [] [1] rfl (by first | rfl | (rw[hst];rfl)) ?_ ?_
   all_goals (try simp only[tL,simprocAttr,By,List.map_cons,List.map_nil,BW,Cy,Dj])
   all_goals (try (repeat' (first | exact zq | (apply jm;intro _;exact⟨rfl,rfl⟩) | (apply qV;intro _;exact⟨rfl,rfl⟩) | with_reducible apply zm | with_reducible refine zj ⟨rfl,rfl⟩ ?_ | exact zC | with_reducible apply zg | with_reducible refine zf ⟨rfl,rfl,?_⟩ ?_ | with_reducible apply Az | exact zh rfl | exact zh (by assumption) | (refine⟨⟨?_,rfl,?_,rfl,?_⟩,trivial⟩ <;> first | (simp;done) | (apply qV;intro _;exact⟨rfl,rfl⟩)) | trivial | rfl | (rw[qh oM]) | omega)))
   all_goals first | exact jl4 _ | exact jl3 _
theorem qA1 (col lev:Int):∀ (l:List Pk) (x:List Pk×Bool),(l.foldl (Kb col lev) x).1.length+(if (l.foldl (Kb col lev) x).2=true then 0 else 1)≤x.1.length+(if x.2=true then 0 else 1)+l.length
 | [],x=>BZ _
 | p::r,x=>by
   have h:=qA1 col lev r (Kb col lev x p);have h2:(Kb col lev x p).1.length+(if (Kb col lev x p).2=true then 0 else 1)≤x.1.length+(if x.2=true then 0 else 1)+1:=by
    unfold Kb;obtain⟨a,b⟩:=x;dsimp only;split <;> split <;> cases b <;> simp_all <;> omega
   rw[Dw,CJ];omega
theorem wQ (l:List Pk) (col lev:Int):(jz l col lev).length≤l.length+1:=by
 have h:=qA1 col lev l ([],decide (lev≤0));unfold jz;dsimp only at h ⊢
 split
 ·simp_all
  split at h <;> omega
 ·rename_i k;rw[Aq k] at h;rw[AW];simp at h ⊢
  split at h <;> omega
theorem jN (l:List Pk) (col lev:Int) (hl:l.length<1000000000):Sp 83 [vPs l,vI col,vI lev] [] (vPs (jz l col lev)) []:=by
 have hP:jz l col lev=if (l.foldl (Kb col lev) ([],decide (lev≤0))).2 then (l.foldl (Kb col lev) ([],decide (lev≤0))).1 else (l.foldl (Kb col lev) ([],decide (lev≤0))).1++[⟨col,lev⟩]:=rfl
 have hS:∀ i,i≤l.length→((l.take i).foldl (Kb col lev) ([],decide (lev≤0))).1.length≤l.length+1:=fun i hi=>by
  have h:=qA1 col lev (l.take i) ([],decide (lev≤0));simp only[Cw,Cz] at h;split at h <;> split at h <;> omega
 refine sIr qG2 fun e _ hst=>?_;unfold QZ;refine sW ?_;refine qt mixm (α:=Nat×List Pk×Bool) [7,8,9] (fun x=>x.1≤l.length∧x.2=(l.take x.1).foldl (Kb col lev) ([],decide (lev≤0))) (fun x=>[(7,.asl 1 x.2.1.length),(8,vB x.2.2),(9,vI x.1)]) (fun x=>[aR 1 2 (x.2.1.map pkT)]) (fun x=>l.length-x.1) (0,[],decide (lev≤0)) ⟨sMp,sMp⟩ ?_ fun x hx=>?_
 ·exact .oA [(1,none)] []
 obtain⟨i,a,b⟩:=x;obtain⟨x1,x2⟩:=hx;dsimp only at x1 x2;have hSi:=hS i x1;rw[← x2] at hSi;dsimp only at hSi;refine sD ?_;refine⟨fun h=>?_,fun h=>?_⟩
 ·have hi2:i<l.length:=by omega
  have hwi:=qh (i:=i) oM;have hs:(l.take (i+1)).foldl (Kb col lev) ([],decide (lev≤0))=Kb col lev (a,b) l[i]:=by rw[qy hi2,Gx,← x2];rfl
  simp only[tZ,↓uU,simprocAttr,Ax,qd hi2];generalize l[i]=p at hs ⊢
  have hmx:maxI p.lev lev=max p.lev lev:=by unfold maxI;omega
  have hr:Kb col lev (a,b) p=(if p.col=col then ((if p.col>col∧b=false then (a++[⟨col,lev⟩],true) else (a,b)).1++[⟨p.col,max p.lev lev⟩],true) else ((if p.col>col∧b=false then (a++[⟨col,lev⟩],true) else (a,b)).1++[p],(if p.col>col∧b=false then (a++[(⟨col,lev⟩:Pk)],true) else (a,b)).2)):=rfl;rw[hr] at hs;simp only[tZ,↓uU,simprocAttr,tD,AY,Ak,Bx,Bz,hwi,hmx];refine⟨oM,fun h2=>⟨oM,fun h3=>by omega,fun h3=>?_⟩,fun h2=>⟨fun h3=>?_,fun h3=>?_⟩⟩
  ·rw[Aq h3,Aj h2] at hs;refine⟨oM,(i+1,a++[⟨col,lev⟩]++[p],true),⟨by dsimp only;omega,hs.symm⟩,by dsimp only;omega,?_⟩;exact .oA (U1 1) []
  ·rw[Aj h3,Aq (by grind)] at hs;refine⟨oM,(i+1,a++[⟨p.col,max p.lev lev⟩],true),⟨by dsimp only;omega,hs.symm⟩,by dsimp only;omega,?_⟩;exact .oA (U1 1) []
  ·rw[Aq h3,Aq (by grind)] at hs;refine⟨oM,(i+1,a++[p],b),⟨by dsimp only;omega,hs.symm⟩,by dsimp only;omega,?_⟩;exact .oA (U1 1) []
 ·have hil:i=l.length:=by omega
  subst hil;rw[Bw] at x2;rw[← x2] at hP;dsimp only at hP;simp only[tZ,↓uU,simprocAttr,Bx,Bz];refine⟨fun h2=>?_,fun h2=>?_⟩
  ·rw[hP,h2,Aq sMp];refine⟨oM,?_⟩;show Qx [] _ _ (.sl 2 ((a++[(⟨col,lev⟩:Pk)]).map pkT)) [];rw[By];exact .oA [] [1]
  ·rw[hP,Aj h2];exact .oA [] [1]
theorem ZB (a b:List Pk) (ha:a.length<4611686018427387904) (hb:b.length<4611686018427387904):Sp 29 [vPs a,vPs b] [] (vB (covB a b)) []:=by
 refine sIr qv3 fun e _ hst=>?_;unfold yQ;refine sW ?_;refine qt mixm (α:=Nat) [5] (fun i=>i≤a.length∧(covB (a.take i) b=true)) (fun i=>[(5,vI i)]) (fun i=>[]) (fun i=>a.length-i) 0 ⟨oM,?_⟩ ?_ fun i hi=>?_
 ·rfl
 ·exact .oA [] []
 simp only[tZ,↓uU,simprocAttr,AZ,Ay];refine⟨fun h=>?_,fun h=>?_⟩
 ·have hi2:i<a.length:=by omega
  have hwi:=qh (i:=i) oM;refine qt mixm (α:=Nat) [6,7] (fun k=>k≤b.length) (fun k=>[(6,vB ((b.take k).any fun y=>(y.col==a[i].col)&&decide (y.lev≥a[i].lev))),(7,vI k)]) (fun k=>[]) (fun k=>b.length-k) 0 oM ?_ fun k hk=>?_
  ·exact .oA [] []
  refine sD ?_;refine⟨fun h4=>?_,fun h4=>?_⟩
  ·have hk2:k<b.length:=by omega
   have hwk:=qh (i:=k) oM;simp only[tZ,↓uU,simprocAttr,Ax,qd hi2,qd hk2,hwk];refine⟨fun _=>by omega,fun _=>by omega,fun _=>by omega,fun _=>by omega,kR,k+1,oM,oM,?_⟩;rw[qy hk2,FW,List.any_cons,List.any_nil,Bool.or_false];exact .oA [] []
  ·have hkl:k=b.length:=by omega
   subst hkl;rw[Bw];have hcs:covB (a.take (i+1)) b=(covB (a.take i) b&&b.any fun y=>(y.col==a[i].col)&&decide (y.lev≥a[i].lev)):=by
    unfold covB;rw[qy hi2,FK];simp
   simp only[tZ,↓uU,simprocAttr,Bx,Bz,hwi];refine⟨fun h5=>?_,fun h5=>?_⟩
   ·have:covB a b=false:=List.all_eq_false.2 ⟨_,AX hi2,by rw[h5];simp⟩;rw[this];exact .oA [] []
   ·refine⟨i+1,⟨oM,by rw[hcs,hi.2,h5];rfl⟩,oM,?_⟩;exact .oA [] []
 ·have hi2:i=a.length:=by omega
  subst hi2;have h3:=hi.2;rw[Bw] at h3;rw[h3];exact .oA [] []
theorem zp6:∀ {a b:List Cnd},a.length≠b.length→wh a b=false
 | [],[],h=>by simp at h
 | x::r,y::t,h=>by rw[wh,zp6 (a:=r) (b:=t) (by simpa using h),Bool.and_false]
 | [],y::t,_=>rfl
 | x::r,[],_=>rfl
theorem qA2:∀ {a b:List Cnd} {i:Nat} (ha:i<a.length) (hb:i<b.length),wh (a.take (i+1)) (b.take (i+1))=(wh (a.take i) (b.take i)&&qj1 a[i] b[i])
 | x::r,y::t,0,_,_=>by simp [wh]
 | x::r,y::t,i+1,ha,hb=>by
   rw[List.take_succ_cons,List.take_succ_cons,wh,qA2 (a:=r) (b:=t) (by simpa using ha) (by simpa using hb),List.take_succ_cons,List.take_succ_cons,wh];simp [Bool.and_assoc]
theorem qR1:∀ {a b:List Cnd} {i:Nat} (ha:i<a.length) (hb:i<b.length),qj1 a[i] b[i]=false→wh a b=false
 | x::r,y::t,0,_,_,h=>by
   have h:qj1 x y=false:=h;rw[wh,h,Bool.false_and]
 | x::r,y::t,i+1,ha,hb,h=>by rw[wh,qR1 (a:=r) (b:=t) (i:=i) (by simpa using ha) (by simpa using hb) h,Bool.and_false]
inductive SmC:Cnd→Prop
 | mk (c:Cnd) (h1:c.kids.length<4611686018427387904) (h2:∀ k∈c.kids,SmC k):SmC c
theorem qm7:∀ (a b:Cnd),(a.kids.length=b.kids.length→SmC a)→Sp 139 [cnT a,cnT b] [] (vB (qj1 a b)) []:=by
 refine Cnd.ind' fun a ih b hs=>?_;rw[jx6];refine sIr qX3 fun e _ hst=>?_;unfold Jv;simp only[tZ,↓uU,simprocAttr,tD,Bj,Aw];refine⟨fun h=>?_,fun h=>?_⟩
 ·have:((a.op==b.op)&&(a.col==b.col)&&(a.code==b.code)&&(a.lo==b.lo)&&(a.hi==b.hi)&&wh a.kids b.kids)=false:=by
   rcases h with ((((h | h) | h) | h) | h) | h
   ·rw[Ak.2 h];simp
   ·rw[Ak.2 h];simp
   ·rw[Ak.2 h];simp
   ·rw[Ak.2 h];simp
   ·rw[Ak.2 h];simp
   ·rw[zp6 oM];simp
  rw[this];exact .oA [] []
 have e:((a.op==b.op)&&(a.col==b.col)&&(a.code==b.code)&&(a.lo==b.lo)&&(a.hi==b.hi)&&wh a.kids b.kids)=wh a.kids b.kids:=by
  rw[AY.2 h.1.1.1.1.1,AY.2 h.1.1.1.1.2,AY.2 h.1.1.1.2,AY.2 h.1.1.2,AY.2 h.1.2];simp
 have hl:a.kids.length=b.kids.length:=by omega
 obtain⟨_,s1,s2⟩:=hs hl;rw[e];refine qt mixm (α:=Nat) [5,47] (fun i=>i≤a.kids.length∧wh (a.kids.take i) (b.kids.take i)=true) (fun i=>[(5,vI i)]) (fun i=>[aR 4096 6 [cnT a],aR 4100 6 [cnT b]]) (fun i=>a.kids.length-i) 0 ⟨oM,by simp [wh]⟩ ?_ fun i hi=>?_
 ·exact .oA (U2 4096 4100) []
 refine sD ?_;refine⟨fun h5=>?_,fun h5=>?_⟩
 ·have hi2:i<a.kids.length:=by omega
  have hib:i<b.kids.length:=by omega
  have hwi:=qh (i:=i) oM;simp only[tZ,↓uU,simprocAttr,Ax,qd hi2,qd hib,Qn];refine⟨oM,oM,?_⟩;refine C1.im (ih _ (AX hi2) b.kids[i] fun _=>s2 _ (AX hi2)) rF rF ?_;simp only[tZ,↓uU,simprocAttr,Bx,Bz,hwi];refine⟨kR,fun h6=>?_,fun h6=>?_⟩
  ·rw[qR1 hi2 hib h6];exact .oA [] []
  ·refine⟨i+1,⟨oM,by rw[qA2 hi2 hib,hi.2,h6];rfl⟩,oM,?_⟩;exact .oA (U2 4096 4100) []
 ·have hil:i=a.kids.length:=by omega
  have h2:=hi.2;rw[hil,Bw,hl,Bw] at h2;rw[h2];exact .oA [] []
theorem qA3 (s:Sch) (hE:schE s=0) (c:Cnd) (hnd:NdOk s c) (ha:isAt c=true) (lev:Nat) (hl:(lev:Int)≤finI s c.col):Sp 168 [schT s,cnT c,vI lev] [] (vB (decB s c lev)) []:=by
 have hok:=qO hE;have hn0:=hok.nl;have hn1:=hok.nc;obtain⟨_,c1,c2,hfin⟩:=kz (s:=s) (c:=c.col) oM;obtain⟨i,hci⟩:=AJ (show 0≤c.col by omega);have hcn:c.col.toNat=i:=by omega
 have hil:i<s.cols.length:=by omega
 have hat:qj s i=s.cols[i]:=by rw[qj,qg hil]
 have hwd:=fun e l=>hok.wid hil oM e (lev:=l);have hlv:=jv s hok i hil;have hll:=jM hok hil;rw[hcn,hat] at hfin;rw[hat] at hwd hlv hll;have hi:isAt c=((c.op==2)||(c.op==3)||(c.op==4)):=rfl;have hD:decB s c lev=if c.op=2 then qj0 (qA s i).length (decP s c lev)
 else if c.op=4 then decide (0<lev)
 else if lev=0 then !s.cols[i].opt&&!(decide (s.cols[i].low<c.lo)&&decide (c.lo≤s.cols[i].high))&&!(decide (s.cols[i].low≤c.hi)&&decide (c.hi<s.cols[i].high))
  else (!(decide (s.cols[i].low<c.lo)&&decide (c.lo≤s.cols[i].high))||(c.lo.tmod (qJ s.cols[i] lev)==0))&&(!(decide (s.cols[i].low≤c.hi)&&decide (c.hi<s.cols[i].high))||((c.hi+1).tmod (qJ s.cols[i] lev)==0)):=by
  rw[decB,hcn,hat]
 have hk2:c.op=2→s.cols[i].kind=2:=fun h=>by
  have:=(jk.1 (hnd.under h).1).2.2;rw[hcn,hat] at this;exact this
 have hk3:c.op=3→s.cols[i].kind=3:=fun h=>by
  have:=(jk.1 (hnd.between h).1).2.2;rw[hcn,hat] at this;exact this
 have hPd:∀ L,qA s i=L→∀ j k,decP s c lev j k=!((qk s c.col lev (L.getD j 0)==qk s c.col lev (L.getD k 0))&&!(Qq s c (L.getD j 0)==Qq s c (L.getD k 0))):=fun L hL j k=>by rw[decP,hcn,hL]
 rw[hD];have hci2:vI c.col=vI i:=by rw[hci]
 refine sIr qp3 fun e _ hst=>?_;unfold yl;simp only[tZ,↓uU,simprocAttr,hcn,qd hil];generalize s.cols[i]=x at hwd hlv hfin hll hk2 hk3 ⊢
 simp only[tZ,↓uU,simprocAttr,AY,Ak];refine⟨oM,fun h2=>?_,fun h2=>?_⟩
 ·rw[Aj h2];rw[← hci2] at hlv;refine C1.im (hlv (hk2 h2)) rF rF ?_;have hPd:=hPd _ rfl;generalize qA s i=L at hll hPd ⊢
  have hll:=hll (hk2 h2);refine sW ?_;refine qt mixm (α:=Nat) [9] (fun j=>j≤L.length∧qj0 j (decP s c lev)=true) (fun j=>[(9,vI j)]) (fun j=>[aR 4096 2 [schT s],aR 4100 6 [cnT c],aR 8216 7 [colT x]]) (fun j=>L.length-j) 0 ⟨oM,rfl⟩ ?_ fun j hj=>?_
  ·exact .oA (U3 4096 4100 8216) []
  obtain⟨j1,j2⟩:=hj;refine sD ?_;refine⟨fun h3=>?_,fun h3=>?_⟩
  ·have hj2:j<L.length:=by omega
   have hwj:=qh (i:=j) oM;have hgj:L.getD j 0=L[j]:=qg hj2;refine qt mixm (α:=Nat) [10] (fun k=>k≤j∧(List.range k).all (decP s c lev j)=true) (fun k=>[(10,vI k)]) (fun k=>[aR 4096 2 [schT s],aR 4100 6 [cnT c],aR 8216 7 [colT x]]) (fun k=>j-k) 0 ⟨oM,rfl⟩ ?_ fun k hk=>?_
   ·exact .oA (U3 4096 4100 8216) []
   obtain⟨k1,k2⟩:=hk;refine sD ?_;refine⟨fun h4=>?_,fun h4=>?_⟩
   ·have hk2:k<L.length:=by omega
    have hwk:=qh (i:=k) oM;have hgk:L.getD k 0=L[k]:=qg hk2;have hP:=hPd j k;rw[hgj,hgk] at hP;have hC1:=QH s hok c hnd L[j];have hC2:=QH s hok c hnd L[k];simp only[tZ,↓uU,simprocAttr,Ax,qd hj2,qd hk2];refine⟨oM,?_⟩;refine C1.im (zk s hok.sm c.col lev L[j]) rF rF ?_;simp only[tZ,↓uU,simprocAttr,Ax,qd hj2,qd hk2];refine⟨oM,?_⟩;refine C1.im (zk s hok.sm c.col lev L[k]) rF rF ?_;simp only[tZ,↓uU,simprocAttr,Ax,qd hj2,qd hk2];refine⟨fun _=>by omega,?_⟩;refine C2.im (fun _=>hC1) (fun _=>rfl) rF ?_;simp only[tZ,↓uU,simprocAttr,Ax,qd hj2,qd hk2];refine⟨fun _=>by omega,?_⟩;refine C2.im (fun _=>hC2) (fun _=>rfl) rF ?_;simp only[tZ,↓uU,simprocAttr,hwk,tD,Bj,Aw,AY,Ak];refine⟨kR,fun h5=>?_,fun h5=>?_⟩
    ·rw[zL1 hj2 (show k<j by omega) (by rw[hP];grind)];exact .oA [] []
    ·refine⟨k+1,⟨oM,?_⟩,oM,?_⟩
     ·rw[qd8,k2,hP];grind
     ·exact .oA (U3 4096 4100 8216) []
   ·have hkj:k=j:=by omega
    subst hkj;simp only[tZ,↓uU,simprocAttr,hwj];refine⟨k+1,⟨oM,?_⟩,oM,?_⟩
    ·rw[qQ6,j2,k2];rfl
    ·exact .oA (U3 4096 4100 8216) []
  ·have hjl:j=L.length:=by omega
   subst hjl;rw[j2];exact .oA [] []
 rw[Aq h2];refine⟨fun h4=>?_,fun h4=>?_⟩
 ·rw[Aj h4];rw[show decide ((lev:Int)>0)=decide (0<lev) from by rw[Bool.eq_iff_iff,AZ,AZ];omega];exact .oA [] []
 rw[Aq h4];have h3:c.op=3:=by
  rw[hi] at ha;simp only[tD,AY] at ha;omega
 have hk3:=hk3 h3;have hb:=hnd.between h3;rw[Aq oM] at hfin;refine⟨kR,fun h5=>?_,fun h5=>?_⟩
 ·rw[Aj oM,show decide (c.lo>x.low)=decide (x.low<c.lo) from rfl];exact .oA [] []
 ·rw[Aq oM];have hw:=hwd oM lev oM;refine C1.im (wa x lev oM oM) rF rF ?_;have hwh:IntKind.i64.wrap (c.hi+1)=c.hi+1:=AK _ oM;simp only[tZ,↓uU,simprocAttr,hwh];rw[show decide (c.lo>x.low)=decide (x.low<c.lo) from rfl];refine⟨fun _=>by omega,fun _=>by omega,?_⟩;exact .oA [] []
theorem JJ {s:Sch} (hE:schE s=0) {i:Nat} (h1:0<i) (h2:i<s.cols.length) (hk:(qj s i).kind=2) {v:Int} (hv:v∈qA s i):qk s i (finI s i) v=v:=by
 have hok:=qO hE;obtain⟨d1,d2⟩:=hok.cdl h2 hk;have hf:finI s i=zA (qK s i)-1:=by
  rw[finI,Aq oM,Ax,Aj hk]
 have hh:=Wl hk d2 hv;obtain⟨j,j1,j2,rfl⟩:=(qZ5 d2).1 hv;rw[qk,Aq,Ax,Aj hk,Aq (by rw[hh];simp),upC,Aq,hf,← j2,Ax,Ax,zo7 oM]
 ·rw[hf,← j2,Ax];omega
 ·rw[Ez,zP,hf,← j2];omega
theorem jM5 {s:Sch} (hE:schE s=0) {c:Cnd} (hnd:NdOk s c) (ha:isAt c=true):0≤finI s c.col∧decB s c (finI s c.col).toNat=true:=by
 have hok:=qO hE;have hlv:∀ k,isB s c.col k=true→2≤k→∃ i:Nat,c.col=i∧0<i∧i<s.cols.length∧(qj s i).kind=k:=fun k hb hk=>by
  obtain⟨b1,b2,b3⟩:=jk.1 hb;obtain⟨i,hci⟩:=AJ b1;rw[hci,Ax] at b3;refine⟨i,hci,?_,oM,b3⟩;refine Nat.pos_of_ne_zero fun e=>?_;subst e;have:=hok.c0;omega
 have hm:∀ i:Nat,0<i→i<s.cols.length→(qj s i).kind=3→finI s i=(qj s i).widths.length∧1≤(qj s i).widths.length:=fun i h1 h2 h3=>by
  refine⟨by rw[finI,Aq oM,Ax,Aq oM],?_⟩;have:=(zo (hok.cs i h2)).2.2.2.2 h3;unfold measE at this
  grind
 have hop:c.op=2∨c.op=3∨c.op=4:=by
  unfold isAt at ha;simp only[DZ,AY] at ha;omega
 rcases hop with h | h | h
 ·obtain⟨i,hci,h1,h2,hk⟩:=hlv 2 (hnd.under h).1 oM;obtain⟨d1,d2⟩:=hok.cdl h2 hk;have hf:finI s i=zA (qK s i)-1:=by
   rw[finI,Aq oM,Ax,Aj hk]
  have hf0:0≤finI s i:=by rw[hf,qq8 d2];omega
  rw[hci];refine⟨hf0,?_⟩;rw[decB,Aj h,hci,Ax,qj0,Bk];intro j hj;rw[Dk] at hj;rw[Bk];intro k hk2;rw[Dk] at hk2;have e:(((finI s i).toNat:Nat):Int)=finI s i:=by omega
  rw[decP,hci,Ax,e,qg hj,qg oM,JJ hE h1 h2 hk (AX _),JJ hE h1 h2 hk (AX _)]
  grind
 ·obtain⟨i,hci,h1,h2,hk⟩:=hlv 3 (hnd.between h).1 oM;obtain⟨m1,m2⟩:=hm i h1 h2 hk;have hw:=hok.wid h2 h1 oM (lev:=(qj s i).widths.length) oM;rw[hci,m1];refine⟨oM,?_⟩;rw[decB,Aq oM,Aq oM,hci,Ax,Ax];dsimp only;rw[Aq oM,hw.2.2.2.2.2.2.2];simp
 ·obtain⟨i,hci,h1,h2,hk⟩:=hlv 3 (hnd.miss h).1 oM;obtain⟨m1,m2⟩:=hm i h1 h2 hk;rw[hci,m1];refine⟨oM,?_⟩;rw[decB,Aq oM,Aj h,Ax];exact Cx oM
theorem KR {s:Sch} (hE:schE s=0) {c:Cnd} (hnd:NdOk s c) (ha:isAt c=true):(decN s c:Int)≤finI s c.col∧decB s c (decN s c)=true∧(∀ m,m<decN s c→decB s c m=false):=by
 obtain⟨h1,h2⟩:=jM5 hE hnd ha;have h3:=qj2 (c:=c.col) hE;obtain⟨a,b,_,d⟩:=YE h2 64 0 oM oM;unfold decN;exact⟨oM,a,fun m hm=>d m oM hm⟩
def zp7 (s:Sch):List Pk→Cnd→List Pk:=fun l a=>jz l a.col (decN s a)
theorem qA4 (s:Sch):∀ (L:List Cnd) (l:List Pk),(L.foldl (zp7 s) l).length≤l.length+L.length
 | [],l=>BZ _
 | a::L,l=>by
   have h1:=qA4 s L (zp7 s l a);have h2:=wQ l a.col (decN s a);rw[Dw,CJ];unfold zp7 at h1 ⊢
   omega
theorem yC (s:Sch) (hs:jY s) (hL:0<s.lists.length) (c:Cnd):Sp 142 [schT s,cnT c] [] (vPs (zu s c)) []:=by
 refine sIr qJ6 fun e _ hst=>?_;unfold Zs;refine sW ?_;refine C1.im (jt s hs hL c) rF rF ?_;simp only[tZ,↓uU,simprocAttr,Bj,Aw];refine⟨fun h=>?_,fun h=>?_⟩
 ·rw[zu,Aj h];exact .oA [] []
 obtain⟨hE,k2,k3,k4⟩:=YG h;have hal:=zz7 c 41 oM k2;have hao:=zK9 c k4;have hN:zu s c=(atsC c).foldl (zp7 s) []:=by rw[zu,Aq (by rw[h];simp)];rfl
 rw[hN];refine C1.im (za3 c 41 oM oM k2) rF rF ?_;generalize atsC c=L at hal hao ⊢
 refine sW ?_;refine qt mixm (α:=Nat) [5,7,12] (fun i=>i≤L.length) (fun i=>[(5,vPs ((L.take i).foldl (zp7 s) [])),(7,vI i)]) (fun i=>[aR 4096 2 [schT s]]) (fun i=>L.length-i) 0 oM ?_ fun i hi=>?_
 ·exact .oA (U1 4096) []
 have hlen:=qA4 s (L.take i) [];rw[Cz] at hlen;refine sD ?_;refine⟨fun h3=>?_,fun h3=>?_⟩
 ·have hi2:i<L.length:=by omega
  have hwi:=qh (i:=i) oM;obtain⟨hnd,ha⟩:=hao _ (AX hi2);obtain⟨n1,n2,n3⟩:=KR hE hnd ha;have h59:=qj2 (c:=L[i].col) hE;refine qt mixm (α:=Nat) [8] (fun n=>n≤decN s L[i]) (fun n=>[(8,vI n)]) (fun n=>[aR 4096 2 [schT s]]) (fun n=>decN s L[i]-n) 0 oM ?_ fun n hn=>?_
  ·exact .oA (U1 4096) []
  have hwn:=qh (i:=n) oM;simp only[tZ,↓uU,simprocAttr,Ax,qd hi2,Qn];refine⟨oM,?_⟩;refine C1.im (qA3 s hE L[i] hnd ha n oM) rF rF ?_;simp only[tZ,↓uU,simprocAttr,Bx,Bz,hwn];refine⟨kR,fun h4=>?_,fun h4=>?_⟩
  ·have:n≠decN s L[i]:=fun e=>by rw[e,n2] at h4;cases h4
   refine⟨n+1,oM,oM,?_⟩;exact .oA (U1 4096) []
  ·have:n=decN s L[i]:=by
    refine Nat.le_antisymm hn (Nat.le_of_not_lt fun e=>?_);rw[n3 n e] at h4;cases h4
   subst this;simp only[tZ,↓uU,simprocAttr,Ax,qd hi2,Qn];refine⟨oM,?_⟩;refine C1.im (jN ((L.take i).foldl (zp7 s) []) L[i].col (decN s L[i]) (by simp at hlen;omega)) rF rF ?_;simp only[tZ,↓uU,simprocAttr,hwi];refine⟨i+1,oM,oM,?_⟩;rw[qy hi2,Gx];show Le _ _ ⟨(5,vPs (jz ((L.take i).foldl (zp7 s) []) L[i].col (decN s L[i])))::_,_⟩;exact .oA (U1 4096) []
 ·have hil:i=L.length:=by omega
  subst hil;rw[Bw];exact .oA [] []
end Go.Proofs
