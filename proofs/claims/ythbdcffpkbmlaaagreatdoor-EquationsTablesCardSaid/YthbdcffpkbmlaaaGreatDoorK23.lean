/- A part of the proof: trees of Go values, short forms, contracts. -/
import Derived.Test.YthbdcffpkbmlaaaGreatDoorK22
namespace Go.Proofs
open Go Go.TL
set_option maxRecDepth 4000
set_option maxHeartbeats 8000000
theorem qg2 (s:Sch) (hE:schE s=0):∀ l:List Pk,(∀ d∈l,CdC s d.col)→szD s l≤2000→l.length<1000→Sp 35 [schT s,vPs l] [] (vvIs (lstD s l)) []
 | [],_,_,_=>by
   refine sIr WV fun e _ hst=>?_;unfold wE;refine sD ?_;refine⟨fun _=>?_,fun h=>by simp at h⟩;show wW _ _ _ (vvIs [[]]) _;refine fun e hst=>Le.trans (s':=⟨[(0,.asl 12288 1)],[aR 12288 1 [vIs []]]⟩) ?_ ?_
   ·exact .oA (U1 12288) []
   ·exact .oA [] [12288]
 | d::r,hd,hz,hl=>by
   have hok:=qU hE;have hpos:=zC3 s r;have hml:=Wy s (d::r);have hmr:=Wy s r;have hlr:r.length<1000:=by rw[CJ] at hl;omega
   have hzr:szD s r≤2000:=by
    have e:szD s (d::r)=((atL (qQ s d.col.toNat) d.lev).length+1)*szD s r:=by
     unfold szD;rw[List.map_cons,Dw,qf9 _ (1*_),Nat.one_mul]
    rw[e] at hz;exact FZ (Nat.le_mul_of_pos_left _ oM) hz
   have ih:=qg2 s hE r (fun x hx=>hd x (CQ _ hx)) hzr hlr;obtain⟨hrg,hk⟩:=hd d sMp;obtain⟨dc,dl⟩:=d;dsimp only at hrg hk ih;obtain⟨c,rfl⟩:=AJ hrg.1;rw[Ax] at hk;have hi:c<s.cols.length:=by omega
   have hat:qj s c=s.cols[c]:=by rw[qj,qg hi]
   obtain⟨d1,d2⟩:=hok.cdl hi hk;obtain⟨d3,d4⟩:=(zi (hok.cs c hi)).2.2.2.1 hk;have hcl:qQ s c=s.lists.getD s.cols[c].list.toNat default:=by rw[qQ,hat]
   rw[hat] at d1 d3 d4;have hgl:s.lists.getD s.cols[c].list.toNat default=s.lists[s.cols[c].list.toNat]:=qg d1;obtain⟨_,d5,d6⟩:=ze d2;have hal:=zA6 (qQ s c) dl;have hA:Sp 31 [cdlT s.lists[s.cols[c].list.toNat],vI dl] [] (vIs (atL (qQ s c) dl)) []:=by
    rw[hcl,hgl];exact Wt _ _ (by rw[hcl,hgl] at d6;omega)
   have hL:lstD s (⟨c,dl⟩::r)=(-1::atL (qQ s c) dl).flatMap fun x=>(lstD s r).map fun y=>x::y:=by
    show (-1::atL (qQ s (c:Int).toNat) dl).flatMap _=_;rw[Ax]
   have hrs:(lstD s r).length≤2000:=by omega
   have hyl:∀ y∈lstD s r,y.length<1000:=fun y hy=>by rw[ze4 s r y hy];exact hlr
   rw[hL] at hml ⊢
   generalize atL (qQ s c) dl=A at hA hal hml ⊢
   generalize lstD s r=R at ih hml hrs hyl ⊢
   refine zU [5,11] WV mixm sMp fun e _ hst=>kL ?_;unfold wE;simp only[wV,List.contains_cons,List.contains_nil,Nat.reduceBEq,Bool.or_false,Bool.or_true,Bool.true_or,Bool.false_or,cond_true,cond_false];refine sW ?_;refine⟨fun h=>by simp at h;omega,fun _=>⟨oM,?_⟩⟩;rw[show pkT ⟨(c:Int),dl⟩::List.map pkT r=(⟨(c:Int),dl⟩::r).map pkT from rfl,QO,show (r.length+1)=((⟨(c:Int),dl⟩::r):List Pk).length from rfl,show (1:Int)=((1:Nat):Int) from rfl,qW2,List.drop_one,List.tail_cons];refine C1.im ih rF rF ?_;simp only[tZ,↓uU,simprocAttr,Ax,qd hi,qd d1];refine⟨kR,oM,oM,oM,oM,?_⟩;refine C1.im hA rF rF ?_;refine sW ?_;refine⟨oM,kR,?_⟩;obtain⟨C,hC⟩:∃ C,C = -1::A:=⟨_,rfl⟩;rw[← hC] at hml ⊢
   have hCl:C.length=A.length+1:=by rw[hC,CJ]
   refine W_le [(5,vvIs R),(6,vIs C)] [] ?_ ?_
   ·rw[hC];refine .of [] [20480] rfl (by first | rfl | (rw[hst];rfl)) ?_ ?_
    all_goals (try simp only[tL,simprocAttr,By,List.map_cons,List.map_nil,BW,Cy,CJ,List.map_cons,BW,Cy])
    all_goals (try (exact clA))
   clear hC hL;obtain⟨g,hg⟩:∃ g:Int→List (List Int),g=fun x=>R.map fun y=>x::y:=⟨_,rfl⟩;rw[← hg] at hml ⊢
   have hgl:∀ x,(g x).length=R.length:=fun x=>by rw[hg];exact BY _
   have htot:∀ i,i≤C.length→((C.take i).flatMap g).length≤2000:=fun i hi=>by
    have e:C.flatMap g=(C.take i).flatMap g++(C.drop i).flatMap g:=by rw[← List.flatMap_append,List.take_append_drop]
    rw[e,AW] at hml;omega
   refine sW ?_;refine qk mixm (α:=Nat) [7,8] (fun i=>i≤C.length) (fun i=>[(7,.asl 1 ((C.take i).flatMap g).length),(8,vI i)]) (fun i=>[aR 1 1 (((C.take i).flatMap g).map vIs)]) (fun i=>C.length-i) 0 oM ?_ fun i hi=>?_
   ·show Le _ _ ⟨_,[aR 1 1 []]⟩;exact .oA [(1,none)] []
   refine sD ?_;refine⟨fun h2=>?_,fun h2=>?_⟩
   ·have hi2:i<C.length:=by omega
    have hwi:=qh (i:=i) oM;have hsn:(C.take (i+1)).flatMap g=(C.take i).flatMap g++g C[i]:=by rw[qz hi2,List.flatMap_append];simp
    have ht2:=htot (i+1) oM;rw[hsn,AW,hgl] at ht2;generalize (C.take i).flatMap g=F at hsn ht2;refine qk mixm (α:=Nat) [7,9] (fun k=>k≤R.length) (fun k=>[(7,.asl 1 (F.length+k)),(9,vI k)]) (fun k=>[aR 1 1 ((F++(R.take k).map fun y=>C[i]::y).map vIs)]) (fun k=>R.length-k) 0 oM ?_ fun k hk=>?_
    ·refine .of (U1 1) [] rfl (by first | rfl | (rw[hst];rfl)) ?_ ?_
     all_goals (try simp only[tL,simprocAttr,By,List.map_cons,List.map_nil,BW,Cy,List.take_zero,List.map_nil,CW,Nat.add_zero])
     all_goals (try (exact clA))
    have hkl:(F++(R.take k).map fun y=>C[i]::y).length=F.length+k:=by rw[AW,BY,Cz];omega
    refine sD ?_;refine⟨fun h3=>?_,fun h3=>?_⟩
    ·have hk2:k<R.length:=by omega
     have hwk:=qh (i:=k) oM;have hyk:=hyl _ (AX hk2);have hs2:F++(R.take (k+1)).map (fun y=>C[i]::y)=(F++(R.take k).map fun y=>C[i]::y)++[C[i]::R[k]]:=by rw[qz hk2,By,Dj];rfl
     generalize (F++(R.take k).map fun y=>C[i]::y)=Y at hkl hs2;simp only[tZ,↓uU,simprocAttr,Ax,qd hi2,qd hk2];refine⟨oM,oM,oM,oM,oM,kR,?_⟩;refine W_le [(5,vvIs R),(6,vIs C),(7,.asl 1 (F.length+(k+1))),(8,vI i),(9,vI k)] [aR 1 1 ((Y++[C[i]::R[k]]).map vIs)] ?_ ?_
     ·refine .of (U1 1) [53268] rfl (by first | rfl | (rw[hst];rfl)) ?_ ?_
      all_goals (try simp only[tL,simprocAttr,By,List.map_cons,List.map_nil,BW,Cy,By,List.map_cons,List.map_nil])
      all_goals (try (repeat' (first | exact qZ | (apply zk;intro _;exact⟨rfl,rfl⟩) | (apply qH;intro _;exact⟨rfl,rfl⟩) | with_reducible apply qV | with_reducible refine qW ⟨rfl,rfl⟩ ?_ | exact zd | with_reducible apply qR | with_reducible refine qY ⟨rfl,rfl,?_⟩ ?_ | with_reducible apply Az | exact qS rfl | exact qS (by assumption) | (refine⟨⟨?_,rfl,?_,rfl,?_⟩,trivial⟩ <;> first | (simp;done) | (apply qH;intro _;exact⟨rfl,rfl⟩)) | trivial | rfl | (rw[qh oM]) | omega)))
      show ltCs _ _ _ [T.asl 53268 (1+R[k].length)] [vIs (C[i]::R[k])];simp only[tL,simprocAttr];exact⟨by first | omega | (simp;omega),rfl,qW ⟨rfl,rfl⟩ (by apply qH;intro _;exact⟨rfl,rfl⟩)⟩
     simp only[tZ,↓uU,simprocAttr,hwk];refine⟨k+1,oM,oM,?_⟩;rw[hs2];exact .oA (U1 1) []
    ·have hkl2:k=R.length:=by omega
     subst hkl2;rw[Bw];simp only[tZ,↓uU,simprocAttr,hwi];refine⟨i+1,oM,oM,?_⟩;rw[hsn,AW,hgl];have e:g C[i]=R.map fun y=>C[i]::y:=by rw[hg]
     rw[e];exact .oA (U1 1) []
   ·have hil:i=C.length:=by omega
    subst hil;rw[Bw];exact .oA [] [1]
theorem yH (p:TCl→Bool) (f:FuncId) (caps:List T) (hcap:imL caps=true) (l:List TCl) (hf:∀ y∈l,Sp f (tclT y::caps) [] (vB (p y)) []) (hl:l.length<4611686018427387904) :
 Sp 107 [.sl 7 (l.map tclT),.clo f caps] [] (vI (idxI p l)) []:=by
 refine sIr yd fun e _ hst=>?_;unfold zK;refine sW ?_;refine qk mixm (α:=Nat) [8] (fun i=>i≤l.length∧((l.take i).any p=false)) (fun i=>[(8,vI i)]) (fun i=>[]) (fun i=>l.length-i) 0 ⟨oM,?_⟩ ?_ fun i hi=>?_
 ·simp
 ·exact .oA [] []
 simp only[tZ,↓uU,simprocAttr,AZ,Ay];refine⟨fun h=>?_,fun h=>?_⟩
 ·have hi2:i<l.length:=by omega
  have hwi:=qh (i:=i) oM;simp only[tZ,↓uU,simprocAttr,Ax,qd hi2,hwi,Kz];refine⟨oM,?_⟩;refine C1.im (hf l[i] (AX hi2)) (KC rfl hcap) rfl ?_;refine sW ?_;refine⟨fun h3=>?_,fun h3=>⟨i+1,⟨oM,zG hi2 hi.2 h3⟩,oM,?_⟩⟩
  ·rw[idxI,Aj (qn1 hi2 h3),jt hi2 hi.2 h3];exact .imR rfl rfl
  ·exact .oA [] []
 ·have h2:i=l.length:=by omega
  have h3:=hi.2;rw[h2,Bw] at h3;rw[idxI,Aq (by rw[h3];simp)];exact .imR rfl rfl
theorem qE7 (t:Tbl) (codes:List Int) (hn:t.cells.length<4611686018427387904) (hl:∀ c∈t.cells,c.codes.length<4611686018427387904):Sp 56 [tblT t,vIs codes] [] (vI (fndC t.cells codes)) []:=by
 have sI:=yH (fun c=>ZH c.codes codes) 108 [.ip [vIs codes]] rfl t.cells (fun c hc=>ql4 c codes (hl c hc)) hn;refine sIr qo8 fun e _ hst=>?_;unfold wZ;refine sW ?_;refine C1.lend [4100] sI ?_ rF rF ?_
 ·all_goals (try simp only[tL,simprocAttr,By,List.map_cons,List.map_nil,BW,Cy])
  all_goals (try (repeat' (first | exact qZ | (apply zk;intro _;exact⟨rfl,rfl⟩) | (apply qH;intro _;exact⟨rfl,rfl⟩) | with_reducible apply qV | with_reducible refine qW ⟨rfl,rfl⟩ ?_ | exact zd | with_reducible apply qR | with_reducible refine qY ⟨rfl,rfl,?_⟩ ?_ | with_reducible apply Az | exact qS rfl | exact qS (by assumption) | (refine⟨⟨?_,rfl,?_,rfl,?_⟩,trivial⟩ <;> first | (simp;done) | (apply qH;intro _;exact⟨rfl,rfl⟩)) | trivial | rfl | (rw[qh oM]) | omega)))
  simp only[ltP];exact⟨rfl,by decide,rfl,qW ⟨rfl,rfl⟩ zd⟩
 refine sW ?_;have e:idxI (fun c:TCl=>ZH c.codes codes) t.cells=fndC t.cells codes:=rfl;rw[e];exact .oA [] []
abbrev linT (y:Lin):T:=.agg [vI y.1,vI 0,vIs y.2]
def inP (codes:List Int) (y:Lin) (n:Nat):Bool:=(List.range n).all fun k=>(codes.getD k 0 == -1)||(codes.getD k 0==y.2.getD k 0)
theorem jB4 (codes:List Int) (y:Lin) (n:Nat):inP codes y (n+1)=(inP codes y n&&((codes.getD n 0 == -1)||(codes.getD n 0==y.2.getD n 0))):=by
 unfold inP;rw[List.range_succ,FK];simp
theorem zu2 (ls:List Lin) (codes:List Int) (hn:ls.length<1000000) (hc:codes.length<1000000) (hl:∀ y∈ls,y.2.length=codes.length):Sp 36 [.sl 3 (ls.map linT),vIs codes] [] (tclT (tclF ls codes)) []:=by
 refine zU [4] qX2 mixm sMp fun e _ hst=>kL ?_;unfold Jl;simp only[wV,List.contains_cons,List.contains_nil,Nat.reduceBEq,Bool.or_false,Bool.or_true,Bool.true_or,Bool.false_or,cond_true,cond_false];refine sW ?_;refine qk mixm (α:=Nat) [6] (fun i=>i≤ls.length) (fun i=>[(6,vI i)]) (fun i=>[aR 4096 7 [tclT ⟨[],0,0,0,0,0,[]⟩],aR 8200 7 [.agg [vIs codes,vI (((ls.take i).filter (inC codes)).length:Nat),vI 0,vI 0,vI 0,vI 0,.asl 1 (((ls.take i).filter (inC codes)).length)]],aR 1 1 ((((ls.take i).filter (inC codes)).map fun y=>y.1).map vI)]) (fun i=>ls.length-i) 0 oM ?_ fun i hi=>?_
 ·exact .oA [uI 4096,uI 8200,(1,none)] []
 have hfl:((ls.take i).filter (inC codes)).length≤i:=FZ (Fx _ _) (by rw[Cz];omega);have hml:(((ls.take i).filter (inC codes)).map fun y=>y.1).length=((ls.take i).filter (inC codes)).length:=BY _;refine sD ?_;refine⟨fun h2=>?_,fun h2=>?_⟩
 ·have hi2:i<ls.length:=by omega
  have hwi:=qh (i:=i) oM;have hsp:(ls.take (i+1)).filter (inC codes)=(ls.take i).filter (inC codes)++if inC codes ls[i]=true then [ls[i]] else []:=by
   rw[qz hi2,FY]
   congr 1
   by_cases h:inC codes ls[i]=true
   ·rw[Aj h,List.filter_cons,Aj h];rfl
   ·rw[Aq h,List.filter_cons,Aq h];rfl
  have hyl:=hl _ (AX hi2);have hin:inC codes ls[i]=inP codes ls[i] codes.length:=rfl;generalize (ls.take i).filter (inC codes)=F at hfl hml hsp;refine qk mixm (α:=Nat) [7,8] (fun k=>k≤codes.length) (fun k=>[(7,vB (inP codes ls[i] k)),(8,vI k)]) (fun k=>[aR 4096 7 [tclT ⟨[],0,0,0,0,0,[]⟩],aR 8200 7 [.agg [vIs codes,vI (F.length:Nat),vI 0,vI 0,vI 0,vI 0,.asl 1 F.length]],aR 1 1 ((F.map fun y=>y.1).map vI)]) (fun k=>codes.length-k) 0 oM ?_ fun k hk=>?_
  ·show Le _ _ ⟨_,_⟩;exact .oA (U3 4096 8200 1) []
  refine sD ?_;refine⟨fun h3=>?_,fun h3=>?_⟩
  ·have hk2:k<codes.length:=by omega
   have hk3:k<ls[i].2.length:=by omega
   have hwk:=qh (i:=k) oM;have hs2:=jB4 codes ls[i] k;rw[qg hk2,qg hk3] at hs2;generalize inP codes ls[i] k=b at hs2;simp only[tZ,↓uU,simprocAttr,Ax,qd hk2,qd hi2,qd hk3,hwk];refine⟨fun _=>by omega,fun _=>by omega,fun _=>by omega,fun _=>by omega,kR,k+1,oM,oM,?_⟩;rw[hs2];exact .oA (U3 4096 8200 1) []
  ·have hkl:k=codes.length:=by omega
   subst hkl;rw[← hin];simp only[tZ,↓uU,simprocAttr,Ax,qd hi2];refine⟨fun h4=>?_,fun h4=>?_⟩
   ·rw[h4,Aq sMp,CW] at hsp;refine W_le [(0,.sl 3 (ls.map linT)),(1,vIs codes),(4,.ptr 4096 1 0 0),(5,.ptr 8200 1 0 0),(6,vI i)] [aR 4096 7 [tclT ⟨[],0,0,0,0,0,[]⟩],aR 8200 7 [.agg [vIs codes,vI (F.length:Nat),vI 0,vI 0,vI 0,vI 0,.asl 1 F.length]],aR 1 1 ((F.map fun y=>y.1).map vI)] ?_ ?_
    ·exact .oA (U3 4096 8200 1) []
    simp only[tZ,↓uU,simprocAttr,hwi];refine⟨i+1,oM,oM,?_⟩;rw[hsp];exact .oA (U3 4096 8200 1) []
   ·rw[Bz] at h4;rw[h4,Aj rfl] at hsp;refine⟨oM,oM,kR,oM,kR,oM,oM,kR,?_⟩;have m1:maxI 0 (IntKind.i64.wrap 0)=0:=by decide
    have m2:IntKind.i64.wrap 0=0:=by decide
    have m3:IntKind.i64.wrap (0+0)=0:=by decide
    have m4:maxI 0 0=0:=by decide
    have m5:=qh (i:=F.length) oM;simp only[m1,m2,m3,m4,m5];refine⟨fun h=>absurd h (by decide),fun _=>?_⟩;refine W_le [(0,.sl 3 (ls.map linT)),(1,vIs codes),(4,.ptr 4096 1 0 0),(5,.ptr 8200 1 0 0),(6,vI i)] [aR 4096 7 [tclT ⟨[],0,0,0,0,0,[]⟩],aR 8200 7 [.agg [vIs codes,vI ((F++[ls[i]]).length:Nat),vI 0,vI 0,vI 0,vI 0,.asl 1 (F++[ls[i]]).length]],aR 1 1 (((F++[ls[i]]).map fun y=>y.1).map vI)] ?_ ?_
    ·rw[AW,By];exact .oA (U3 4096 8200 1) []
    simp only[tZ,↓uU,simprocAttr,hwi];refine⟨i+1,oM,oM,?_⟩;rw[hsp];exact .oA (U3 4096 8200 1) []
 ·have hil:i=ls.length:=by omega
  subst hil;rw[Bw] at hml ⊢
  have e:tclF ls codes=⟨codes,((ls.filter (inC codes)).length:Int),0,0,0,0,(ls.filter (inC codes)).map fun y=>y.1⟩:=rfl;rw[e];refine .of [] [1] rfl (by first | rfl | (rw[hst];rfl)) ?_ ?_
  all_goals (try simp only[tL,simprocAttr,By,List.map_cons,List.map_nil,BW,Cy,hml])
  all_goals (try (exact clA))
abbrev exT (c:Cnd) (ds:List Pk):T:=.agg [vI 10,vI 0,vS ⟨#[]⟩,vI (-1),.v (.slice none 0 0),vPs ds,vI c.op,vI c.col,vI c.code,vI c.lo,vI c.hi,vCs c.kids,vI 0,vI 0,vI 0,vI 0,vI 0,.v (.slice none 0 0),.v (.slice none 0 0)]
theorem zu3 (c:Cnd):Sp 166 [cnT c] [] (vB (qk0 c cnd0)) []:=by
 have h:=qn8 c cnd0 fun h=>.mk c (by rw[h];decide) (by rw[Dy.1 (show c.kids.length=0 from h)];simp);refine sIr za8 fun e _ hst=>?_;unfold JJ;refine sW ?_;refine C1.shut [] h ?_ rF rfl ?_
 ·all_goals (try exact clA)
 refine sW ?_;exact .oA [] []
theorem zC7 (c:Cnd) (ds:List Pk):Sp 140 [exT c ds] [] (vB true) []:=by
 have sZ:=zu3 cnd0;rw[show qk0 cnd0 cnd0=true by kernel_rfl] at sZ;refine sIr zo9 fun e _ hst=>?_;unfold KR;refine sW ?_;refine⟨kR,?_⟩;refine C2.no (fun h=>h) ?_;simp only[tZ,↓uU,simprocAttr,qv1,YZ,QN,not_false_eq_true,true_and];refine C2.one trivial (C1.shut [] sZ ?_ rF rfl ?_)
 ·all_goals (try exact clA)
 refine sW ?_
 repeat (first | refine⟨oM,?_⟩ | refine⟨kR,?_⟩)
 exact .oA [] []
def addP (s:Sch) (l:List Pk) (c:Cnd):List Pk:=(zD s c).foldl (fun l p=>jA l p.col p.lev) l
theorem zf0 (s:Sch) (hs:jO s) (hL:0<s.lists.length) (c:Cnd) (ds:List Pk):Sp 81 [schT s,exT c ds] [] (vB ((schE s==0)&&(yB s ds==0)&&(chkC s c==0))) []:=by
 have sC:=zt s hs;have sO:=zC7 c ds;have sI:=Wu s (-1) 3;rw[show isB s (-1) 3=false by
  cases e:isB s (-1) 3 with
  | false=>rfl
  | true=>have:=zz.1 e;omega] at sI
 have sD2:=qn9 s hs ds;have sK:=jr s hs hL c;by_cases hE:schE s=0
 rotate_left
 ·rw[show (schE s==0)=false from Ak.2 hE,Bool.false_and,Bool.false_and];have q1:(schE s != 0)=true:=Bj.2 hE;refine sIr WW fun e _ hst=>?_;unfold wF;refine sW ?_;refine C1.im sC rF rF ?_;simp only[tZ,↓uU,simprocAttr,q1];refine C2.no (fun h=>h) ?_;simp only[tZ,↓uU,simprocAttr,q1,qv1,YZ,QN,not_false_eq_true,true_and];exact .oA [] []
 rw[hE] at sC;rw[show (schE s==0)=true from AY.2 hE,Fq];refine sIr WW fun e _ hst=>?_;unfold wF;refine sW ?_;refine C1.im sC rF rF ?_;simp only[tZ,↓uU,simprocAttr,bne_self_eq_false];refine C2.one trivial (C1.im sO rF rF ?_);refine sW ?_;refine qk mixm (α:=Nat) [6] (fun i=>i=0) (fun i=>[(6,vI i)]) (fun i=>[aR 4096 2 [schT s],aR 4100 19 [exT c ds]]) (fun _=>0) 0 rfl ?_ fun i hi=>?_
 ·exact .oA (U2 4096 4100) []
 subst hi;refine sW ?_;refine⟨fun h2=>absurd h2 sMp,fun _=>?_⟩;refine C1.im sI rF rF ?_;refine sW ?_;refine C1.im sD2 rF rF ?_;simp only[tZ,↓uU,simprocAttr,Bj,Aw];refine⟨fun h=>?_,fun h=>?_⟩
 ·rw[show (yB s ds==0)=false from Ak.2 h,Bool.false_and];exact .oA [] []
 rw[show (yB s ds==0)=true from AY.2 h,Fq];refine C2.one trivial (C1.im sK rF rF ?_);refine sW ?_
 repeat (first | refine⟨oM,?_⟩ | refine⟨kR,?_⟩)
 exact .oA [] []
theorem qE8 (s:Sch) (hs:jO s) (hL:0<s.lists.length) (l:List Pk) (c:Cnd) (hl:l.length<1000000):Sp 82 [schT s,vPs l,cnT c] [] (vPs (addP s l c)) []:=by
 have sN:=yD s hs hL c;have hn:=wK s c;unfold addP;have hr:∀ i,i≤(zD s c).length→(((zD s c).take i).foldl (fun l p=>jA l p.col p.lev) l).length≤l.length+i:=fun i hi=>by
  induction i with
  | zero=>simp
  | succ i ih=>
    have h1:=ih oM;have hi2:i<(zD s c).length:=by omega
    rw[qz hi2,Gx];have:=wJ (((zD s c).take i).foldl (fun l p=>jA l p.col p.lev) l) (zD s c)[i].col (zD s c)[i].lev;simp only[Dw,List.foldl_nil];omega
 generalize zD s c=N at sN hn hr;refine sIr zo5 fun e _ hst=>?_;unfold KL;refine sW ?_;refine C1.im sN rF rF ?_;refine sW ?_;refine qk mixm (α:=Nat) [1,8] (fun i=>i≤N.length) (fun i=>[(1,vPs ((N.take i).foldl (fun l p=>jA l p.col p.lev) l)),(8,vI i)]) (fun i=>[]) (fun i=>N.length-i) 0 oM ?_ fun i hi=>?_
 ·exact .oA [] []
 have hri:=hr i hi;refine sD ?_;refine⟨fun h2=>?_,fun h2=>?_⟩
 ·have hi2:i<N.length:=by omega
  have hwi:=qh (i:=i) oM;have sR:=jP ((N.take i).foldl (fun l p=>jA l p.col p.lev) l) N[i].col N[i].lev oM;simp only[tZ,↓uU,simprocAttr,Ax,qd hi2];refine⟨oM,oM,?_⟩;refine C1.im sR rF rF ?_;simp only[tZ,↓uU,simprocAttr,hwi];refine⟨kR,i+1,oM,oM,?_⟩;rw[qz hi2,Gx];exact .oA [] []
 ·have hil:i=N.length:=by omega
  subst hil;rw[Bw];exact .oA [] []
def We (s:Sch) (c:Cnd) (ds:List Pk):List Pk:=if schE s≠0∨yB s ds≠0∨chkC s c≠0 then [] else ds.foldl (fun l p=>jA l p.col (zR s p.col p.lev)) (addP s (addP s [] c) cnd0)
theorem zf1 (s:Sch) (hs:jO s) (hL:0<s.lists.length) (c:Cnd) (ds:List Pk) (hdl:ds.length<1000):Sp 30 [schT s,exT c ds] [] (vPs (We s c ds)) []:=by
 have sR:=zf0 s hs hL c ds;have hA:∀ (l:List Pk) (c:Cnd),(addP s l c).length≤l.length+40:=fun l c=>by
  have hn:=wK s c;have:∀ (N l:List Pk),(N.foldl (fun l p=>jA l p.col p.lev) l).length≤l.length+N.length:=by
   intro N
   induction N with
   | nil=>intro l;simp
   | cons p r ih=>
     intro l;have h1:=ih (jA l p.col p.lev);have h2:=wJ l p.col p.lev;rw[Dw,CJ];omega
  have:=this (zD s c) l;unfold addP;omega
 have sA1:=qE8 s hs hL [] c (by decide);have hA1:=hA [] c;have sA2:=qE8 s hs hL (addP s [] c) cnd0 (by simp at hA1;omega);have hA2:=hA (addP s [] c) cnd0;by_cases h0:schE s≠0∨yB s ds≠0∨chkC s c≠0
 ·rw[show ((schE s==0)&&(yB s ds==0)&&(chkC s c==0))=false by
   rw[FJ,FJ,Ak,Ak,Ak];rcases h0 with h | h | h
   ·exact .inl (.inl h)
   ·exact .inl (.inr h)
   ·exact .inr h] at sR
  unfold We;rw[Aj h0];refine sIr WU fun e _ hst=>?_;unfold wD;refine sW ?_;refine C1.im sR rF rF ?_;refine sW ?_;exact .oA [] []
 have e0:schE s=0∧yB s ds=0∧chkC s c=0:=by
  refine⟨?_,?_,?_⟩ <;> exact AQ fun k=>h0 (by simp [k])
 rw[e0.1,e0.2.1,e0.2.2] at sR;unfold We;rw[Aq h0];generalize addP s (addP s [] c) cnd0=A at sA2 hA2;generalize addP s [] c=B at sA1 sA2 hA1 hA2;have hX:∀ i,i≤ds.length→((ds.take i).foldl (fun l p=>jA l p.col (zR s p.col p.lev)) A).length≤A.length+i:=fun i hi=>by
  induction i with
  | zero=>simp
  | succ i ih=>
    have h1:=ih oM;have hi2:i<ds.length:=by omega
    rw[qz hi2,Gx];have:=wJ ((ds.take i).foldl (fun l p=>jA l p.col (zR s p.col p.lev)) A) ds[i].col (zR s ds[i].col ds[i].lev);simp only[Dw,List.foldl_nil];omega
 refine sIr WU fun e _ hst=>?_;unfold wD;refine sW ?_;refine C1.im sR rF rF ?_;refine sW ?_;refine C1.shut [] sA1 ?_ rF rfl ?_
 ·all_goals (try exact clA)
 refine sW ?_;refine C1.shut [] sA2 ?_ rF rfl ?_
 ·all_goals (try exact clA)
 refine sW ?_
 repeat (refine⟨kR,?_⟩)
 refine qk mixm (α:=Nat) [5,6] (fun i=>i≤ds.length) (fun i=>[(5,vPs ((ds.take i).foldl (fun l p=>jA l p.col (zR s p.col p.lev)) A)),(6,vI i)]) (fun i=>[aR 4096 2 [schT s],aR 4100 19 [exT c ds]]) (fun i=>ds.length-i) 0 oM ?_ fun i hi=>?_
 ·exact .oA (U2 4096 4100) []
 have hri:=hX i hi;refine sD ?_;refine⟨fun h2=>?_,fun h2=>?_⟩
 ·have hi2:i<ds.length:=by omega
  have hwi:=qh (i:=i) oM;have sL:=JP s hs ds[i].col ds[i].lev;have sX:=jP ((ds.take i).foldl (fun l p=>jA l p.col (zR s p.col p.lev)) A) ds[i].col (zR s ds[i].col ds[i].lev) (by simp at hA1;omega);simp only[tZ,↓uU,simprocAttr,Ax,qd hi2];refine⟨oM,oM,oM,?_⟩;refine C1.im sL rF rF ?_;refine sW ?_;refine C1.im sX rF rF ?_;simp only[tZ,↓uU,simprocAttr,hwi];refine⟨kR,i+1,oM,oM,?_⟩;rw[qz hi2,Gx];exact .oA (U2 4096 4100) []
 ·have hil:i=ds.length:=by omega
  subst hil;rw[Bw];refine qk mixm (α:=Nat) [7] (fun i=>i=0) (fun i=>[(7,vI i)]) (fun i=>[aR 4096 2 [schT s],aR 4100 19 [exT c ds]]) (fun _=>0) 0 rfl ?_ fun j hj=>?_
  ·exact .oA (U2 4096 4100) []
  subst hj;refine sW ?_;refine⟨fun h2=>absurd h2 sMp,fun _=>?_⟩;refine qk mixm (α:=Nat) [8] (fun i=>i=0) (fun i=>[(8,vI i)]) (fun i=>[aR 4096 2 [schT s],aR 4100 19 [exT c ds]]) (fun _=>0) 0 rfl ?_ fun j hj=>?_
  ·exact .oA (U2 4096 4100) []
  subst hj;refine sW ?_;refine⟨fun h2=>absurd h2 sMp,fun _=>?_⟩;exact .oA [] []
set_option maxHeartbeats 16000000
theorem jp9 {s:Sch} {l:List Pk} (h:yB s l=0):qf4 s l=true∧1≤l.length∧l.length≤3:=by
 unfold yB at h;split at h
 ·cases h
 rename_i h1;refine⟨Bk.2 fun i hi=>?_,oM,oM⟩;have hi2:=Dk.1 hi;have h2:=yK h i hi2;unfold dimE at h2;rw[show pkAt l i=l[i] from qg hi2] at h2;split at h2
 ·rename_i h3;exact absurd h2 h3
 rename_i h3;split at h2
 ·cases h2
 rename_i h4;split at h2
 ·cases h2
 rename_i h5;have h4:isB s l[i].col 2=true:=by simpa using h4
 obtain⟨_,_,h6⟩:=zz.1 h4;rw[qk8,qg hi2];simp only[Bq,AY];refine⟨⟨AQ h3,h6⟩,?_⟩;rw[Bool.not_eq_true,List.any_eq_false] at h5;rw[Bk];intro x hx;have:=h5 x hx;simpa using this
theorem jB5 (s:Sch) {l:List Pk} {i:Nat} (h:i<l.length):szD s (l.take (i+1))=szD s (l.take i)*((atL (qQ s l[i].col.toNat) l[i].lev).length+1):=by
 unfold szD;rw[qz h,By,Gx]
 rfl
theorem jJ5 {s:Sch} (hok:SchOk s):∀ l:List Pk,(∀ d∈l,CdC s d.col)→szD s l≤61 ^ l.length
 | [],_=>BZ 1
 | d::r,h=>by
   have ih:=jJ5 hok r fun x hx=>h x (CQ _ hx);have hc:=h d sMp;have hr:=hc.rng;obtain⟨_,d2⟩:=hok.cdl (i:=d.col.toNat) oM hc.kind;obtain⟨_,_,d6⟩:=ze d2;have h2:=zA6 (qQ s d.col.toNat) d.lev;unfold szD at ih ⊢
   rw[List.map_cons,Dw,qf9 _ (1*_),Nat.one_mul,CJ,Nat.pow_succ,Nat.mul_comm];exact Nat.mul_le_mul ih oM
def cntF (ev:Nat→Int) (n:Nat):List Int:=List.map (fun i:Nat=>(i:Int)) ((List.range n).filter fun i=>ev i==1)
theorem jq0 (ev:Nat→Int) (n:Nat):cntF ev (n+1)=cntF ev n++(if ev n=1 then [(n:Int)] else []):=by
 unfold cntF;rw[List.range_succ,FY,By]
 congr 1
 by_cases h:ev n=1
 ·rw[Aj h,List.filter_cons,Aj (AY.2 h)];rfl
 ·rw[Aq h,List.filter_cons,Aq (by rw[AY];exact h)];rfl
theorem jB6 (ev:Nat→Int) (n:Nat):(cntF ev n).length≤n:=by
 unfold cntF;rw[BY];exact FZ (Fx _ _) sMp
theorem qO6 (s:Sch) (hs:jO s) (x:Ext) (hp:x.picks.length<1000000) (hr:∀ r∈x.rows,0<r.length∧r.length<1000000) (hn:x.rows.length<1000000) (hx:extE s x=0) (c:Cnd) (ev:Nat→Int) (hev:∀ i (h:i<x.rows.length),Sp 89 [schT s,cnT c,vPs x.picks,vIs (x.rows[i].drop 1)] [] (vI (ev i)) []):Sp 32 [schT s,extT x,cnT c,vIs []] [] (vIs (cntF ev x.rows.length)) []:=by
 have sC:=qg1 s hs x oM (fun r h=>by have:=hr r h;omega);rw[hx] at sC;refine sIr qx2 fun e _ hst=>?_;unfold yS;refine sW ?_;refine C1.im sC rF rF ?_;simp only[tZ,↓uU,simprocAttr,Bj,Aw];refine qk mixm (α:=Nat) [9,10] (fun i=>i≤x.rows.length) (fun i=>[(9,.asl 1 (cntF ev i).length),(10,vI i)]) (fun i=>[aR 4096 2 [schT s],aR 4100 4 [extT x],aR 4104 6 [cnT c],aR 1 1 ((cntF ev i).map vI)]) (fun i=>x.rows.length-i) 0 oM ?_ fun i hi=>?_
 ·show Le _ _ ⟨_,[aR 4096 2 [schT s],aR 4100 4 [extT x],aR 4104 6 [cnT c],aR 1 1 []]⟩;exact .oA [uI 4096,uI 4100,uI 4104,(1,none)] []
 have hfl:=jB6 ev i;refine sD ?_;refine⟨fun h2=>?_,fun h2=>?_⟩
 ·have hi2:i<x.rows.length:=by omega
  have hwi:=qh (i:=i) oM;have hri:=hr _ (AX hi2);have hsu:=jq0 ev i;have sE:=hev i hi2;simp only[tZ,↓uU,simprocAttr,Ax,qd hi2];refine⟨oM,oM,?_⟩;rw[QO,show (1:Int)=((1:Nat):Int) from rfl,qW2];refine C1.im sE rF rF ?_;refine sW ?_;refine⟨kR,?_⟩;refine qk mixm (α:=Nat) [11,12] (fun k=>k=0) (fun k=>[(11,vB (ev i==1)),(12,vI k)]) (fun k=>[aR 4096 2 [schT s],aR 4100 4 [extT x],aR 4104 6 [cnT c],aR 1 1 ((cntF ev i).map vI)]) (fun k=>0) 0 rfl ?_ fun k hk=>?_
  ·exact .oA (U4 4096 4100 4104 1) []
  subst hk;refine sW ?_;refine⟨fun h3=>absurd h3 sMp,fun _=>⟨fun h4=>?_,fun h4=>?_⟩⟩
  ·rw[Aj (AY.1 h4)] at hsu;simp only[tZ,↓uU,simprocAttr,hwi];refine⟨oM,i+1,oM,oM,?_⟩;rw[hsu];exact .oA (U4 4096 4100 4104 1) []
  ·rw[Aq (by simpa using h4),CW] at hsu;simp only[tZ,↓uU,simprocAttr,hwi];refine⟨i+1,oM,oM,?_⟩;rw[hsu];exact .oA (U4 4096 4100 4104 1) []
 ·have hil:i=x.rows.length:=by omega
  subst hil;exact .oA [] [1]
theorem qE9 (f:Pk→Int):∀ (N l:List Pk),(N.foldl (fun l p=>jA l p.col (f p)) l).length≤l.length+N.length
 | [],l=>BZ _
 | p::r,l=>by
   have h1:=qE9 f r (jA l p.col (f p));have h2:=wJ l p.col (f p);rw[Dw,CJ];omega
theorem jq1 (s:Sch) (c:Cnd) (ds:List Pk):(We s c ds).length≤80+ds.length:=by
 have hA:∀ (l:List Pk) (c:Cnd),(addP s l c).length≤l.length+40:=fun l c=>by
  have hn:=wK s c;have:=qE9 (fun p=>p.lev) (zD s c) l;unfold addP;omega
 unfold We;split
 ·simp
 ·have h1:=qE9 (fun p=>zR s p.col p.lev) ds (addP s (addP s [] c) cnd0);have h2:=hA (addP s [] c) cnd0;have h3:=hA [] c;simp only[Cw] at h3;omega
def zC8 (s:Sch) (x:Ext) (dims:List Pk) (c:Cnd) (ev:Nat→Int):Tbl:=if ze5 s x dims (qT c dims) (We s c dims)≠0 then ⟨[],0,[]⟩ else ⟨dims,-1,Kd s x dims ev⟩
theorem zu4 (s:Sch) (hs:jO s) (hL:0<s.lists.length) (x:Ext) (hp:x.picks.length<1000) (hr:∀ r∈x.rows,r.length=x.picks.length+1) (hn:x.rows.length<1000000) (dims:List Pk) (hdl:dims.length<1000) (c:Cnd) (ev:Nat→Int) (hev:extE s x=0→qstE s (qT c dims)=0→covB (We s c dims) x.picks=true→∀ i (h:i<x.rows.length),Sp 89 [schT s,cnT c,vPs x.picks,vIs (x.rows[i].drop 1)] [] (vI (ev i)) []) :
 Sp 7 [schT s,extT x,vPs dims,vI (-1),cnT c] [] (.tup [tblT (zC8 s x dims c ev),vI (ze5 s x dims (qT c dims) (We s c dims))]) []:=by
 have sC:=qg1 s hs x oM (fun r h=>by have:=hr r h;omega);have sQ:=kf s hs hL (qT c dims);have sN:=zf1 s hs hL c dims hdl;have hnl:=jq1 s c dims;have sV:=ZI (We s c dims) x.picks oM oM;have hE:ze5 s x dims (qT c dims) (We s c dims)=if extE s x≠0 then extE s x else if qstE s (qT c dims)≠0 then qstE s (qT c dims) else if covB (We s c dims) x.picks=false then 23 else if szD s dims>2000 then 1 else 0:=rfl
 have hR:zC8 s x dims c ev=if ze5 s x dims (qT c dims) (We s c dims)≠0 then ⟨[],0,[]⟩ else ⟨dims,-1,Kd s x dims ev⟩:=rfl
 generalize ze5 s x dims (qT c dims) (We s c dims)=E at hE hR ⊢
 generalize zC8 s x dims c ev=Z at hR ⊢
 generalize We s c dims=N at sN sV hE hev;have hbad:∀ v,v≠0→E=v→Z=⟨[],0,[]⟩∧E=v:=fun v h1 h2=>⟨by rw[hR,h2,Aj h1],h2⟩;refine zU [31,34] qW8 mixm sMp fun e _ hst=>kL ?_;unfold Jj;simp only[wV,List.contains_cons,List.contains_nil,Nat.reduceBEq,Bool.or_false,Bool.or_true,Bool.true_or,Bool.false_or,cond_true,cond_false];refine sW ?_;refine C1.im sC rF rF ?_;simp only[tZ,↓uU,simprocAttr,Bj,Aw];refine⟨fun h1=>?_,fun h1=>?_⟩
 ·obtain⟨a1,a2⟩:=hbad _ h1 (by rw[hE,Aj h1]);rw[a1,a2];exact .oA [] []
 rw[Aq (by rw[h1];simp)] at hE;refine C1.shut [] sQ ?_ rF rfl ?_
 ·all_goals (try exact clA)
 simp only[tZ,↓uU,simprocAttr,Bj,Aw];refine⟨fun h2=>?_,fun h2=>?_⟩
 ·obtain⟨a1,a2⟩:=hbad _ h2 (by rw[hE,Aj h2]);rw[a1,a2];exact .oA [] []
 rw[Aq (by rw[h2];simp)] at hE;refine C1.im sN rF rF ?_;refine sW ?_;refine C1.im sV rF rF ?_;simp only[tZ,↓uU,simprocAttr,Bx,Bz];refine⟨kR,fun h3=>?_,fun h3=>?_⟩
 ·obtain⟨a1,a2⟩:=hbad 23 (by decide) (by rw[hE,Aj h3]);rw[a1,a2];exact .oA [] []
 rw[Aq (by rw[h3];simp)] at hE;have hev:=hev h1 h2 h3;have hq:=qk3 h2;have hdE:yB s dims=0:=(hq.dims rfl).1;obtain⟨hB,hd1,hd3⟩:=jp9 hdE;have hD:=ze6 hB;have hsE:=hq.sch;have hok:=qU hsE;have hCd:∀ d∈dims,CdC s d.col:=fun d hd=>by
  obtain⟨i,hi,rfl⟩:=CX hd;exact hD.cd hi
 have hsz:∀ i,szD s (dims.take i)≤226981:=fun i=>by
  have e1:=jJ5 hok (dims.take i) fun d hd=>hCd d (EX hd);have e2:61 ^ (dims.take i).length≤61 ^ 3:=Nat.pow_le_pow_right (by decide) (by rw[Cz];omega);have e3:(61:Nat) ^ 3=226981:=by decide
  omega
 refine qk mixm (α:=Nat) [14,15] (fun i=>i≤dims.length) (fun i=>[(14,vI (szD s (dims.take i):Nat)),(15,vI i)]) (fun i=>[aR 4096 2 [schT s],aR 4100 4 [extT x],aR 4104 6 [cnT c],aR 4108 3 [tblT ⟨[],0,[]⟩]]) (fun i=>dims.length-i) 0 oM ?_ fun i hi=>?_
 ·exact .oA (U4 4096 4100 4104 4108) []
 refine sD ?_;refine⟨fun h4=>?_,fun h4=>?_⟩
 ·have hi2:i<dims.length:=by omega
  have hwi:=qh (i:=i) oM;have hcd:=hCd _ (AX hi2);have hsn:=jB5 s hi2;have hsi:=hsz (i+1);rw[hsn] at hsi;have hrg:=hcd.rng;have hkd:=hcd.kind;obtain⟨cn,hcn⟩:=AJ hrg.1;rw[hcn,Ax] at hkd hsi hsn;have hi3:cn<s.cols.length:=by omega
  have hat:qj s cn=s.cols[cn]:=by rw[qj,qg hi3]
  obtain⟨d1,d2⟩:=hok.cdl hi3 hkd;obtain⟨d3,d4⟩:=(zi (hok.cs cn hi3)).2.2.2.1 hkd;have hcl:qQ s cn=s.lists.getD s.cols[cn].list.toNat default:=by rw[qQ,hat]
  rw[hat] at d1 d3 d4;have hgl:s.lists.getD s.cols[cn].list.toNat default=s.lists[s.cols[cn].list.toNat]:=qg d1;obtain⟨_,d5,d6⟩:=ze d2;have hA:Sp 31 [cdlT s.lists[s.cols[cn].list.toNat],vI dims[i].lev] [] (vIs (atL (qQ s cn) dims[i].lev)) []:=by
   rw[hcl,hgl];exact Wt _ _ (by rw[hcl,hgl] at d6;omega)
  have hal:=zA6 (qQ s cn) dims[i].lev;generalize atL (qQ s cn) dims[i].lev=A at hA hal hsi hsn;have hwa:IntKind.i64.wrap ((A.length:Int)+1)=((A.length+1:Nat):Int):=qh oM;have hwm:IntKind.i64.wrap ((szD s (dims.take i):Int)*((A.length+1:Nat):Int))=((szD s (dims.take i)*(A.length+1):Nat):Int):=by rw[← Int.natCast_mul];exact AK _ oM
  simp only[tZ,↓uU,simprocAttr,Ax,qd hi2,hcn,qd hi3,qd d1];refine⟨oM,oM,oM,oM,?_⟩;refine C1.im hA rF rF ?_;simp only[tZ,↓uU,simprocAttr,hwa,hwm,hwi];refine⟨kR,i+1,oM,oM,?_⟩;rw[hsn];exact .oA (U4 4096 4100 4104 4108) []
 have hil:i=dims.length:=by omega
 subst hil;rw[Bw];refine⟨fun h5=>?_,fun h5=>?_⟩
 ·obtain⟨a1,a2⟩:=hbad 1 (by decide) (by rw[hE,Aj oM]);rw[a1,a2];exact .oA [] []
 rw[Aq oM] at hE;have hZ:Z=⟨dims,-1,Kd s x dims ev⟩:=by rw[hR,hE,Aq sMp]
 rw[hZ,hE];clear hR hbad hZ hE sC sQ sN sV;have sCt:=qO6 s hs x oM (fun r h=>by have:=hr r h;omega) hn h1 c ev hev;have hcells:Kd s x dims ev=(lstD s dims).map (tclF ((zC4 x ev).map (linD s x dims))):=rfl;rw[hcells];have hcF:cntF ev x.rows.length=(zC4 x ev).map fun i:Nat=>(i:Int):=rfl;rw[hcF] at sCt;have hRm:∀ j (h:j<(zC4 x ev).length),(zC4 x ev)[j]<x.rows.length:=fun j h=>Dk.1 (Fz.1 (AX h)).1;have hRl:(zC4 x ev).length≤x.rows.length:=FZ (Fx _ _) sMp;generalize zC4 x ev=R at sCt hRm hRl ⊢
 refine C1.shut [] sCt ?_ rF rfl ?_
 ·all_goals (try exact clA)
 have sL:=qg2 s hsE dims hCd oM hdl;have hRl2:(R.map fun i:Nat=>(i:Int)).length=R.length:=BY _;simp only[tZ,↓uU,simprocAttr,hRl2];refine qk mixm (α:=Nat) [19,20] (fun i=>i≤R.length) (fun i=>[(19,.asl 1 ((R.take i).map (linD s x dims)).length),(20,vI i)]) (fun i=>[aR 4096 2 [schT s],aR 4100 4 [extT x],aR 4108 3 [tblT ⟨[],0,[]⟩],aR 69644 3 [.agg [vPs dims,vI (-1),.v (.slice none 0 0)]],aR 1 3 (((R.take i).map (linD s x dims)).map linT)]) (fun i=>R.length-i) 0 oM ?_ fun i hi=>?_
 ·show Le _ _ ⟨_,[aR 4096 2 [schT s],aR 4100 4 [extT x],aR 4108 3 [tblT ⟨[],0,[]⟩],aR 69644 3 [.agg [vPs dims,vI (-1),.v (.slice none 0 0)]],aR 1 3 []]⟩;exact .oA [uI 4096,uI 4100,uI 4108,uI 69644,(1,none)] []
 have hRi:((R.take i).map (linD s x dims)).length=i:=by rw[BY,Cz];omega
 refine sD ?_;refine⟨fun h6=>?_,fun h6=>?_⟩
 ·have hi2:i<R.length:=by omega
  have hwi:=qh (i:=i) oM;have hi3:i<(R.map fun i:Nat=>(i:Int)).length:=by omega
  have hgi:(R.map fun i:Nat=>(i:Int))[i]=(R[i]:Int):=Fj ..
  have hri:=hRm i hi2;have hrl:=hr _ (AX hri);have hhd:=kC (r:=x.rows[R[i]]) oM;have hsn:(R.take (i+1)).map (linD s x dims)=(R.take i).map (linD s x dims)++[linD s x dims R[i]]:=by rw[qz hi2,By];rfl
  have hlD:linD s x dims R[i]=(hd x.rows[R[i]],dims.map fun d=>(knwI s x R[i] d.col d.lev).1):=by rw[linD,qg hri]
  have sIn:=fun a b=>ze8 s hs hsE x oM oM hr (R[i]:Nat) a b;generalize (R.take i).map (linD s x dims)=Y at hRi hsn;simp only[tZ,↓uU,simprocAttr,Ax,qd hi3,hgi,qd hri,hhd];refine⟨oM,oM,oM,kR,?_⟩;have hYl:(Y.map linT).length=i:=by rw[BY];exact hRi
  obtain⟨cd,hcd⟩:∃ cd,cd=dims.map fun d=>(knwI s x R[i] d.col d.lev).1:=⟨_,rfl⟩;have hcdl:cd.length=dims.length:=by rw[hcd,BY]
  have hcdg:∀ k (h:k<dims.length),cd[k]'oM=(knwI s x R[i] dims[k].col dims[k].lev).1:=fun k h=>by subst hcd;rw[Fj]
  rw[← hcd] at hlD;clear hcd;refine qk mixm (α:=Nat) [22] (fun k=>k≤dims.length) (fun k=>[(22,vI k)]) (fun k=>[aR 4096 2 [schT s],aR 4100 4 [extT x],aR 4108 3 [tblT ⟨[],0,[]⟩],aR 69644 3 [.agg [vPs dims,vI (-1),.v (.slice none 0 0)]],aR 1 3 (Y.map linT),aR 106540 3 [.agg [vI (hd x.rows[R[i]]),vI 0,.asl 2 k]],aR 2 1 ((cd.take k).map vI)]) (fun k=>dims.length-k) 0 oM ?_ fun k hk=>?_
  ·exact .oA [uI 4096,uI 4100,uI 4108,uI 69644,uI 1,uI 106540,(2,none)] []
  have hck:(cd.take k).length=k:=by rw[Cz];omega
  refine sD ?_;refine⟨fun h7=>?_,fun h7=>?_⟩
  ·have hk2:k<dims.length:=by omega
   have hk3:k<cd.length:=by omega
   have hwk:=qh (i:=k) oM;have hsc:cd.take (k+1)=cd.take k++[cd[k]]:=qz hk3;have sI:=sIn dims[k].col dims[k].lev;rw[Aq oM,Aq oM,Ax,← hcdg k hk2] at sI;generalize (knwI s x R[i] dims[k].col dims[k].lev).2=kb at sI;generalize cd[k]=cv at sI hsc;simp only[tZ,↓uU,simprocAttr,Ax,qd hi3,hgi,qd hk2];refine⟨oM,oM,oM,?_⟩;refine C1.im sI rF rF ?_;refine sW ?_;refine⟨kR,oM,oM,?_⟩;simp only[tZ,↓uU,simprocAttr,hwk];refine⟨k+1,oM,oM,?_⟩;rw[hsc];exact .oA (U7 4096 4100 4108 69644 1 106540 2) []
  ·have hkl:k=dims.length:=by omega
   subst hkl;rw[← hcdl,Bw];refine W_le [(2,vPs dims),(3,vI (-1)),(5,.ptr 4096 1 0 0),(6,.ptr 4100 1 0 0),(10,.ptr 4108 1 0 0),(16,.ptr 69644 1 0 0),(18,vIs (R.map fun i:Nat=>(i:Int))),(19,.asl 1 i),(20,vI i),(21,.ptr 106540 1 0 0)] [aR 4096 2 [schT s],aR 4100 4 [extT x],aR 4108 3 [tblT ⟨[],0,[]⟩],aR 69644 3 [.agg [vPs dims,vI (-1),.v (.slice none 0 0)]],aR 1 3 (Y.map linT),aR 106540 3 [linT (hd x.rows[R[i]],cd)]] ?_ ?_
   ·have hTl:(R.take i).length=i:=by rw[Cz];omega
    rw[hTl];refine .of (U6 4096 4100 4108 69644 1 106540) [2] rfl (by first | rfl | (rw[hst];rfl)) ?_ ?_
    all_goals (try simp only[tL,simprocAttr,By,List.map_cons,List.map_nil,BW,Cy])
    all_goals (try (repeat' (first | exact qZ | (apply zk;intro _;exact⟨rfl,rfl⟩) | (apply qH;intro _;exact⟨rfl,rfl⟩) | with_reducible apply qV | with_reducible refine qW ⟨rfl,rfl⟩ ?_ | exact zd | with_reducible apply qR | with_reducible refine qY ⟨rfl,rfl,?_⟩ ?_ | with_reducible apply Az | exact qS rfl | exact qS (by assumption) | (refine⟨⟨?_,rfl,?_,rfl,?_⟩,trivial⟩ <;> first | (simp;done) | (apply qH;intro _;exact⟨rfl,rfl⟩)) | trivial | rfl | (rw[qh oM]) | omega)))
    show ltCs _ _ _ [vI _,vI 0,T.asl 2 _] [vI _,vI 0,vIs cd];simp only[tL,simprocAttr]
    all_goals (try exact clA)
   refine sD ?_;have hRi3:(R.take (i+1)).length=i+1:=by rw[Cz];omega
   refine⟨oM,i+1,oM,oM,?_⟩;rw[hwi,hsn,hlD,hRi3];exact .oA (U5 4096 4100 4108 69644 1) []
 ·have hil:i=R.length:=by omega
  subst hil;rw[Bw] at hRi ⊢
  obtain⟨ls,hls⟩:∃ ls,ls=R.map (linD s x dims):=⟨_,rfl⟩;have hll:ls.length=R.length:=by rw[hls,BY]
  have hl2:∀ y∈ls,y.2.length=dims.length:=fun y hy=>by
   rw[hls] at hy;obtain⟨j,_,rfl⟩:=Cj.1 hy;exact BY _
  rw[← hls];clear hls;refine W_le [(2,vPs dims),(5,.ptr 4096 1 0 0),(10,.ptr 4108 1 0 0),(16,.ptr 69644 1 0 0),(19,.sl 3 (ls.map linT))] [aR 4096 2 [schT s],aR 4108 3 [tblT ⟨[],0,[]⟩],aR 69644 3 [.agg [vPs dims,vI (-1),.v (.slice none 0 0)]]] ?_ ?_
  ·rw[← hll];exact .oA (U3 4096 4108 69644) [1]
  have hLl:=Wy s dims;have hLi:=ze4 s dims;generalize lstD s dims=L at sL hLl hLi ⊢
  refine sW ?_;refine C1.im sL rF rF ?_;refine sW ?_;refine qk mixm (α:=Nat) [26] (fun i=>i≤L.length) (fun i=>[(26,vI i)]) (fun i=>[aR 4108 3 [tblT ⟨[],0,[]⟩],aR 69644 3 [.agg [vPs dims,vI (-1),.asl 3 i]],aR 3 7 (((L.take i).map (tclF ls)).map tclT)]) (fun i=>L.length-i) 0 oM ?_ fun i hi=>?_
  ·exact .oA [uI 4108,uI 69644,(3,none)] []
  have hLi2:((L.take i).map (tclF ls)).length=i:=by rw[BY,Cz];omega
  refine sD ?_;refine⟨fun h7=>?_,fun h7=>?_⟩
  ·have hi2:i<L.length:=by omega
   have hwi:=qh (i:=i) oM;have hyl:=hLi _ (AX hi2);have sCe:=zu2 ls L[i] oM oM (fun y hy=>by rw[hl2 y hy,hyl]);have hsn:(L.take (i+1)).map (tclF ls)=(L.take i).map (tclF ls)++[tclF ls L[i]]:=by rw[qz hi2,By];rfl
   generalize (L.take i).map (tclF ls)=Y at hLi2 hsn;generalize tclF ls L[i]=cl at sCe hsn;simp only[tZ,↓uU,simprocAttr,Ax,qd hi2];refine⟨oM,?_⟩;refine C1.im sCe rF rF ?_;refine sW ?_;refine⟨oM,oM,kR,?_⟩;simp only[tZ,↓uU,simprocAttr,hwi];refine⟨i+1,oM,oM,?_⟩;rw[hsn];exact .oA (U3 4108 69644 3) []
  ·have hil:i=L.length:=by omega
   subst hil;rw[Bw] at hLi2 ⊢
   have e9:tblT ⟨dims,-1,L.map (tclF ls)⟩ = .agg [vPs dims,vI (-1),.sl 7 ((L.map (tclF ls)).map tclT)]:=rfl;rw[e9];refine⟨oM,?_⟩;refine .of [] [3] rfl (by first | rfl | (rw[hst];rfl)) ?_ ?_
   all_goals (try simp only[tL,simprocAttr,By,List.map_cons,List.map_nil,BW,Cy,hLi2])
   all_goals (try (exact clA))
set_option maxHeartbeats 8000000
open So
def jq2 (s:Sch) (P:List Pk) (a b:List Int):Bool:=P.all fun p=>qw s p.col p.lev (a.getD p.col.toNat 0)==qw s p.col p.lev (b.getD p.col.toNat 0)
structure RowA (x:Src) (d:Dcl) (P:List Pk) (r0 row:List Int):Prop where
 fit:rowE x.sch row=0
 id:hd row=hd r0
 ev:(zb9 x.sch d.coh row==1)=(zb9 x.sch d.coh r0==1)
 al:ownP x d r0=true→jq2 x.sch P row r0=true
theorem RowA.refl {x:Src} {d:Dcl} {P:List Pk} {r:List Int} (h:rowE x.sch r=0):RowA x d P r r:=⟨h,rfl,rfl,fun _=>by
 unfold jq2;rw[Bk];exact fun p _=>beq_self_eq_true _⟩
theorem RowA.own {x:Src} {d:Dcl} {P:List Pk} {r row:List Int} (h:RowA x d P r row):ownP x d row=ownP x d r:=by
 unfold ownP;rw[h.ev,h.id]
theorem RowA.rowX {x:Src} {d:Dcl} {P:List Pk} {r row:List Int} (k:Int) (h:RowA x d P r row) (ho:ownP x d r=true):rowX x P k row=rowX x P k r:=by
 have h1:=h.al ho;unfold jq2 at h1;rw[Bk] at h1;unfold Go.Proofs.rowX;rw[h.id]
 congr 1
 exact Ew fun p hp=>AY.1 (h1 p hp)
structure OthR (x:Src) (d:Dcl) (P:List Pk) (rs ys:List (List Int)):Prop where
 len:ys.length≤rs.length
 asc:AscR ys
 fro:∀ row∈ys,∃ r∈rs,RowA x d P r row
 own:∀ r∈rs,ownP x d r=true→∃ row∈ys,RowA x d P r row
theorem OthR.nil {x:Src} {d:Dcl} {P:List Pk}:OthR x d P [] []:=⟨BZ _,.nil,sMp,sMp⟩
theorem OthR.skip {x:Src} {d:Dcl} {P:List Pk} {rs ys:List (List Int)} (h:OthR x d P rs ys) {r:List Int} (ho:ownP x d r=false):OthR x d P (rs++[r]) ys:=by
 refine⟨by have:=h.len;simp;omega,h.asc,fun row hr=>?_,fun q hq hq2=>?_⟩
 ·obtain⟨q,a,b⟩:=h.fro row hr;exact⟨q,List.mem_append_left _ a,b⟩
 ·rcases Dz.1 hq with a | a
  ·exact h.own q a hq2
  ·rw[Ey.1 a,ho] at hq2;cases hq2
theorem zP9 {s:Sch} (h:DrS s):2≤s.cols.length∧s.cols.length≤8:=by
 obtain⟨ms,hc,h1,h2⟩:=h.cs;rcases hc with⟨e,_⟩ | ⟨e,_⟩ <;> rw[e] <;> simp <;> omega
theorem qg3 (n:Int) (hn:0≤n∧n≤12) (l:List UInt8) (a:Nat) (hl:l.length≤400) (ha:a≤l.length) :
 ∃ (x:Src) (k:Int) (b:Nat),(DrX x∧(x.rows.length:Int)≤n∧(0≤k∧k<1152921504606846976)∧b≤l.length)∧Sp 6 [.ptr 0 1 0 0,vI n] [(0,oC l a)] (.tup [srcT x,extT (wX x k)]) [(0,oC l b)]:=by
 obtain⟨⟨x,a1⟩,⟨⟨hX,hr,_⟩,ha1⟩,sS⟩:=WM n l a hl ha oM;dsimp only at hX hr ha1 sS;obtain⟨k,a2,hk1,hk2,ha2,sK⟩:=jA8 l a1 hl ha1;have hsm:=hX.ok.smx;have hL:0<x.sch.lists.length:=by obtain⟨a,b,e,_⟩:=hX.sch.ls;rw[e];simp
 have hcl:=zP9 hX.sch;have sA:=zV5 x.sch hsm.1 oM oM;have hfl:=qE4 x.sch (x.sch.cols.length-1);have sQ:=zd5 x allD (yG x.sch (x.sch.cols.length-1)) k hsm hL oM;have hB:=jB3 hX (k:=k) oM;rw[show qD4 x allD (yG x.sch (x.sch.cols.length-1)) k=wX x k by rw[qD4,hB,Aq sMp]] at sQ;refine⟨x,k,a2,⟨hX,hr,oM,ha2⟩,?_⟩;generalize wX x k=X at sQ ⊢
 generalize yG x.sch (x.sch.cols.length-1)=F at sA sQ hfl;generalize allD=D at sA sQ;refine sIr Ym fun e _ hst=>?_;unfold kh;refine sW ?_;refine C1.draw 0 l a _ sS rfl rfl rfl ?_;refine sW ?_;refine C1.im sA rF rF ?_;refine sW ?_;refine C1.draw 0 l a1 _ sK rfl rfl rfl ?_;refine sW ?_;refine C1.im sQ rF rF ?_;refine sW ?_
 repeat (refine⟨kR,?_⟩)
 exact .oA (U1 0) []
theorem jQ1 {l:CodL} (h:lstE l=0) (h2:2≤l.codes.length):2≤zC l:=by
 have h1:=qs2 h;have hc:cdEs l.codes l.codes.length=0:=by
  unfold lstE at h;split at h
  ·cases h
  split at h
  ·cases h
  split at h
  ·cases h
  split at h
  ·rename_i h4;exact absurd h h4
  ·rename_i h4;exact AQ h4
 have hp:=(ze h).1;have h3:=Ws hc (l.codes.length-1) oM;have h4:0≤parC l.codes (l.codes.length-1):=by
  unfold cdE at h3;split at h3
  ·cases h3
  split at h3
  ·cases h3
  split at h3
  ·cases h3
  ·rename_i h5;exact AQ fun e=>h5 (.inr ⟨oM,.inl oM⟩)
 have h5:=YP hp (c:=l.codes.length-1) oM h4;omega
theorem jQ2 {s:Sch} (h:DrS s) {c:Nat} (h0:1≤c) (hc:c<s.cols.length):1≤finI s c:=by
 have hE:=h.ok;have hok:=qU hE;obtain⟨k1,k2,k3,k4,k5⟩:=zi (hok.cs c hc);have k3:=k3 oM;rw[finI,Aq (by rw[hE];simp;omega),Ax];split
 ·rename_i h2;obtain⟨d1,d2⟩:=hok.cdl hc h2;obtain⟨a,b,e,h1,h3⟩:=h.ls;have hl:2≤(qQ s c).codes.length:=by
   have e2:qQ s c=s.lists.getD (qj s c).list.toNat default:=rfl;rw[e2];rw[e] at d1 ⊢
   generalize (qj s c).list.toNat=k at d1
   match k with
   | 0=>exact h1.len.1
   | 1=>exact h3.len.1
   | k+2=>simp at d1;omega
  have:=jQ1 d2 hl;omega
 ·rename_i h2;have h3:=k5 oM;unfold measE at h3;split at h3
  ·cases h3
  split at h3
  ·cases h3
  omega
theorem jq3 {s:Sch} {a:List Pk} (h:∀ p∈a,(1≤p.col∧p.col<s.cols.length)∧p.lev≤finI s p.col):covB a (yG s (s.cols.length-1))=true:=by
 unfold covB;rw[Bk];intro p hp;have:=h p hp;rw[DJ];refine⟨⟨p.col,finI s p.col⟩,Cj.2 ⟨p.col.toNat-1,Dk.2 oM,?_⟩,?_⟩
 ·rw[show ((p.col.toNat-1+1:Nat):Int)=p.col by omega]
 ·simp only[beq_self_eq_true,Fq,AZ];omega
theorem qU1 {x:Src} (hX:DrX x) {k:Int} (hk:0≤k∧k<1152921504606846976):(wX x k).rows.length=x.rows.length∧∀ r∈(wX x k).rows,∃ row∈x.rows,r=rowX x (wX x k).picks k row:=by
 have hp:=zV6 hX hk (yG x.sch (x.sch.cols.length-1));refine⟨by have:=hp.length_eq;rw[BY] at this;exact this,fun r hr=>?_⟩;obtain⟨row,h1,h2⟩:=Cj.1 ((hp.mem_iff).1 hr);exact⟨row,h1,h2.symm⟩
theorem jB7 {x:Src} (hX:DrX x) {k:Int} (hk:0≤k∧k<1152921504606846976):∃ f:Nat→List Int,∀ i (h:i<(wX x k).rows.length),rowE x.sch (f i)=0∧Kn x.sch (f i) (wX x k).picks ((wX x k).rows[i].drop 1):=by
 obtain⟨h1,h2⟩:=qU1 hX hk;have hE:=hX.sch.ok;have key:∀ i,∃ row:List Int,∀ h:i<(wX x k).rows.length,rowE x.sch row=0∧Kn x.sch row (wX x k).picks ((wX x k).rows[i].drop 1):=fun i=>by
  by_cases h:i<(wX x k).rows.length
  ·obtain⟨row,hr,e⟩:=h2 _ (AX h);refine⟨row,fun _=>⟨hX.ok.rows _ hr,?_⟩⟩;have e2:(wX x k).rows[i].drop 1=(wX x k).picks.map fun p=>qw x.sch p.col p.lev (row.getD p.col.toNat 0):=by rw[e];rfl
   rw[e2];refine⟨BY _,fun j hj=>?_,fun p hp=>?_,zP7 _ _⟩
   ·rw[qg (by rw[BY];exact hj),Fj]
   ·obtain⟨q1,q2⟩:=zu1 hE p hp;have q3:=jC q1;obtain⟨cn,hcn⟩:=AJ (show 0≤p.col by omega);have q4:=jQ2 hX.sch (c:=cn) oM oM;rw[← hcn,← q2] at q4;exact⟨q1,oM⟩
  ·exact⟨[],fun h3=>absurd h3 h⟩
 exact⟨fun i=>(key i).choose,fun i h=>(key i).choose_spec h⟩
theorem zu5 {x:Src} (hX:DrX x) {k:Int} (hk:0≤k∧k<1152921504606846976) (dims:List Pk) (hdl:dims.length<1000) (c:Cnd) (hc:chkC x.sch c=0):∃ f:Nat→List Int,
 Sp 7 [schT x.sch,extT (wX x k),vPs dims,vI (-1),cnT c] [] (.tup [tblT (zC8 x.sch (wX x k) dims c fun i=>evC x.sch (f i) c),vI (ze5 x.sch (wX x k) dims (qT c dims) (We x.sch c dims))]) []:=by
 obtain⟨f,hf⟩:=jB7 hX hk;obtain⟨h1,h2⟩:=qU1 hX hk;have hE:=hX.sch.ok;have hsm:=hX.ok.smx;have hcl:=zP9 hX.sch;have hL:0<x.sch.lists.length:=by obtain⟨a,b,e,_⟩:=hX.sch.ls;rw[e];simp
 have hpl:(wX x k).picks.length=x.sch.cols.length-1:=qE4 _ _;have hn:=hX.ok.nr;refine⟨f,zu4 x.sch hsm.1 hL (wX x k) oM (fun r hr=>?_) oM dims hdl c _ fun _ _ _ i hi=>?_⟩
 ·obtain⟨row,_,e⟩:=h2 r hr;rw[e,rowX,CJ,BY]
 ·obtain⟨hr,K⟩:=hf i hi;refine qE3 x.sch hE hL (f i) hr (wX x k).picks _ K oM c hc (ql3 hE) (jq3 fun p hp=>⟨zO6 hc p hp,zt6 hc p hp⟩)
set_option maxHeartbeats 4000000
theorem zf2 {α:Type} (p:Nat→Nat) (f:Nat→α) (d:α) (n i m:Nat) (hp:p m=i) (hu:∀ a,a<n→p a=i→a=m):((List.range n).map fun a=>if p a<i+1 then f a else d)=((List.range n).map fun a=>if p a<i then f a else d).set m (f m):=by
 refine List.ext_getElem sMp fun a h1 h2=>?_;simp only[Fj,List.getElem_range,Fk];by_cases e:m=a
 ·subst e;rw[Aj rfl,Aj oM]
 ·rw[Aq e];have h3:a<n:=by simpa using h1
  have h4:p a≠i:=fun h=>e (hu a h3 h).symm;by_cases h5:p a<i
  ·rw[Aj oM,Aj h5]
  ·rw[Aq oM,Aq h5]
theorem jq4 {α:Type} (p:Nat→Nat) (f:Nat→α) (d:α) (n i:Nat) (hu:∀ a,a<n→p a≠i):((List.range n).map fun a=>if p a<i+1 then f a else d)=((List.range n).map fun a=>if p a<i then f a else d):=by
 refine Ew fun a ha=>?_;have h4:=hu a (Dk.1 ha);by_cases h5:p a<i
 ·rw[Aj oM,Aj h5]
 ·rw[Aq oM,Aq h5]
theorem jQ3 {α:Type} (p:Nat→Nat) (f:Nat→α) (d:α) (n i m:Nat) (hp:p m=i) (hu:∀ a,a<n→p a=i→a=m):((List.range n).map fun a=>if i≤p a then f a else d)=((List.range n).map fun a=>if i+1≤p a then f a else d).set m (f m):=by
 refine List.ext_getElem sMp fun a h1 h2=>?_;simp only[Fj,List.getElem_range,Fk];by_cases e:m=a
 ·subst e;rw[Aj rfl,Aj oM]
 ·rw[Aq e];have h3:a<n:=by simpa using h1
  have h4:p a≠i:=fun h=>e (hu a h3 h).symm;by_cases h5:i≤p a
  ·rw[Aj h5,Aj oM]
  ·rw[Aq h5,Aq oM]
theorem jY2 {α:Type} (p:Nat→Nat) (f:Nat→α) (d:α) (n i:Nat) (hu:∀ a,a<n→p a≠i):((List.range n).map fun a=>if i≤p a then f a else d)=((List.range n).map fun a=>if i+1≤p a then f a else d):=by
 refine Ew fun a ha=>?_;have h4:=hu a (Dk.1 ha);by_cases h5:i≤p a
 ·rw[Aj h5,Aj oM]
 ·rw[Aq h5,Aq oM]
theorem jB8 {l:List Int} (hn:l.Nodup) {i:Nat} (hi:i<l.length):idxN l[i] l=i:=by
 obtain⟨a,b⟩:=Wb (AX hi);rw[qg a] at b;exact nodup_inj hn a hi b
def ofP (s:Sch) (ds:List Pk) (i:Nat):List (List Int):=(List.range ds.length).map fun a=>if plD s ds a<i then ofD s ds a else []
def plP (s:Sch) (ds:List Pk) (i:Nat):List Int:=(List.range ds.length).map fun a=>if plD s ds a<i then (plD s ds a:Int) else 0
theorem jB9 {s:Sch} {ds:List Pk} {i:Nat} (hi:i<(qK s 2).length) (h:dmAt ds (qK s 2)[i]<ds.length):plD s ds (dmAt ds (qK s 2)[i])=i:=by
 unfold plD;rw[qg h,qs6 h,jB8 (qD6 s 2) hi]
theorem zV7 {s:Sch} {ds:List Pk} (hD:DmsOk s ds) {i:Nat} (hi:i<(qK s 2).length) {a:Nat} (ha:a<ds.length) (h:plD s ds a=i):dmAt ds (qK s 2)[i]=a:=by
 have h1:=hD.mem ha;obtain⟨_,b⟩:=Wb h1;unfold plD at h;rw[qg ha] at h;rw[h,qg hi] at b;rw[b,hD.at_ ha]
theorem jQ4 {s:Sch} {ds:List Pk} (hD:DmsOk s ds) {i:Nat} (hi:i<(qK s 2).length) (h:dmAt ds (qK s 2)[i]<ds.length):ofP s ds (i+1)=(ofP s ds i).set (dmAt ds (qK s 2)[i]) (ofD s ds (dmAt ds (qK s 2)[i]))∧plP s ds (i+1)=(plP s ds i).set (dmAt ds (qK s 2)[i]) (i:Int):=by
 have h1:=jB9 hi h;have h2:∀ a,a<ds.length→plD s ds a=i→a=dmAt ds (qK s 2)[i]:=fun a ha e=>(zV7 hD hi ha e).symm;refine⟨zf2 (plD s ds) (ofD s ds) [] _ _ _ h1 h2,?_⟩;have:=zf2 (plD s ds) (fun a=>(plD s ds a:Int)) 0 _ _ _ h1 h2;rw[h1] at this;exact this
theorem jY3 {s:Sch} {ds:List Pk} (hD:DmsOk s ds) {i:Nat} (hi:i<(qK s 2).length) (h:¬ dmAt ds (qK s 2)[i]<ds.length):ofP s ds (i+1)=ofP s ds i∧plP s ds (i+1)=plP s ds i:=by
 have h2:∀ a,a<ds.length→plD s ds a≠i:=fun a ha e=>h (by rw[zV7 hD hi ha e];exact ha);exact⟨jq4 _ _ _ _ _ h2,jq4 _ _ _ _ _ h2⟩
theorem zQ0 {s:Sch} {ds:List Pk} (hD:DmsOk s ds) {a:Nat} (ha:a<ds.length):plD s ds a<(qK s 2).length:=by
 unfold plD;rw[qg ha];exact (Wb (hD.mem ha)).1
theorem jQ5 {s:Sch} {ds:List Pk} (hD:DmsOk s ds):ofP s ds (qK s 2).length=(List.range ds.length).map (ofD s ds)∧plP s ds (qK s 2).length=(List.range ds.length).map fun a=>(plD s ds a:Int):=by
 refine⟨Ew fun a ha=>?_,Ew fun a ha=>?_⟩
 ·exact Aj (zQ0 hD (Dk.1 ha))
 ·exact Aj (zQ0 hD (Dk.1 ha))
theorem jC0 (s:Sch) (ds:List Pk):ofP s ds 0=List.replicate ds.length []∧plP s ds 0=List.replicate ds.length 0:=by
 constructor
 ·unfold ofP;rw[Ew (g:=fun _=>[]) fun a _=>Aq oM];exact List.eq_replicate_iff.2 ⟨sMp,sMp⟩
 ·unfold plP;rw[Ew (g:=fun _=>(0:Int)) fun a _=>Aq oM];exact List.eq_replicate_iff.2 ⟨sMp,sMp⟩
def wntP (s:Sch) (ds:List Pk) (n i:Nat):List Int:=(List.range ds.length).map fun a=>if i≤plD s ds a then (JS s ds n).getD a 0 else 0
theorem jC1 {s:Sch} {ds:List Pk} (hD:DmsOk s ds) (n:Nat) {i:Nat} (hi:i<(qK s 2).length) (h:dmAt ds (qK s 2)[i]<ds.length):wntP s ds n i=(wntP s ds n (i+1)).set (dmAt ds (qK s 2)[i]) ((JS s ds n).getD (dmAt ds (qK s 2)[i]) 0):=
 jQ3 (plD s ds) (fun a=>(JS s ds n).getD a 0) 0 _ _ _ (jB9 hi h) fun a ha e=>(zV7 hD hi ha e).symm
theorem jQ6 {s:Sch} {ds:List Pk} (hD:DmsOk s ds) (n:Nat) {i:Nat} (hi:i<(qK s 2).length) (h:¬ dmAt ds (qK s 2)[i]<ds.length):wntP s ds n i=wntP s ds n (i+1):=
 jY2 _ _ _ _ _ fun a ha e=>h (by rw[zV7 hD hi ha e];exact ha)
theorem jq5 (s:Sch) (ds:List Pk) (n:Nat):wntP s ds n 0=JS s ds n:=by
 have hl:=qg0 s ds n;unfold wntP;rw[Ew (g:=fun a=>(JS s ds n).getD a 0) fun a _=>Aj (Nat.zero_le _)];generalize JS s ds n=C at hl;refine List.ext_getElem (by simp [hl]) fun a h1 h2=>?_;rw[Fj,List.getElem_range,qg h2]
theorem jC2 {s:Sch} {ds:List Pk} (hD:DmsOk s ds) (n:Nat):wntP s ds n (qK s 2).length=List.replicate ds.length 0:=by
 unfold wntP;rw[Ew (g:=fun _=>(0:Int)) fun a ha=>Aq (by have:=zQ0 hD (Dk.1 ha);omega)];exact List.eq_replicate_iff.2 ⟨sMp,sMp⟩
def szF (s:Sch) (n:Nat):List Int:=(wN s 2 n).map fun c=>((qJ s c.toNat).length:Int)
theorem zQ1 (s:Sch) (n:Nat):szF s (n+1)=szF s n++(if (qj s n).kind=2 then [((qJ s n).length:Int)] else []):=by
 unfold szF;rw[jv,By]
 congr 1
 split
 ·rw[List.map_cons,Ax];rfl
 ·rfl
theorem jq6 (s:Sch) (n:Nat):(szF s n).length=(wN s 2 n).length:=by unfold szF;rw[BY]
set_option maxHeartbeats 8000000
theorem zf3:∀ {sz at_:List Int} (i:Nat),inR sz at_→inR (sz.take i) (at_.take i)
 | [],[],i,_=>by simp [inR]
 | [],_::_,_,h=>h.elim
 | _::_,[],_,h=>h.elim
 | k::r,a::s,0,_=>by simp [inR]
 | k::r,a::s,i+1,h=>⟨h.1,zf3 i h.2⟩
theorem zC9:∀ {sz at_:List Int},inR sz at_→∀ {i:Nat} (h:i<sz.length) (h2:i<at_.length),0≤at_[i]∧at_[i]<sz[i]
 | [],_,_,i,h,_=>by simp at h
 | _::_,[],h,_,_,_=>h.elim
 | k::r,a::s,h,0,_,_=>h.1
 | k::r,a::s,h,i+1,h1,h2=>zC9 h.2 (i:=i) (by simpa using h1) (by simpa using h2)
theorem qs7 {p:Int→Bool} {l:List Int} (h:l.all p=true) (i:Nat):(l.take i).all p=true:=Bk.2 fun x hx=>Bk.1 h x (EX hx)
theorem jC3 {sz at_:List Int} {i:Nat} (ha:sz.all szOk=true) (hl:sz.length≤4) (hr:inR sz at_) (h:i<sz.length) (h2:i<at_.length) :
 IntKind.i64.wrap (IntKind.i64.wrap (numL (sz.take i) (at_.take i)*sz[i])+at_[i])=numL (sz.take (i+1)) (at_.take (i+1)):=by
 have hk:1≤sz[i]∧sz[i]≤8:=by simpa [szOk] using Bk.1 ha sz[i] (AX h)
 have hg:=zC9 hr h h2;obtain⟨n1,n2⟩:=qA8 (qs7 ha i) (zf3 i hr);obtain⟨n3,n4⟩:=qA8 (qs7 ha (i+1)) (zf3 (i+1) hr);obtain⟨p1,p2⟩:=Wq (qs7 ha i) (by rw[Cz];omega);obtain⟨p3,p4⟩:=Wq (qs7 ha (i+1)) (by rw[Cz];omega);rw[jy0 h h2] at n3 n4 ⊢
 have e1:0≤numL (sz.take i) (at_.take i)*sz[i]:=Int.mul_nonneg n1 oM;rw[AK (numL (sz.take i) (at_.take i)*sz[i]) oM,AK _ oM]
theorem qO7 (sz at_:List Int) (ha:sz.all szOk=true) (hl:sz.length≤4) (hr:inR sz at_):Sp 181 [vIs sz,vIs at_] [] (vI (numL sz at_)) []:=by
 have hlen:=zb6 hr;refine sIr qA6 fun e _ hst=>?_;unfold Qo;refine sW ?_;refine qk mixm (α:=Nat) [5,10] (fun i=>i≤sz.length) (fun i=>[(5,vI (numL (sz.take i) (at_.take i))),(10,vI i)]) (fun i=>[]) (fun i=>sz.length-i) 0 oM ?_ fun i hi=>?_
 ·exact .oA [] []
 simp only[tZ,↓uU,simprocAttr,AZ,Ay];refine⟨fun h=>?_,fun h=>?_⟩
 ·have hi3:i<at_.length:=by omega
  have hi2:i<sz.length:=by omega
  have hwi:=qh (i:=i) oM;simp only[tZ,↓uU,simprocAttr,Ax,qd hi2,hwi,qd hi3];rw[jC3 ha hl hr hi2 hi3];refine⟨oM,oM,i+1,oM,oM,?_⟩;exact .oA [] []
 ·have hi2:i=sz.length:=by omega
  subst hi2;rw[Bw,List.take_of_length_le oM];exact .imR rfl rfl
theorem Wz {sz:List Int} {n:Int} {j:Nat} (h:j<sz.length):zy (sz.drop j) n=((zy (sz.drop (j+1)) n).2 % sz[j]::(zy (sz.drop (j+1)) n).1,(zy (sz.drop (j+1)) n).2 / sz[j]):=by
 rw[List.drop_eq_getElem_cons h]
 rfl
theorem Wf {sz:List Int} {n:Int} (ha:sz.all szOk=true) (hn:0≤n) (j:Nat):0≤(zy (sz.drop j) n).2:=by
 have ha2:(sz.drop j).all szOk=true:=Bk.2 fun x hx=>Bk.1 ha x (EW hx);obtain⟨_,h2⟩:=kz (n:=n) ha2 hn;obtain⟨p1,_⟩:=KU ha2;rw[h2];exact Int.ediv_nonneg hn oM
theorem zf4 {sz:List Int} {n:Int} (ha:sz.all szOk=true) (hn:0≤n) (j:Nat):(zy (sz.drop j) n).2≤n:=by
 have ha2:(sz.drop j).all szOk=true:=Bk.2 fun x hx=>Bk.1 ha x (EW hx);obtain⟨_,h2⟩:=kz (n:=n) ha2 hn;obtain⟨p1,_⟩:=KU ha2;rw[h2];exact Int.ediv_le_self _ hn
def plO (sz:List Int) (n:Int) (j:Nat):List Int:=List.replicate j 0++zB (sz.drop j) n
theorem jq7 {sz:List Int} {n:Int} {j:Nat} (h:j≤sz.length):(plO sz n j).length=sz.length:=by
 unfold plO;rw[AW,List.length_replicate,KV,List.length_drop];omega
theorem jq8 {sz:List Int} {n:Int} {j:Nat} (h:j<sz.length):(plO sz n (j+1)).set j ((zy (sz.drop (j+1)) n).2 % sz[j])=plO sz n j:=by
 unfold plO zB;rw[Wz h,List.replicate_succ',Dj,List.set_append_right _ _ sMp];simp
theorem zD0 (n:Nat):List.replicate n (T.v (Value.int IntKind.i64 0))=(List.replicate n (0:Int)).map vI:=by simp
theorem qO8 (sz:List Int) (n:Int) (ha:sz.all szOk=true) (hl:sz.length≤4) (hn:0≤n∧n≤1000000):Sp 179 [vIs sz,vI n] [] (.asl 0 sz.length) [aR 0 1 ((zB sz n).map vI)]:=by
 have hw:IntKind.i64.wrap ((sz.length:Int)-1)=(sz.length:Int)-1:=AK _ oM;refine sIr qA4 fun e _ hst=>?_;unfold Qn;simp only[tZ,↓uU,simprocAttr,hw];refine⟨oM,?_⟩;refine qk mixm (α:=Nat) [1,6] (fun j=>j≤sz.length) (fun j=>[(1,vI (zy (sz.drop j) n).2),(6,vI ((j:Int)-1))]) (fun j=>[aR 8200 1 ((plO sz n j).map vI)]) (fun j=>j) sz.length oM ?_ fun j hj=>?_
 ·have e1:plO sz n sz.length=List.replicate sz.length 0:=by
   unfold plO zB;rw[List.drop_length];simp [zy]
  have e2:(zy (sz.drop sz.length) n).2=n:=by rw[List.drop_length];rfl
  rw[e1,e2];refine .of (U1 8200) [] rfl (by first | rfl | (rw[hst];rfl)) ?_ ?_
  all_goals (try simp only[tL,simprocAttr,By,List.map_cons,List.map_nil,BW,Cy,Ax,zD0])
  all_goals (try (exact clA))
 simp only[tZ,↓uU,simprocAttr,AZ,Ay];refine⟨fun h=>?_,fun h=>?_⟩
 ·obtain⟨j,rfl⟩:∃ c,j=c+1:=⟨j-1,oM⟩;have hj2:j<sz.length:=by omega
  have hk:1≤sz[j]∧sz[j]≤8:=by simpa [szOk] using Bk.1 ha sz[j] (AX hj2)
  have hj1:(((j+1:Nat):Int)-1)=(j:Int):=by omega
  have hw2:IntKind.i64.wrap ((j:Int)-1)=(j:Int)-1:=AK _ oM;have hn0:=Wf (n:=n) ha hn.1 (j+1);have hn1:=zf4 (n:=n) ha hn.1 (j+1);have hq:0≤(zy (sz.drop (j+1)) n).2 / sz[j]∧(zy (sz.drop (j+1)) n).2 / sz[j]≤n:=⟨Int.ediv_nonneg hn0 oM,Int.le_trans (Int.ediv_le_self _ hn0) hn1⟩;have hw3:IntKind.i64.wrap ((zy (sz.drop (j+1)) n).2 / sz[j])=(zy (sz.drop (j+1)) n).2 / sz[j]:=AK _ oM;simp only[hj1];simp only[tZ,↓uU,simprocAttr,Ax,qd hj2,Int.tmod_eq_emod_of_nonneg hn0,Int.tdiv_eq_ediv_of_nonneg hn0,hw2,hw3];have hpl:=jq7 (sz:=sz) (n:=n) (j:=j+1) oM;have hj3:j<(plO sz n (j+1)).length:=by omega
  simp only[qd hj3,show ∀ a b:Int,repl (vI a) 0 (vI b)=vI b from fun _ _=>rfl];rw[← List.map_set,jq8 hj2];refine⟨oM,oM,oM,⟨oM,oM,rfl⟩,oM,oM,j,oM,oM,?_⟩;rw[Wz hj2];exact .oA (U1 8200) []
 ·have:j=0:=by omega
  subst this;have e1:plO sz n 0=zB sz n:=by simp [plO,List.replicate_zero]
  rw[e1];refine .of [(0,some 8200)] [] rfl (by first | rfl | (rw[hst];rfl)) ?_ ?_
  all_goals (try simp only[tL,simprocAttr,By,List.map_cons,List.map_nil,BW,Cy,Ax])
  all_goals (try (exact clA))
end Go.Proofs
