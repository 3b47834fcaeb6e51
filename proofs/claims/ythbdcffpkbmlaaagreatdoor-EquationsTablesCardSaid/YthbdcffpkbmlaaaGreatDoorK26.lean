/- A part of the proof: G41. -/
import Derived.Test.YthbdcffpkbmlaaaGreatDoorK25
namespace Go.Proofs
open Go Go.TL
set_option maxRecDepth 4000
set_option maxHeartbeats 16000000
structure TbOk (t:Tbl):Prop where
 d:t.dims.length<1000
 n:t.cells.length<1000000
 c:∀ c∈t.cells,c.codes.length<1000000
theorem jC9 {s:Sch} {x:Ext} {ds:List Pk} {ev:Nat→Int} (h3:ds.length≤3) (h:szD s ds≤2000):TbOk ⟨ds,-1,Kd s x ds ev⟩:=by
 have hl:(Kd s x ds ev).length=szD s ds:=by unfold Kd;rw[BY,Wy]
 refine⟨by dsimp only;omega,by dsimp only;omega,fun c hc=>?_⟩;dsimp only at hc;unfold Kd at hc;obtain⟨y,hy,rfl⟩:=Cj.1 hc;have:=ze4 s ds y hy;show y.length<_;omega
theorem jS0 {s:Sch} (hE:schE s=0):(spcS s).length≤8∧(spcC s).length≤8:=by
 have hnc:=(qU hE).nc;have h1:(qK s 2).length≤s.cols.length:=Qt s 2 _;have h2:=qs8 s;unfold spcS spcC;split <;> exact⟨by first | omega | (simp;done),by first | omega | (simp;done)⟩
theorem JZ (l:List UInt8) (number what:Int):Sp 3 [vL l,vI number,vI what] [] (vB true) []:=by
 have hl4:(l.take 400).length≤400:=by rw[Cz];omega
 obtain⟨x,k,a1,⟨hX,hr,hk,ha1⟩,sS⟩:=qg3 10 oM (l.take 400) 0 hl4 oM;obtain⟨⟨ds,a2⟩,⟨hdE,ha2⟩,sD⟩:=ql0 x.sch hX.sch (l.take 400) a1 hl4 ha1;dsimp only at hdE ha2 sD;obtain⟨⟨c,a3⟩,⟨hC,ha3⟩,sCd⟩:=qk9 x.sch hX.sch (l.take 400) hl4 1 a2 ha2 oM;dsimp only at hC ha3 sCd;have hE:=hX.sch.ok;have hc:=hC.chk hE oM;obtain⟨hB,hd1,hd3⟩:=jp9 hdE;obtain⟨f,sM⟩:=zu5 hX hk ds oM c hc;have hsm:=hX.ok.smx;have hMk:ze5 x.sch (wX x k) ds (qT c ds) (We x.sch c ds)=0→zC8 x.sch (wX x k) ds c (fun i=>evC x.sch (f i) c)=⟨ds,-1,Kd x.sch (wX x k) ds fun i=>evC x.sch (f i) c⟩∧szD x.sch ds≤2000:=fun h=>by
  refine⟨by rw[zC8,Aq (by rw[h];simp)],?_⟩;unfold ze5 at h;split at h
  ·rename_i h2;exact absurd h h2
  split at h
  ·rename_i h2;exact absurd h h2
  split at h
  ·cases h
  split at h
  ·cases h
  ·omega
 have hcl:(Kd x.sch (wX x k) ds fun i=>evC x.sch (f i) c).length=szD x.sch ds:=by unfold Kd;rw[BY,Wy]
 have hpos:=zC3 x.sch ds;have hTO:=fun h=>jC9 (s:=x.sch) (x:=wX x k) (ds:=ds) (ev:=fun i=>evC x.sch (f i) c) hd3 h;generalize (Kd x.sch (wX x k) ds fun i=>evC x.sch (f i) c)=cs at hMk hcl hTO;generalize ze5 x.sch (wX x k) ds (qT c ds) (We x.sch c ds)=E at sM hMk;generalize zC8 x.sch (wX x k) ds c (fun i=>evC x.sch (f i) c)=Z at sM hMk;generalize wX x k=X at sS sM;have sSp:=Jd x.sch hsm.1;have sSp2:=qg6 x.sch hsm.1;have sMw:=ql9 what 7 oM;have sMw9:=ql9 what 9 oM;have sMn:=ql9 number 40 oM;refine zU [17] ZQ mixm sMp fun e _ hst=>kL ?_;unfold jk;simp only[wV,List.contains_cons,List.contains_nil,Nat.reduceBEq,Bool.or_false,Bool.or_true,Bool.true_or,Bool.false_or,cond_true,cond_false];refine sW ?_;refine C1.newdraw 8196 (zT6 l) rfl rfl ?_;generalize l.take 400=m at hl4 sS sD sCd ha1 ha2 ha3 ⊢
 refine sW ?_;refine C1.draw 8196 m 0 _ sS rfl rfl rfl ?_;refine sW ?_;refine C1.draw 8196 m a1 _ sD rfl rfl rfl ?_;refine sW ?_;refine C1.draw 8196 m a2 _ sCd rfl rfl rfl ?_;refine sW ?_;refine C1.im sM rF rF ?_;simp only[tZ,↓uU,simprocAttr,Bj,Aw];refine⟨kR,fun h2=>?_,fun h2=>?_⟩
 ·refine C1.im qg8 rF rF ?_;refine sW ?_;exact .oA [] []
 obtain⟨hZ,hsz⟩:=hMk h2;rw[hZ];have hTO:=hTO hsz;clear hMk hZ sM sS sD sCd;have hct:TbOk ⟨ds,-1,cs.take (cs.length-1)⟩:=⟨hTO.d,by have:=hTO.n;dsimp only at this ⊢;rw[Cz];omega,fun c hc=>hTO.c c (EX hc)⟩;have hDt:∀ d2:List Pk,d2.length≤4→TbOk ⟨d2,-1,cs⟩:=fun d2 h=>⟨by dsimp only;omega,hTO.n,hTO.c⟩;have hlc:0<cs.length:=by omega
 have hwl:IntKind.i64.wrap ((cs.length:Int)-1)=((cs.length-1:Nat):Int):=by
  rw[show (cs.length:Int)-1=((cs.length-1:Nat):Int) by omega];have:=hTO.n;dsimp only at this;exact AK _ oM
 clear hpos hcl;obtain⟨d0,dr,rfl⟩:∃ d0 dr,ds=d0::dr:=by
  cases ds with
  | nil=>simp at hd1
  | cons a b=>exact⟨a,b,rfl⟩
 refine C1.im sMw rF rF ?_;generalize modI what 7=w;generalize modI what 9=w9 at sMw9;simp only[tZ,↓uU,simprocAttr,AY,Ak];refine⟨fun h=>?_,fun h=>⟨fun h4=>?_,fun h4=>⟨fun h5=>?_,fun h5=>⟨fun h6=>?_,fun h6=>?_⟩⟩⟩⟩
 focus
  simp only[tZ,↓uU,simprocAttr,hwl];refine⟨oM,?_⟩;rw[QO,qw5];refine W_le [(1,vI number),(8,.ptr 12308 1 0 0),(10,.ptr 16444 1 0 0)] [aR 12308 5 [srcT x],aR 16444 3 [tblT ⟨d0::dr,-1,cs.take (cs.length-1)⟩]] ?_ ?_
  ·exact .oA (U2 12308 16444) []
  obtain⟨T1,hT1⟩:∃ T1:Tbl,T1=⟨d0::dr,-1,cs.take (cs.length-1)⟩:=⟨_,rfl⟩;have hTk:TbOk T1:=by rw[hT1];exact hct
  rw[← hT1];clear hT1
 rotate_left
 focus
  have hd3':dr.length≤2:=by simp at hd3;omega
  refine⟨oM,oM,oM,kR,?_⟩;refine W_le [(1,vI number),(8,.ptr 12308 1 0 0),(10,.ptr 16444 1 0 0)] [aR 12308 5 [srcT x],aR 16444 3 [tblT ⟨d0::dr++[d0],-1,cs⟩]] ?_ ?_
  ·refine .of (U2 12308 16444) [45056] rfl (by first | rfl | (rw[hst];rfl)) ?_ ?_
   all_goals (try simp only[tL,simprocAttr,By,List.map_cons,List.map_nil,BW,Cy])
   all_goals (try (repeat' (first | exact qZ | (apply zk;intro _;exact⟨rfl,rfl⟩) | (apply qH;intro _;exact⟨rfl,rfl⟩) | with_reducible apply qV | with_reducible refine qW ⟨rfl,rfl⟩ ?_ | exact zd | with_reducible apply qR | with_reducible refine qY ⟨rfl,rfl,?_⟩ ?_ | with_reducible apply Az | exact qS rfl | exact qS (by assumption) | (refine⟨⟨?_,rfl,?_,rfl,?_⟩,trivial⟩ <;> first | (simp;done) | (apply qH;intro _;exact⟨rfl,rfl⟩)) | trivial | rfl | (rw[qh oM]) | omega)))
   show ltCs _ _ _ [T.asl _ _,vI (-1),.sl 7 _] [vPs _,vI (-1),.sl 7 _];simp only[tL,simprocAttr,List.map_cons,By,List.map_nil,BW,Cy,CJ,AW,Cw];refine qW ⟨rfl,rfl⟩ ?_
   all_goals (try exact clA)
  obtain⟨T1,hT1⟩:∃ T1:Tbl,T1=⟨d0::dr++[d0],-1,cs⟩:=⟨_,rfl⟩;have hTk:TbOk T1:=by rw[hT1];exact hDt _ (by simp;simp at hd3;omega)
  rw[← hT1];clear hT1
 rotate_left
 focus
  have hd3':dr.length≤2:=by simp at hd3;omega
  refine⟨oM,?_⟩;refine C1.im sMw9 rF rF ?_;refine sW ?_;refine⟨oM,oM,kR,?_⟩;refine W_le [(1,vI number),(8,.ptr 12308 1 0 0),(10,.ptr 16444 1 0 0)] [aR 12308 5 [srcT x],aR 16444 3 [tblT ⟨⟨d0.col,IntKind.i64.wrap (w9-2)⟩::dr,-1,cs⟩]] ?_ ?_
  ·refine .of (U2 12308 16444) [53248] rfl (by first | rfl | (rw[hst];rfl)) ?_ ?_
   all_goals (try simp only[tL,simprocAttr,By,List.map_cons,List.map_nil,BW,Cy])
   all_goals (try (repeat' (first | exact qZ | (apply zk;intro _;exact⟨rfl,rfl⟩) | (apply qH;intro _;exact⟨rfl,rfl⟩) | with_reducible apply qV | with_reducible refine qW ⟨rfl,rfl⟩ ?_ | exact zd | with_reducible apply qR | with_reducible refine qY ⟨rfl,rfl,?_⟩ ?_ | with_reducible apply Az | exact qS rfl | exact qS (by assumption) | (refine⟨⟨?_,rfl,?_,rfl,?_⟩,trivial⟩ <;> first | (simp;done) | (apply qH;intro _;exact⟨rfl,rfl⟩)) | trivial | rfl | (rw[qh oM]) | omega)))
   show ltCs _ _ _ [T.asl _ _,vI (-1),.sl 7 _] [vPs _,vI (-1),.sl 7 _];simp only[tL,simprocAttr,List.map_cons,By,List.map_nil,BW,Cy,CJ,AW,Cw];refine qW ⟨rfl,rfl⟩ ?_
   all_goals (try exact clA)
  obtain⟨T1,hT1⟩:∃ T1:Tbl,T1=⟨⟨d0.col,IntKind.i64.wrap (w9-2)⟩::dr,-1,cs⟩:=⟨_,rfl⟩;have hTk:TbOk T1:=by rw[hT1];exact hDt _ (by simp;simp at hd3;omega)
  rw[← hT1];clear hT1
 rotate_left
 focus
  have hd3':dr.length≤2:=by simp at hd3;omega
  refine⟨oM,?_⟩;refine C1.im sMw9 rF rF ?_;refine sW ?_;refine⟨oM,oM,kR,?_⟩;refine W_le [(1,vI number),(8,.ptr 12308 1 0 0),(10,.ptr 16444 1 0 0)] [aR 12308 5 [srcT x],aR 16444 3 [tblT ⟨⟨IntKind.i64.wrap (w9-2),d0.lev⟩::dr,-1,cs⟩]] ?_ ?_
  ·refine .of (U2 12308 16444) [65536] rfl (by first | rfl | (rw[hst];rfl)) ?_ ?_
   all_goals (try simp only[tL,simprocAttr,By,List.map_cons,List.map_nil,BW,Cy])
   all_goals (try (repeat' (first | exact qZ | (apply zk;intro _;exact⟨rfl,rfl⟩) | (apply qH;intro _;exact⟨rfl,rfl⟩) | with_reducible apply qV | with_reducible refine qW ⟨rfl,rfl⟩ ?_ | exact zd | with_reducible apply qR | with_reducible refine qY ⟨rfl,rfl,?_⟩ ?_ | with_reducible apply Az | exact qS rfl | exact qS (by assumption) | (refine⟨⟨?_,rfl,?_,rfl,?_⟩,trivial⟩ <;> first | (simp;done) | (apply qH;intro _;exact⟨rfl,rfl⟩)) | trivial | rfl | (rw[qh oM]) | omega)))
   show ltCs _ _ _ [T.asl _ _,vI (-1),.sl 7 _] [vPs _,vI (-1),.sl 7 _];simp only[tL,simprocAttr,List.map_cons,By,List.map_nil,BW,Cy,CJ,AW,Cw];refine qW ⟨rfl,rfl⟩ ?_
   all_goals (try exact clA)
  obtain⟨T1,hT1⟩:∃ T1:Tbl,T1=⟨⟨IntKind.i64.wrap (w9-2),d0.lev⟩::dr,-1,cs⟩:=⟨_,rfl⟩;have hTk:TbOk T1:=by rw[hT1];exact hDt _ (by simp;simp at hd3;omega)
  rw[← hT1];clear hT1
 rotate_left
 focus
  refine W_le [(1,vI number),(8,.ptr 12308 1 0 0),(10,.ptr 16444 1 0 0)] [aR 12308 5 [srcT x],aR 16444 3 [tblT ⟨d0::dr,-1,cs⟩]] ?_ ?_
  ·exact .oA (U2 12308 16444) []
  obtain⟨T1,hT1⟩:∃ T1:Tbl,T1=⟨d0::dr,-1,cs⟩:=⟨_,rfl⟩;have hTk:TbOk T1:=by rw[hT1];exact hTO
  rw[← hT1];clear hT1
 rotate_left
 all_goals
  have hTd:=hTk.d;have hTn:=hTk.n;have hTc:=hTk.c;have sT1:=ql8 x.sch hsm.1 T1 (IntKind.i64.wrap (modI number 40-5)) hTd oM (fun c hc=>by have:=hTc c hc;omega);have sT2:=zf8 x.sch hsm.1 T1 (IntKind.i64.wrap (modI number 40-5)) hTd oM (fun c hc=>by have:=hTc c hc;omega);have sR:=qr4 (wtbR x.sch T1 (IntKind.i64.wrap (modI number 40-5))) (jY5 hE T1 _);have hb:=jS0 hE;have sI1:=wT (spcS x.sch) (spcS x.sch) oM oM;have sI2:=wT (spcC x.sch) (spcC x.sch) oM oM;rw[qg7] at sI1 sI2;generalize wtbR x.sch T1 (IntKind.i64.wrap (modI number 40-5))=R at sT1 sT2 sR;generalize wtbE x.sch T1 (IntKind.i64.wrap (modI number 40-5))=F at sT1 sT2;clear hb;generalize spcS x.sch=s1 at sSp sSp2 sI1;generalize spcC x.sch=s2 at sSp sSp2 sI2;generalize spcE x.sch=s3 at sSp sSp2;refine sW ?_;refine C1.im sSp rF rF ?_;refine sW ?_;refine C1.im sSp2 rF rF ?_;refine sW ?_;refine C1.im sMn rF rF ?_;refine sW ?_;refine C1.im sT1 rF rF ?_;refine sW ?_;refine⟨kR,?_⟩;refine C1.im sMn rF rF ?_;refine sW ?_;refine C1.im sT2 rF rF ?_;refine sW ?_;refine⟨kR,?_⟩;refine C1.im sI1 rF rF ?_;refine sW ?_;refine C2.one trivial (C1.im sI2 rF rF ?_);simp only[tZ,↓uU,simprocAttr,beq_self_eq_true];refine C2.one trivial (C1.im sR rF rF ?_);simp only[tZ,↓uU,simprocAttr,beq_self_eq_true];refine C2.one trivial (C1.im qg8 rF rF ?_);refine sW ?_;exact .oA [] []
end Go.Proofs
