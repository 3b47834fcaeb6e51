/- A part of the proof: trees of Go values, short forms, contracts. -/
import Derived.Test.YthbdcffpkbmlaaaGreatDoorK23
namespace Go.Proofs
open Go Go.TL
set_option maxRecDepth 4000
set_option maxHeartbeats 16000000
theorem qC2 (f:Pk→Int):∀ (N l:List Pk),(N.foldl (fun l p=>jz l p.col (f p)) l).length≤l.length+N.length
 | [],l=>BZ _
 | p::r,l=>by
   have h1:=qC2 f r (jz l p.col (f p));have h2:=wQ l p.col (f p);rw[Dw,CJ];omega
theorem jp2 (s:Sch) (c:Cnd) (ds:List Pk):(Ke s c ds).length≤80+ds.length:=by
 have hA:∀ (l:List Pk) (c:Cnd),(addP s l c).length≤l.length+40:=fun l c=>by
  have hn:=wR s c;have:=qC2 (fun p=>p.lev) (zu s c) l;unfold addP;omega
 unfold Ke;split
 ·simp
 ·have h1:=qC2 (fun p=>zO s p.col p.lev) ds (addP s (addP s [] c) cnd0);have h2:=hA (addP s [] c) cnd0;have h3:=hA [] c;simp only[Cw] at h3;omega
def zT6 (s:Sch) (x:Ext) (dims:List Pk) (c:Cnd) (ev:Nat→Int):Tbl:=if zs7 s x dims (qT c dims) (Ke s c dims)≠0 then ⟨[],0,[]⟩ else ⟨dims,-1,KY s x dims ev⟩
theorem zt6 (s:Sch) (hs:jY s) (hL:0<s.lists.length) (x:Ext) (hp:x.picks.length<1000) (hr:∀ r∈x.rows,r.length=x.picks.length+1) (hn:x.rows.length<1000000) (dims:List Pk) (hdl:dims.length<1000) (c:Cnd) (ev:Nat→Int) (hev:extE s x=0→qstE s (qT c dims)=0→covB (Ke s c dims) x.picks=true→∀ i (h:i<x.rows.length),Sp 89 [schT s,cnT c,vPs x.picks,vIs (x.rows[i].drop 1)] [] (vI (ev i)) []) :
 Sp 7 [schT s,extT x,vPs dims,vI (-1),cnT c] [] (.tup [tblT (zT6 s x dims c ev),vI (zs7 s x dims (qT c dims) (Ke s c dims))]) []:=by
 have sC:=qf3 s hs x oM (fun r h=>by have:=hr r h;omega);have sQ:=kg s hs hL (qT c dims);have sN:=zd1 s hs hL c dims hdl;have hnl:=jp2 s c dims;have sV:=ZB (Ke s c dims) x.picks oM oM;have hE:zs7 s x dims (qT c dims) (Ke s c dims)=if extE s x≠0 then extE s x else if qstE s (qT c dims)≠0 then qstE s (qT c dims) else if covB (Ke s c dims) x.picks=false then 23 else if szD s dims>2000 then 1 else 0:=rfl
 have hR:zT6 s x dims c ev=if zs7 s x dims (qT c dims) (Ke s c dims)≠0 then ⟨[],0,[]⟩ else ⟨dims,-1,KY s x dims ev⟩:=rfl
 generalize zs7 s x dims (qT c dims) (Ke s c dims)=E at hE hR ⊢
 generalize zT6 s x dims c ev=Z at hR ⊢
 generalize Ke s c dims=N at sN sV hE hev;have hbad:∀ v,v≠0→E=v→Z=⟨[],0,[]⟩∧E=v:=fun v h1 h2=>⟨by rw[hR,h2,Aj h1],h2⟩;refine jl [31,34] qU7 mixm sMp fun e _ hst=>wW ?_;unfold Je;simp only[yO,List.contains_cons,List.contains_nil,Nat.reduceBEq,Bool.or_false,Bool.or_true,Bool.true_or,Bool.false_or,cond_true,cond_false];refine sW ?_;refine C1.im sC rF rF ?_;simp only[tZ,↓uU,simprocAttr,Bj,Aw];refine⟨fun h1=>?_,fun h1=>?_⟩
 ·obtain⟨a1,a2⟩:=hbad _ h1 (by rw[hE,Aj h1]);rw[a1,a2];exact .oA [] []
 rw[Aq (by rw[h1];simp)] at hE;refine C1.shut [] sQ ?_ rF rfl ?_
 ·all_goals (try exact clA)
 simp only[tZ,↓uU,simprocAttr,Bj,Aw];refine⟨fun h2=>?_,fun h2=>?_⟩
 ·obtain⟨a1,a2⟩:=hbad _ h2 (by rw[hE,Aj h2]);rw[a1,a2];exact .oA [] []
 rw[Aq (by rw[h2];simp)] at hE;refine C1.im sN rF rF ?_;refine sW ?_;refine C1.im sV rF rF ?_;simp only[tZ,↓uU,simprocAttr,Bx,Bz];refine⟨kR,fun h3=>?_,fun h3=>?_⟩
 ·obtain⟨a1,a2⟩:=hbad 23 (by decide) (by rw[hE,Aj h3]);rw[a1,a2];exact .oA [] []
 rw[Aq (by rw[h3];simp)] at hE;have hev:=hev h1 h2 h3;have hq:=qj3 h2;have hdE:wB s dims=0:=(hq.dims rfl).1;obtain⟨hB,hd1,hd3⟩:=zB2 hdE;have hD:=zc2 hB;have hsE:=hq.sch;have hok:=qO hsE;have hCd:∀ d∈dims,CdC s d.col:=fun d hd=>by
  obtain⟨i,hi,rfl⟩:=CX hd;exact hD.cd hi
 have hsz:∀ i,szD s (dims.take i)≤226981:=fun i=>by
  have e1:=jI5 hok (dims.take i) fun d hd=>hCd d (EX hd);have e2:61 ^ (dims.take i).length≤61 ^ 3:=Nat.pow_le_pow_right (by decide) (by rw[Cz];omega);have e3:(61:Nat) ^ 3=226981:=by decide
  omega
 refine qt mixm (α:=Nat) [14,15] (fun i=>i≤dims.length) (fun i=>[(14,vI (szD s (dims.take i):Nat)),(15,vI i)]) (fun i=>[aR 4096 2 [schT s],aR 4100 4 [extT x],aR 4104 6 [cnT c],aR 4108 3 [tblT ⟨[],0,[]⟩]]) (fun i=>dims.length-i) 0 oM ?_ fun i hi=>?_
 ·exact .oA (U4 4096 4100 4104 4108) []
 refine sD ?_;refine⟨fun h4=>?_,fun h4=>?_⟩
 ·have hi2:i<dims.length:=by omega
  have hwi:=qh (i:=i) oM;have hcd:=hCd _ (AX hi2);have hsn:=jA4 s hi2;have hsi:=hsz (i+1);rw[hsn] at hsi;have hrg:=hcd.rng;have hkd:=hcd.kind;obtain⟨cn,hcn⟩:=AJ hrg.1;rw[hcn,Ax] at hkd hsi hsn;have hi3:cn<s.cols.length:=by omega
  have hat:qj s cn=s.cols[cn]:=by rw[qj,qg hi3]
  obtain⟨d1,d2⟩:=hok.cdl hi3 hkd;obtain⟨d3,d4⟩:=(zo (hok.cs cn hi3)).2.2.2.1 hkd;have hcl:qK s cn=s.lists.getD s.cols[cn].list.toNat default:=by rw[qK,hat]
  rw[hat] at d1 d3 d4;have hgl:s.lists.getD s.cols[cn].list.toNat default=s.lists[s.cols[cn].list.toNat]:=qg d1;obtain⟨_,d5,d6⟩:=ze d2;have hA:Sp 31 [cdlT s.lists[s.cols[cn].list.toNat],vI dims[i].lev] [] (vIs (atL (qK s cn) dims[i].lev)) []:=by
   rw[hcl,hgl];exact Wm _ _ (by rw[hcl,hgl] at d6;omega)
  have hal:=qZ6 (qK s cn) dims[i].lev;generalize atL (qK s cn) dims[i].lev=A at hA hal hsi hsn;have hwa:IntKind.i64.wrap ((A.length:Int)+1)=((A.length+1:Nat):Int):=qh oM;have hwm:IntKind.i64.wrap ((szD s (dims.take i):Int)*((A.length+1:Nat):Int))=((szD s (dims.take i)*(A.length+1):Nat):Int):=by rw[← Int.natCast_mul];exact AK _ oM
  simp only[tZ,↓uU,simprocAttr,Ax,qd hi2,hcn,qd hi3,qd d1];refine⟨oM,oM,oM,oM,?_⟩;refine C1.im hA rF rF ?_;simp only[tZ,↓uU,simprocAttr,hwa,hwm,hwi];refine⟨kR,i+1,oM,oM,?_⟩;rw[hsn];exact .oA (U4 4096 4100 4104 4108) []
 have hil:i=dims.length:=by omega
 subst hil;rw[Bw];refine⟨fun h5=>?_,fun h5=>?_⟩
 ·obtain⟨a1,a2⟩:=hbad 1 (by decide) (by rw[hE,Aj oM]);rw[a1,a2];exact .oA [] []
 rw[Aq oM] at hE;have hZ:Z=⟨dims,-1,KY s x dims ev⟩:=by rw[hR,hE,Aq sMp]
 rw[hZ,hE];clear hR hbad hZ hE sC sQ sN sV;have sCt:=qL9 s hs x oM (fun r h=>by have:=hr r h;omega) hn h1 c ev hev;have hcells:KY s x dims ev=(lstD s dims).map (tclF ((qL6 x ev).map (linD s x dims))):=rfl;rw[hcells];have hcF:cntF ev x.rows.length=(qL6 x ev).map fun i:Nat=>(i:Int):=rfl;rw[hcF] at sCt;have hRm:∀ j (h:j<(qL6 x ev).length),(qL6 x ev)[j]<x.rows.length:=fun j h=>Dk.1 (Fz.1 (AX h)).1;have hRl:(qL6 x ev).length≤x.rows.length:=FZ (Fx _ _) sMp;generalize qL6 x ev=R at sCt hRm hRl ⊢
 refine C1.shut [] sCt ?_ rF rfl ?_
 ·all_goals (try exact clA)
 have sL:=qf6 s hsE dims hCd oM hdl;have hRl2:(R.map fun i:Nat=>(i:Int)).length=R.length:=BY _;simp only[tZ,↓uU,simprocAttr,hRl2];refine qt mixm (α:=Nat) [19,20] (fun i=>i≤R.length) (fun i=>[(19,.asl 1 ((R.take i).map (linD s x dims)).length),(20,vI i)]) (fun i=>[aR 4096 2 [schT s],aR 4100 4 [extT x],aR 4108 3 [tblT ⟨[],0,[]⟩],aR 69644 3 [.agg [vPs dims,vI (-1),.v (.slice none 0 0)]],aR 1 3 (((R.take i).map (linD s x dims)).map linT)]) (fun i=>R.length-i) 0 oM ?_ fun i hi=>?_
 ·show Le _ _ ⟨_,[aR 4096 2 [schT s],aR 4100 4 [extT x],aR 4108 3 [tblT ⟨[],0,[]⟩],aR 69644 3 [.agg [vPs dims,vI (-1),.v (.slice none 0 0)]],aR 1 3 []]⟩;exact .oA [uI 4096,uI 4100,uI 4108,uI 69644,(1,none)] []
 have hRi:((R.take i).map (linD s x dims)).length=i:=by rw[BY,Cz];omega
 refine sD ?_;refine⟨fun h6=>?_,fun h6=>?_⟩
 ·have hi2:i<R.length:=by omega
  have hwi:=qh (i:=i) oM;have hi3:i<(R.map fun i:Nat=>(i:Int)).length:=by omega
  have hgi:(R.map fun i:Nat=>(i:Int))[i]=(R[i]:Int):=Fj ..
  have hri:=hRm i hi2;have hrl:=hr _ (AX hri);have hhd:=kA (r:=x.rows[R[i]]) oM;have hsn:(R.take (i+1)).map (linD s x dims)=(R.take i).map (linD s x dims)++[linD s x dims R[i]]:=by rw[qy hi2,By];rfl
  have hlD:linD s x dims R[i]=(hd x.rows[R[i]],dims.map fun d=>(knwI s x R[i] d.col d.lev).1):=by rw[linD,qg hri]
  have sIn:=fun a b=>zc6 s hs hsE x oM oM hr (R[i]:Nat) a b;generalize (R.take i).map (linD s x dims)=Y at hRi hsn;simp only[tZ,↓uU,simprocAttr,Ax,qd hi3,hgi,qd hri,hhd];refine⟨oM,oM,oM,kR,?_⟩;have hYl:(Y.map linT).length=i:=by rw[BY];exact hRi
  obtain⟨cd,hcd⟩:∃ cd,cd=dims.map fun d=>(knwI s x R[i] d.col d.lev).1:=⟨_,rfl⟩;have hcdl:cd.length=dims.length:=by rw[hcd,BY]
  have hcdg:∀ k (h:k<dims.length),cd[k]'oM=(knwI s x R[i] dims[k].col dims[k].lev).1:=fun k h=>by subst hcd;rw[Fj]
  rw[← hcd] at hlD;clear hcd;refine qt mixm (α:=Nat) [22] (fun k=>k≤dims.length) (fun k=>[(22,vI k)]) (fun k=>[aR 4096 2 [schT s],aR 4100 4 [extT x],aR 4108 3 [tblT ⟨[],0,[]⟩],aR 69644 3 [.agg [vPs dims,vI (-1),.v (.slice none 0 0)]],aR 1 3 (Y.map linT),aR 106540 3 [.agg [vI (hd x.rows[R[i]]),vI 0,.asl 2 k]],aR 2 1 ((cd.take k).map vI)]) (fun k=>dims.length-k) 0 oM ?_ fun k hk=>?_
  ·exact .oA [uI 4096,uI 4100,uI 4108,uI 69644,uI 1,uI 106540,(2,none)] []
  have hck:(cd.take k).length=k:=by rw[Cz];omega
  refine sD ?_;refine⟨fun h7=>?_,fun h7=>?_⟩
  ·have hk2:k<dims.length:=by omega
   have hk3:k<cd.length:=by omega
   have hwk:=qh (i:=k) oM;have hsc:cd.take (k+1)=cd.take k++[cd[k]]:=qy hk3;have sI:=sIn dims[k].col dims[k].lev;rw[Aq oM,Aq oM,Ax,← hcdg k hk2] at sI;generalize (knwI s x R[i] dims[k].col dims[k].lev).2=kb at sI;generalize cd[k]=cv at sI hsc;simp only[tZ,↓uU,simprocAttr,Ax,qd hi3,hgi,qd hk2];refine⟨oM,oM,oM,?_⟩;refine C1.im sI rF rF ?_;refine sW ?_;refine⟨kR,oM,oM,?_⟩;simp only[tZ,↓uU,simprocAttr,hwk];refine⟨k+1,oM,oM,?_⟩;rw[hsc];exact .oA (U7 4096 4100 4108 69644 1 106540 2) []
  ·have hkl:k=dims.length:=by omega
   subst hkl;rw[← hcdl,Bw];refine W_le [(2,vPs dims),(3,vI (-1)),(5,.ptr 4096 1 0 0),(6,.ptr 4100 1 0 0),(10,.ptr 4108 1 0 0),(16,.ptr 69644 1 0 0),(18,vIs (R.map fun i:Nat=>(i:Int))),(19,.asl 1 i),(20,vI i),(21,.ptr 106540 1 0 0)] [aR 4096 2 [schT s],aR 4100 4 [extT x],aR 4108 3 [tblT ⟨[],0,[]⟩],aR 69644 3 [.agg [vPs dims,vI (-1),.v (.slice none 0 0)]],aR 1 3 (Y.map linT),aR 106540 3 [linT (hd x.rows[R[i]],cd)]] ?_ ?_
   ·have hTl:(R.take i).length=i:=by rw[Cz];omega
    rw[hTl];refine .of (U6 4096 4100 4108 69644 1 106540) [2] rfl (by first | rfl | (rw[hst];rfl)) ?_ ?_
    all_goals (try simp only[tL,simprocAttr,By,List.map_cons,List.map_nil,BW,Cy])
    all_goals (try (repeat' (first | exact zq | (apply jm;intro _;exact⟨rfl,rfl⟩) | (apply qV;intro _;exact⟨rfl,rfl⟩) | with_reducible apply zm | with_reducible refine zj ⟨rfl,rfl⟩ ?_ | exact zC | with_reducible apply zg | with_reducible refine zf ⟨rfl,rfl,?_⟩ ?_ | with_reducible apply Az | exact zh rfl | exact zh (by assumption) | (refine⟨⟨?_,rfl,?_,rfl,?_⟩,trivial⟩ <;> first | (simp;done) | (apply qV;intro _;exact⟨rfl,rfl⟩)) | trivial | rfl | (rw[qh oM]) | omega)))
    show ltCs _ _ _ [vI _,vI 0,T.asl 2 _] [vI _,vI 0,vIs cd];simp only[tL,simprocAttr]
    all_goals (try exact clA)
   refine sD ?_;have hRi3:(R.take (i+1)).length=i+1:=by rw[Cz];omega
   refine⟨oM,i+1,oM,oM,?_⟩;rw[hwi,hsn,hlD,hRi3];exact .oA (U5 4096 4100 4108 69644 1) []
 ·have hil:i=R.length:=by omega
  subst hil;rw[Bw] at hRi ⊢
  obtain⟨ls,hls⟩:∃ ls,ls=R.map (linD s x dims):=⟨_,rfl⟩;have hll:ls.length=R.length:=by rw[hls,BY]
  have hl2:∀ y∈ls,y.2.length=dims.length:=fun y hy=>by
   rw[hls] at hy;obtain⟨j,_,rfl⟩:=Cj.1 hy;exact BY _
  rw[← hls];clear hls;refine W_le [(2,vPs dims),(5,.ptr 4096 1 0 0),(10,.ptr 4108 1 0 0),(16,.ptr 69644 1 0 0),(19,.sl 3 (ls.map linT))] [aR 4096 2 [schT s],aR 4108 3 [tblT ⟨[],0,[]⟩],aR 69644 3 [.agg [vPs dims,vI (-1),.v (.slice none 0 0)]]] ?_ ?_
  ·rw[← hll];exact .oA (U3 4096 4108 69644) [1]
  have hLl:=qf1 s dims;have hLi:=zc1 s dims;generalize lstD s dims=L at sL hLl hLi ⊢
  refine sW ?_;refine C1.im sL rF rF ?_;refine sW ?_;refine qt mixm (α:=Nat) [26] (fun i=>i≤L.length) (fun i=>[(26,vI i)]) (fun i=>[aR 4108 3 [tblT ⟨[],0,[]⟩],aR 69644 3 [.agg [vPs dims,vI (-1),.asl 3 i]],aR 3 7 (((L.take i).map (tclF ls)).map tclT)]) (fun i=>L.length-i) 0 oM ?_ fun i hi=>?_
  ·exact .oA [uI 4108,uI 69644,(3,none)] []
  have hLi2:((L.take i).map (tclF ls)).length=i:=by rw[BY,Cz];omega
  refine sD ?_;refine⟨fun h7=>?_,fun h7=>?_⟩
  ·have hi2:i<L.length:=by omega
   have hwi:=qh (i:=i) oM;have hyl:=hLi _ (AX hi2);have sCe:=zt4 ls L[i] oM oM (fun y hy=>by rw[hl2 y hy,hyl]);have hsn:(L.take (i+1)).map (tclF ls)=(L.take i).map (tclF ls)++[tclF ls L[i]]:=by rw[qy hi2,By];rfl
   generalize (L.take i).map (tclF ls)=Y at hLi2 hsn;generalize tclF ls L[i]=cl at sCe hsn;simp only[tZ,↓uU,simprocAttr,Ax,qd hi2];refine⟨oM,?_⟩;refine C1.im sCe rF rF ?_;refine sW ?_;refine⟨oM,oM,kR,?_⟩;simp only[tZ,↓uU,simprocAttr,hwi];refine⟨i+1,oM,oM,?_⟩;rw[hsn];exact .oA (U3 4108 69644 3) []
  ·have hil:i=L.length:=by omega
   subst hil;rw[Bw] at hLi2 ⊢
   have e9:tblT ⟨dims,-1,L.map (tclF ls)⟩ = .agg [vPs dims,vI (-1),.sl 7 ((L.map (tclF ls)).map tclT)]:=rfl;rw[e9];refine⟨oM,?_⟩;refine .of [] [3] rfl (by first | rfl | (rw[hst];rfl)) ?_ ?_
   all_goals (try simp only[tL,simprocAttr,By,List.map_cons,List.map_nil,BW,Cy,hLi2])
   all_goals (try (exact clA))
set_option maxHeartbeats 8000000
open So
def jp3 (s:Sch) (P:List Pk) (a b:List Int):Bool:=P.all fun p=>qk s p.col p.lev (a.getD p.col.toNat 0)==qk s p.col p.lev (b.getD p.col.toNat 0)
structure RowA (x:Src) (d:Dcl) (P:List Pk) (r0 row:List Int):Prop where
 fit:rowE x.sch row=0
 id:hd row=hd r0
 ev:(qZ8 x.sch d.coh row==1)=(qZ8 x.sch d.coh r0==1)
 al:ownP x d r0=true→jp3 x.sch P row r0=true
theorem RowA.refl {x:Src} {d:Dcl} {P:List Pk} {r:List Int} (h:rowE x.sch r=0):RowA x d P r r:=⟨h,rfl,rfl,fun _=>by
 unfold jp3;rw[Bk];exact fun p _=>beq_self_eq_true _⟩
theorem RowA.own {x:Src} {d:Dcl} {P:List Pk} {r row:List Int} (h:RowA x d P r row):ownP x d row=ownP x d r:=by
 unfold ownP;rw[h.ev,h.id]
theorem RowA.rowX {x:Src} {d:Dcl} {P:List Pk} {r row:List Int} (k:Int) (h:RowA x d P r row) (ho:ownP x d r=true):rowX x P k row=rowX x P k r:=by
 have h1:=h.al ho;unfold jp3 at h1;rw[Bk] at h1;unfold Go.Proofs.rowX;rw[h.id]
 congr 1
 exact Ew fun p hp=>AY.1 (h1 p hp)
structure OthR (x:Src) (d:Dcl) (P:List Pk) (rs ys:List (List Int)):Prop where
 len:ys.length≤rs.length
 asc:AscR ys
 fro:∀ row∈ys,∃ r∈rs,RowA x d P r row
 own:∀ r∈rs,ownP x d r=true→∃ row∈ys,RowA x d P r row
theorem OthR.nil {x:Src} {d:Dcl} {P:List Pk}:OthR x d P [] []:=⟨BZ _,.nil,sMp,sMp⟩
theorem OthR.skip {x:Src} {d:Dcl} {P:List Pk} {rs ys:List (List Int)} (h:OthR x d P rs ys) {r:List Int} (ho:ownP x d r=false):OthR x d P (rs++[r]) ys:=by
 refine⟨by have:=h.len;simp;omega,h.asc,fun row hr=>?_,fun q hq hq2=>?_⟩
 ·obtain⟨q,a,b⟩:=h.fro row hr;exact⟨q,List.mem_append_left _ a,b⟩
 ·rcases Dz.1 hq with a | a
  ·exact h.own q a hq2
  ·rw[Ey.1 a,ho] at hq2;cases hq2
theorem zO0 {s:Sch} (h:DrS s):2≤s.cols.length∧s.cols.length≤8:=by
 obtain⟨ms,hc,h1,h2⟩:=h.cs;rcases hc with⟨e,_⟩ | ⟨e,_⟩ <;> rw[e] <;> simp <;> omega
theorem qf7 (n:Int) (hn:0≤n∧n≤12) (l:List UInt8) (a:Nat) (hl:l.length≤400) (ha:a≤l.length) :
 ∃ (x:Src) (k:Int) (b:Nat),(DrX x∧(x.rows.length:Int)≤n∧(0≤k∧k<1152921504606846976)∧b≤l.length)∧Sp 6 [.ptr 0 1 0 0,vI n] [(0,oC l a)] (.tup [srcT x,extT (wX x k)]) [(0,oC l b)]:=by
 obtain⟨⟨x,a1⟩,⟨⟨hX,hr,_⟩,ha1⟩,sS⟩:=WD n l a hl ha oM;dsimp only at hX hr ha1 sS;obtain⟨k,a2,hk1,hk2,ha2,sK⟩:=jz4 l a1 hl ha1;have hsm:=hX.ok.smx;have hL:0<x.sch.lists.length:=by obtain⟨a,b,e,_⟩:=hX.sch.ls;rw[e];simp
 have hcl:=zO0 hX.sch;have sA:=zT2 x.sch hsm.1 oM oM;have hfl:=qB8 x.sch (x.sch.cols.length-1);have sQ:=zb4 x allD (ju x.sch (x.sch.cols.length-1)) k hsm hL oM;have hB:=jA0 hX (k:=k) oM;rw[show qA9 x allD (ju x.sch (x.sch.cols.length-1)) k=wX x k by rw[qA9,hB,Aq sMp]] at sQ;refine⟨x,k,a2,⟨hX,hr,oM,ha2⟩,?_⟩;generalize wX x k=X at sQ ⊢
 generalize ju x.sch (x.sch.cols.length-1)=F at sA sQ hfl;generalize allD=D at sA sQ;refine sIr WZ fun e _ hst=>?_;unfold ki;refine sW ?_;refine C1.draw 0 l a _ sS rfl rfl rfl ?_;refine sW ?_;refine C1.im sA rF rF ?_;refine sW ?_;refine C1.draw 0 l a1 _ sK rfl rfl rfl ?_;refine sW ?_;refine C1.im sQ rF rF ?_;refine sW ?_
 repeat (refine⟨kR,?_⟩)
 exact .oA (U1 0) []
theorem jO6 {l:CodL} (h:lstE l=0) (h2:2≤l.codes.length):2≤zA l:=by
 have h1:=qq8 h;have hc:cdEs l.codes l.codes.length=0:=by
  unfold lstE at h;split at h
  ·cases h
  split at h
  ·cases h
  split at h
  ·cases h
  split at h
  ·rename_i h4;exact absurd h h4
  ·rename_i h4;exact AQ h4
 have hp:=(ze h).1;have h3:=Wk hc (l.codes.length-1) oM;have h4:0≤parC l.codes (l.codes.length-1):=by
  unfold cdE at h3;split at h3
  ·cases h3
  split at h3
  ·cases h3
  split at h3
  ·cases h3
  ·rename_i h5;exact AQ fun e=>h5 (.inr ⟨oM,.inl oM⟩)
 have h5:=YC hp (c:=l.codes.length-1) oM h4;omega
theorem jO7 {s:Sch} (h:DrS s) {c:Nat} (h0:1≤c) (hc:c<s.cols.length):1≤finI s c:=by
 have hE:=h.ok;have hok:=qO hE;obtain⟨k1,k2,k3,k4,k5⟩:=zo (hok.cs c hc);have k3:=k3 oM;rw[finI,Aq (by rw[hE];simp;omega),Ax];split
 ·rename_i h2;obtain⟨d1,d2⟩:=hok.cdl hc h2;obtain⟨a,b,e,h1,h3⟩:=h.ls;have hl:2≤(qK s c).codes.length:=by
   have e2:qK s c=s.lists.getD (qj s c).list.toNat default:=rfl;rw[e2];rw[e] at d1 ⊢
   generalize (qj s c).list.toNat=k at d1
   match k with
   | 0=>exact h1.len.1
   | 1=>exact h3.len.1
   | k+2=>simp at d1;omega
  have:=jO6 d2 hl;omega
 ·rename_i h2;have h3:=k5 oM;unfold measE at h3;split at h3
  ·cases h3
  split at h3
  ·cases h3
  omega
theorem jp4 {s:Sch} {a:List Pk} (h:∀ p∈a,(1≤p.col∧p.col<s.cols.length)∧p.lev≤finI s p.col):covB a (ju s (s.cols.length-1))=true:=by
 unfold covB;rw[Bk];intro p hp;have:=h p hp;rw[DJ];refine⟨⟨p.col,finI s p.col⟩,Cj.2 ⟨p.col.toNat-1,Dk.2 oM,?_⟩,?_⟩
 ·rw[show ((p.col.toNat-1+1:Nat):Int)=p.col by omega]
 ·simp only[beq_self_eq_true,Fq,AZ];omega
theorem qk2 {x:Src} (hX:DrX x) {k:Int} (hk:0≤k∧k<1152921504606846976):(wX x k).rows.length=x.rows.length∧∀ r∈(wX x k).rows,∃ row∈x.rows,r=rowX x (wX x k).picks k row:=by
 have hp:=qR9 hX hk (ju x.sch (x.sch.cols.length-1));refine⟨by have:=hp.length_eq;rw[BY] at this;exact this,fun r hr=>?_⟩;obtain⟨row,h1,h2⟩:=Cj.1 ((hp.mem_iff).1 hr);exact⟨row,h1,h2.symm⟩
theorem jp5 {x:Src} (hX:DrX x) {k:Int} (hk:0≤k∧k<1152921504606846976):extE x.sch (wX x k)=0:=by
 obtain⟨h1,h2⟩:=qk2 hX hk;have hn:=hX.ok.nr;exact jo5 hX.ok hk (yK hX.sch.ok) kR (by rw[show (yq x allD (ju x.sch (x.sch.cols.length-1)) k).length=(wX x k).rows.length from rfl,h1];exact hn) (jo2 hX.ok (zc8 hX.sch) hk _).asc fun i hi=>h2 _ (AX hi)
theorem jA6 {x:Src} (hX:DrX x) {k:Int} (hk:0≤k∧k<1152921504606846976):∃ f:Nat→List Int,∀ i (h:i<(wX x k).rows.length),rowE x.sch (f i)=0∧Kn x.sch (f i) (wX x k).picks ((wX x k).rows[i].drop 1):=by
 obtain⟨h1,h2⟩:=qk2 hX hk;have hE:=hX.sch.ok;have key:∀ i,∃ row:List Int,∀ h:i<(wX x k).rows.length,rowE x.sch row=0∧Kn x.sch row (wX x k).picks ((wX x k).rows[i].drop 1):=fun i=>by
  by_cases h:i<(wX x k).rows.length
  ·obtain⟨row,hr,e⟩:=h2 _ (AX h);refine⟨row,fun _=>⟨hX.ok.rows _ hr,?_⟩⟩;have e2:(wX x k).rows[i].drop 1=(wX x k).picks.map fun p=>qk x.sch p.col p.lev (row.getD p.col.toNat 0):=by rw[e];rfl
   rw[e2];refine⟨BY _,fun j hj=>?_,fun p hp=>?_,zN5 _ _⟩
   ·rw[qg (by rw[BY];exact hj),Fj]
   ·obtain⟨q1,q2⟩:=zt2 hE p hp;have q3:=zW q1;obtain⟨cn,hcn⟩:=AJ (show 0≤p.col by omega);have q4:=jO7 hX.sch (c:=cn) oM oM;rw[← hcn,← q2] at q4;exact⟨q1,oM⟩
  ·exact⟨[],fun h3=>absurd h3 h⟩
 exact⟨fun i=>(key i).choose,fun i h=>(key i).choose_spec h⟩
theorem zt7 {x:Src} (hX:DrX x) {k:Int} (hk:0≤k∧k<1152921504606846976) (dims:List Pk) (hdl:dims.length<1000) (c:Cnd) (hc:chkC x.sch c=0):∃ f:Nat→List Int,
 Sp 7 [schT x.sch,extT (wX x k),vPs dims,vI (-1),cnT c] [] (.tup [tblT (zT6 x.sch (wX x k) dims c fun i=>evC x.sch (f i) c),vI (zs7 x.sch (wX x k) dims (qT c dims) (Ke x.sch c dims))]) []:=by
 obtain⟨f,hf⟩:=jA6 hX hk;obtain⟨h1,h2⟩:=qk2 hX hk;have hE:=hX.sch.ok;have hsm:=hX.ok.smx;have hcl:=zO0 hX.sch;have hL:0<x.sch.lists.length:=by obtain⟨a,b,e,_⟩:=hX.sch.ls;rw[e];simp
 have hpl:(wX x k).picks.length=x.sch.cols.length-1:=qB8 _ _;have hn:=hX.ok.nr;refine⟨f,zt6 x.sch hsm.1 hL (wX x k) oM (fun r hr=>?_) oM dims hdl c _ fun _ _ _ i hi=>?_⟩
 ·obtain⟨row,_,e⟩:=h2 r hr;rw[e,rowX,CJ,BY]
 ·obtain⟨hr,K⟩:=hf i hi;refine qB7 x.sch hE hL (f i) hr (wX x k).picks _ K oM c hc (yK hE) (jp4 fun p hp=>⟨zM4 hc p hp,zs2 hc p hp⟩)
theorem zd2:∀ {sz at_:List Int} (i:Nat),inR sz at_→inR (sz.take i) (at_.take i)
 | [],[],i,_=>by simp [inR]
 | [],_::_,_,h=>h.elim
 | _::_,[],_,h=>h.elim
 | k::r,a::s,0,_=>by simp [inR]
 | k::r,a::s,i+1,h=>⟨h.1,zd2 i h.2⟩
theorem zd3:∀ {sz at_:List Int},inR sz at_→∀ {i:Nat} (h:i<sz.length) (h2:i<at_.length),0≤at_[i]∧at_[i]<sz[i]
 | [],_,_,i,h,_=>by simp at h
 | _::_,[],h,_,_,_=>h.elim
 | k::r,a::s,h,0,_,_=>h.1
 | k::r,a::s,h,i+1,h1,h2=>zd3 h.2 (i:=i) (by simpa using h1) (by simpa using h2)
theorem qr2 {p:Int→Bool} {l:List Int} (h:l.all p=true) (i:Nat):(l.take i).all p=true:=Bk.2 fun x hx=>Bk.1 h x (EX hx)
theorem zO1 {sz at_:List Int} {i:Nat} (ha:sz.all szOk=true) (hl:sz.length≤4) (hr:inR sz at_) (h:i<sz.length) (h2:i<at_.length) :
 IntKind.i64.wrap (IntKind.i64.wrap (numL (sz.take i) (at_.take i)*sz[i])+at_[i])=numL (sz.take (i+1)) (at_.take (i+1)):=by
 have hk:1≤sz[i]∧sz[i]≤8:=by simpa [szOk] using Bk.1 ha sz[i] (AX h)
 have hg:=zd3 hr h h2;obtain⟨n1,n2⟩:=KN (qr2 ha i) (zd2 i hr);obtain⟨n3,n4⟩:=KN (qr2 ha (i+1)) (zd2 (i+1) hr);obtain⟨p1,p2⟩:=qi5 (qr2 ha i) (by rw[Cz];omega);obtain⟨p3,p4⟩:=qi5 (qr2 ha (i+1)) (by rw[Cz];omega);rw[jw7 h h2] at n3 n4 ⊢
 have e1:0≤numL (sz.take i) (at_.take i)*sz[i]:=Int.mul_nonneg n1 oM;rw[AK (numL (sz.take i) (at_.take i)*sz[i]) oM,AK _ oM]
theorem qM0 (sz at_:List Int) (ha:sz.all szOk=true) (hl:sz.length≤4) (hr:inR sz at_):Sp 181 [vIs sz,vIs at_] [] (vI (numL sz at_)) []:=by
 have hlen:=Yy hr;refine sIr qy7 fun e _ hst=>?_;unfold Qm;refine sW ?_;refine qt mixm (α:=Nat) [5,10] (fun i=>i≤sz.length) (fun i=>[(5,vI (numL (sz.take i) (at_.take i))),(10,vI i)]) (fun i=>[]) (fun i=>sz.length-i) 0 oM ?_ fun i hi=>?_
 ·exact .oA [] []
 simp only[tZ,↓uU,simprocAttr,AZ,Ay];refine⟨fun h=>?_,fun h=>?_⟩
 ·have hi3:i<at_.length:=by omega
  have hi2:i<sz.length:=by omega
  have hwi:=qh (i:=i) oM;simp only[tZ,↓uU,simprocAttr,Ax,qd hi2,hwi,qd hi3];rw[zO1 ha hl hr hi2 hi3];refine⟨oM,oM,i+1,oM,oM,?_⟩;exact .oA [] []
 ·have hi2:i=sz.length:=by omega
  subst hi2;rw[Bw,List.take_of_length_le oM];exact .imR rfl rfl
theorem qk3 {sz:List Int} {n:Int} {j:Nat} (h:j<sz.length):zz (sz.drop j) n=((zz (sz.drop (j+1)) n).2 % sz[j]::(zz (sz.drop (j+1)) n).1,(zz (sz.drop (j+1)) n).2 / sz[j]):=by
 rw[List.drop_eq_getElem_cons h]
 rfl
theorem qn0 {sz:List Int} {n:Int} (ha:sz.all szOk=true) (hn:0≤n) (j:Nat):0≤(zz (sz.drop j) n).2:=by
 have ha2:(sz.drop j).all szOk=true:=Bk.2 fun x hx=>Bk.1 ha x (EW hx);obtain⟨_,h2⟩:=jg (n:=n) ha2 hn;obtain⟨p1,_⟩:=KM ha2;rw[h2];exact Int.ediv_nonneg hn oM
theorem zO2 {sz:List Int} {n:Int} (ha:sz.all szOk=true) (hn:0≤n) (j:Nat):(zz (sz.drop j) n).2≤n:=by
 have ha2:(sz.drop j).all szOk=true:=Bk.2 fun x hx=>Bk.1 ha x (EW hx);obtain⟨_,h2⟩:=jg (n:=n) ha2 hn;obtain⟨p1,_⟩:=KM ha2;rw[h2];exact Int.ediv_le_self _ hn
def plO (sz:List Int) (n:Int) (j:Nat):List Int:=List.replicate j 0++zd (sz.drop j) n
theorem jp6 {sz:List Int} {n:Int} {j:Nat} (h:j≤sz.length):(plO sz n j).length=sz.length:=by
 unfold plO;rw[AW,List.length_replicate,ZM,List.length_drop];omega
theorem jp7 {sz:List Int} {n:Int} {j:Nat} (h:j<sz.length):(plO sz n (j+1)).set j ((zz (sz.drop (j+1)) n).2 % sz[j])=plO sz n j:=by
 unfold plO zd;rw[qk3 h,List.replicate_succ',Dj,List.set_append_right _ _ sMp];simp
theorem jp8 (n:Nat):List.replicate n (T.v (Value.int IntKind.i64 0))=(List.replicate n (0:Int)).map vI:=by simp
theorem qM1 (sz:List Int) (n:Int) (ha:sz.all szOk=true) (hl:sz.length≤4) (hn:0≤n∧n≤1000000):Sp 179 [vIs sz,vI n] [] (.asl 0 sz.length) [aR 0 1 ((zd sz n).map vI)]:=by
 have hw:IntKind.i64.wrap ((sz.length:Int)-1)=(sz.length:Int)-1:=AK _ oM;refine sIr qy5 fun e _ hst=>?_;unfold Ql;simp only[tZ,↓uU,simprocAttr,hw];refine⟨oM,?_⟩;refine qt mixm (α:=Nat) [1,6] (fun j=>j≤sz.length) (fun j=>[(1,vI (zz (sz.drop j) n).2),(6,vI ((j:Int)-1))]) (fun j=>[aR 8200 1 ((plO sz n j).map vI)]) (fun j=>j) sz.length oM ?_ fun j hj=>?_
 ·have e1:plO sz n sz.length=List.replicate sz.length 0:=by
   unfold plO zd;rw[List.drop_length];simp [zz]
  have e2:(zz (sz.drop sz.length) n).2=n:=by rw[List.drop_length];rfl
  rw[e1,e2];refine .of (U1 8200) [] rfl (by first | rfl | (rw[hst];rfl)) ?_ ?_
  all_goals (try simp only[tL,simprocAttr,By,List.map_cons,List.map_nil,BW,Cy,Ax,jp8])
  all_goals (try (exact clA))
 simp only[tZ,↓uU,simprocAttr,AZ,Ay];refine⟨fun h=>?_,fun h=>?_⟩
 ·obtain⟨j,rfl⟩:∃ c,j=c+1:=⟨j-1,oM⟩;have hj2:j<sz.length:=by omega
  have hk:1≤sz[j]∧sz[j]≤8:=by simpa [szOk] using Bk.1 ha sz[j] (AX hj2)
  have hj1:(((j+1:Nat):Int)-1)=(j:Int):=by omega
  have hw2:IntKind.i64.wrap ((j:Int)-1)=(j:Int)-1:=AK _ oM;have hn0:=qn0 (n:=n) ha hn.1 (j+1);have hn1:=zO2 (n:=n) ha hn.1 (j+1);have hq:0≤(zz (sz.drop (j+1)) n).2 / sz[j]∧(zz (sz.drop (j+1)) n).2 / sz[j]≤n:=⟨Int.ediv_nonneg hn0 oM,Int.le_trans (Int.ediv_le_self _ hn0) hn1⟩;have hw3:IntKind.i64.wrap ((zz (sz.drop (j+1)) n).2 / sz[j])=(zz (sz.drop (j+1)) n).2 / sz[j]:=AK _ oM;simp only[hj1];simp only[tZ,↓uU,simprocAttr,Ax,qd hj2,Int.tmod_eq_emod_of_nonneg hn0,Int.tdiv_eq_ediv_of_nonneg hn0,hw2,hw3];have hpl:=jp6 (sz:=sz) (n:=n) (j:=j+1) oM;have hj3:j<(plO sz n (j+1)).length:=by omega
  simp only[qd hj3,show ∀ a b:Int,repl (vI a) 0 (vI b)=vI b from fun _ _=>rfl];rw[← List.map_set,jp7 hj2];refine⟨oM,oM,oM,⟨oM,oM,rfl⟩,oM,oM,j,oM,oM,?_⟩;rw[qk3 hj2];exact .oA (U1 8200) []
 ·have:j=0:=by omega
  subst this;have e1:plO sz n 0=zd sz n:=by simp [plO,List.replicate_zero]
  rw[e1];refine .of [(0,some 8200)] [] rfl (by first | rfl | (rw[hst];rfl)) ?_ ?_
  all_goals (try simp only[tL,simprocAttr,By,List.map_cons,List.map_nil,BW,Cy,Ax])
  all_goals (try (exact clA))
def nbB (l:List Int):Bool:=match nbF l with | some n=>decide (n>0) | none=>false
theorem jZ2 {l:List Int} {i:Nat} {n:Int} (hi:i≤l.length) (h:nbF (l.take i)=some n):0≤n∧n≤i:=by
 have:=(jM1 hi h).pos;rw[Cz] at this;omega
theorem qq0 (l:List Int) (hl:l.length<4611686018427387904):Sp 156 [vIs l] [] (vB (nbB l)) []:=by
 refine sIr qi4 fun e _ hst=>?_;unfold wy;refine sW ?_;refine qt mixm (α:=Nat×Int) [3,8] (fun x=>x.1≤l.length∧nbF (l.take x.1)=some x.2) (fun x=>[(3,vI x.2),(8,vI x.1)]) (fun _=>[]) (fun x=>l.length-x.1) (0,0) ⟨sMp,rfl⟩ ?_ fun x hx=>?_
 ·exact .oA [] []
 obtain⟨i,n⟩:=x;obtain⟨hi,hn⟩:=hx;dsimp only at hi hn;have hb:=jZ2 hi hn;simp only[tZ,↓uU,simprocAttr,AZ,Ay];refine⟨fun h=>?_,fun h=>?_⟩
 ·have hs:=jj2 (l:=l) (i:=i) oM;rw[hn] at hs;have hw:IntKind.i64.wrap (n+1)=n+1:=AK _ oM;have hi2:i<l.length:=by omega
  have hwi:=qh (i:=i) oM;simp only[tZ,↓uU,simprocAttr,Ax,qd hi2,hwi,tD,AY,Ak,hw];refine⟨oM,fun h3=>?_,fun h3=>⟨fun h4=>?_,fun h4=>?_⟩⟩
  ·have e:nbF l=none:=jw8 (i:=i+1) (by rw[hs];simp only[KO];rw[Aj h3]);unfold nbB;rw[e];exact .imR rfl rfl
  ·simp only[KO] at hs;rw[Aq oM,Aj h4] at hs;refine⟨(i+1,n+1),⟨by simp only;omega,hs⟩,by simp only;omega,?_⟩;exact .oA [] []
  ·simp only[KO] at hs;rw[Aq oM,Aq h4] at hs;refine⟨(i+1,n),⟨by simp only;omega,hs⟩,by simp only;omega,?_⟩;exact .oA [] []
 ·have hi2:i=l.length:=by omega
  subst hi2;rw[Bw] at hn;have e:nbB l=decide (n>0):=by unfold nbB;rw[hn]
  rw[e];exact .imR rfl rfl
theorem jp9 (k:Int) (g:List Int):okG k g=(((g.length:Int)==k)&&nbB g):=rfl
theorem Wa (sz:List Int) (gs:List (List Int)) (hl:sz.length<4611686018427387904) (hg:gs.length<4611686018427387904) (hgl:∀ g∈gs,g.length<1000000):Sp 103 [spT sz,vwT gs] [] (vI (qp6 sz gs)) []:=by
 refine sIr qW4 fun e _ hst=>?_;unfold Jp;refine sW ?_;refine C1.shut [] (JO sz hl) ?_ rF rfl ?_
 ·simp only[tL,simprocAttr]
 simp only[tZ,↓uU,simprocAttr,Bj,Aw];refine⟨fun h=>?_,fun hk0=>⟨fun h2=>?_,fun h2=>?_⟩⟩
 ·rw[qp6,Aj h];exact .imR rfl rfl
 ·rw[qp6,Aq (fun e=>e hk0),Aj oM];exact .imR rfl rfl
 have hlen:gs.length=sz.length:=by omega
 have hsp:=kY.1 hk0;refine qt mixm (α:=Nat) [23] (fun i=>i≤gs.length∧(okGs (sz.take i) (gs.take i)=true)) (fun i=>[(23,vI i)]) (fun i=>[aR 4096 1 [spT sz]]) (fun i=>gs.length-i) 0 ⟨oM,?_⟩ ?_ fun i hi=>?_
 ·rfl
 ·exact .oA (U1 4096) []
 simp only[tZ,↓uU,simprocAttr,AZ,Ay];refine⟨fun h=>?_,fun h=>?_⟩
 ·have hs2:i<sz.length:=by omega
  have hgm:=hgl _ (AX (show i<gs.length by omega));have hi2:i<gs.length:=by omega
  have hwi:=qh (i:=i) oM;simp only[tZ,↓uU,simprocAttr,Ax,qd hi2,hwi,qd hs2];have hcn:=qq0 gs[i] oM;refine⟨oM,oM,C2.im (fun _=>hcn) (fun _=>rfl) rF ?_⟩;simp only[tZ,↓uU,simprocAttr,tD,Bj,Aw,Bz];refine⟨fun h3=>?_,fun h3=>⟨i+1,⟨oM,?_⟩,oM,?_⟩⟩
  ·have hf:okG sz[i] gs[i]=false:=by
    rw[jp9,FJ];rcases h3 with h3 | h3
    ·exact .inl (by simpa using h3)
    ·exact .inr h3
   rw[qp6,Aq (fun e=>e hk0),Aq oM,Aq (by rw[zR6 hlen hs2 hf];simp)];exact .oA [] []
  ·rw[zn7 hs2 hi2,hi.2,jp9,h3.2,Fq,Bool.and_true];simpa using h3.1
  ·exact .oA (U1 4096) []
 ·have hi2:i=gs.length:=by omega
  subst hi2;have h3:=hi.2;rw[Bw,List.take_of_length_le oM] at h3;rw[qp6,Aq (fun e=>e hk0),Aq oM,Aj h3];exact .oA [] []
structure GOk (g:List Int):Prop where
 len:0<g.length∧g.length≤8
 n:0<gN g∧gN g≤8
 all:∀ x∈g,-1≤x∧x<gN g
 max:1+maxF g=gN g
theorem VwOk.g {sz:List Int} {gs:List (List Int)} (h:VwOk sz gs) {i:Nat} (hi:i<gs.length):GOk gs[i]:=by
 have hi2:i<sz.length:=by rw[← h.len];exact hi
 obtain⟨h1,h2,h3⟩:=h.get hi2;have h4:=h.sp.get hi2;have h5:=h3.pos;refine⟨oM,⟨h2,oM⟩,h3.all,?_⟩;have h6:=jW8 (l:=gs[i]) oM;rw[h6] at h2 ⊢
 unfold maxI at h2 ⊢
 split at h2 <;> split <;> omega
theorem JP {sz:List Int} {gs:List (List Int)} (hv:VwOk sz gs):Sp 105 [vwT gs] [] (vIs (gs.map gN)) []:=by
 have hl:=hv.len;have hs:=hv.sp.len;refine sIr qH4 fun e _ hst=>?_;unfold Zh;refine sW ?_;refine qt mixm (α:=Nat) [3,9] (fun i=>i≤gs.length) (fun i=>[(3,.asl 1 ((gs.take i).map gN).length),(9,vI i)]) (fun i=>[aR 1 1 (((gs.take i).map gN).map vI)]) (fun i=>gs.length-i) 0 oM ?_ fun i hi=>?_
 ·exact .oA [(1,none)] []
 simp only[tZ,↓uU,simprocAttr,AZ,Ay];refine⟨fun h=>?_,fun h=>?_⟩
 ·have hg:=hv.g (i:=i) oM;have hi2:i<gs.length:=by omega
  have hwi:=qh (i:=i) oM;simp only[tZ,↓uU,simprocAttr,Ax,qd hi2,hwi];have hm:=ZT gs[i] hg.len.1 (by have:=hg.len;omega);refine⟨oM,C1.im hm rfl rF ?_⟩;have hw:IntKind.i64.wrap (1+maxF gs[i])=gN gs[i]:=by
   have:=hg.n;rw[hg.max,AK _ oM]
  have hgl:(gs.take i).length=i:=by rw[Cz];omega
  simp only[tZ,↓uU,simprocAttr,hw,hgl,BY];refine⟨oM,i+1,oM,oM,?_⟩;rw[qy hi2];refine .of (U1 1) [] rfl (by first | rfl | (rw[hst];rfl)) ?_ ?_
  all_goals (try simp only[tL,simprocAttr,By,List.map_cons,List.map_nil,BW,Cy,BY,AW,Cz,CJ,Cw,Nat.min_eq_left (Nat.le_of_lt hi2)])
  all_goals (try (exact clA))
 ·have hi2:i=gs.length:=by omega
  subst hi2;rw[Bw];refine .of [] [1] rfl (by first | rfl | (rw[hst];rfl)) ?_ ?_
  all_goals (try simp only[tL,simprocAttr,By,List.map_cons,List.map_nil,BW,Cy,BY])
  all_goals (try (exact clA))
theorem ZU (sz:List Int) (gs:List (List Int)) (hl:sz.length<4611686018427387904) (hg:gs.length<4611686018427387904) (hgl:∀ g∈gs,g.length<1000000):Sp 54 [spT sz,vwT gs] [] (vI (Qo sz gs)) []:=by
 refine sIr qc1 fun e _ hst=>?_;unfold kP;refine sW ?_;refine C1.shut [] (Wa sz gs hl hg hgl) ?_ rF rfl ?_
 ·simp only[tL,simprocAttr]
 simp only[tZ,↓uU,simprocAttr,Bj,Aw];refine⟨fun h=>?_,fun h=>?_⟩
 ·rw[Qo,Aq h];exact .imR rfl rfl
 have hv:=Wj.1 h;rw[Qo,Aj h];refine C1.shut [] (JP hv) ?_ rF rfl ?_
 ·simp only[tL,simprocAttr]
 refine sW ?_;refine C1.im (Qw (gs.map gN) hv.gsz (by have:=hv.len;have:=hv.sp.len;rw[BY];omega)) rfl rF ?_;refine sW ?_;exact .imR rfl rfl
theorem zB3 {sz:List Int} {gs:List (List Int)} (h:VwOk sz gs) {c:Int} (hc:0≤c):(gAt gs (zd sz c)).contains (-1)=(gAt gs (zd sz c)).any (fun g=>decide (g<0)):=by
 have hg:=(jj6 h.len h.ok (jg h.sp.all hc).1).2.2;cases hn:(gAt gs (zd sz c)).any (fun g=>decide (g<0)) with
 | true=>
   obtain⟨g,hm,hx⟩:=DJ.1 hn;have:=hg g hm;have hx:g<0:=by simpa using hx
   have:g = -1:=by omega
   subst this;exact FQ.2 hm
 | false=>
   cases hcn:(gAt gs (zd sz c)).contains (-1) with
   | false=>rfl
   | true=>
     have:=List.any_eq_false.1 hn _ (FQ.1 hcn);simp at this
theorem jO8 {gs:List (List Int)} {at_:List Int} {j:Nat} (h:j<gs.length) (h2:j<at_.length):(gAt gs at_)[j]'(by unfold gAt;rw[List.length_zipWith];omega)=gs[j].getD at_[j].toNat 0:=by
 unfold gAt;simp
def atO (gs:List (List Int)) (pl:List Int) (j:Nat):List Int:=(gAt gs pl).take j++pl.drop j
theorem jq0 {gs:List (List Int)} {pl:List Int} {j:Nat} (h:gs.length=pl.length) (hj:j≤pl.length):(atO gs pl j).length=pl.length:=by
 unfold atO gAt;rw[AW,Cz,List.length_zipWith,List.length_drop];omega
theorem jO9 {gs:List (List Int)} {pl:List Int} {j:Nat} (h:gs.length=pl.length) (hj:j<pl.length):(atO gs pl j)[j]'(by rw[jq0 h oM];exact hj)=pl[j]:=by
 have hl:((gAt gs pl).take j).length=j:=by unfold gAt;rw[Cz,List.length_zipWith];omega
 unfold atO;rw[List.getElem_append_right oM];simp only[hl,Nat.sub_self,List.getElem_drop,Nat.add_zero]
theorem jP0 {gs:List (List Int)} {pl:List Int} {j:Nat} (h:gs.length=pl.length) (hj:j<pl.length):(atO gs pl j).set j ((gs[j]'oM).getD pl[j].toNat 0)=atO gs pl (j+1):=by
 have hz:j<(gAt gs pl).length:=by unfold gAt;rw[List.length_zipWith];omega
 have hl:((gAt gs pl).take j).length=j:=by rw[Cz];omega
 unfold atO;rw[List.set_append_right _ _ oM,hl,Nat.sub_self,List.drop_eq_getElem_cons hj,List.set_cons_zero,qy hz,Dj,jO8 oM hj]
 rfl
theorem jP1 {gs:List (List Int)} {pl:List Int} (h:gs.length=pl.length):atO gs pl pl.length=gAt gs pl:=by
 have hl:(gAt gs pl).length=pl.length:=by unfold gAt;rw[List.length_zipWith];omega
 unfold atO;rw[List.drop_length,CW,← hl,Bw]
def ofL (sz:List Int) (gs:List (List Int)) (n:Nat):List Int:=(kD n).map (ofS sz gs)
theorem jq1 (sz:List Int) (gs:List (List Int)) (n:Nat):(ofL sz gs n).length=n:=by simp [ofL,kD]
theorem jA7 (sz:List Int) (gs:List (List Int)) (n:Nat):ofL sz gs (n+1)=ofL sz gs n++[ofS sz gs n]:=by
 unfold ofL;rw[qP9,By]
 rfl
theorem jP2 {sz:List Int} {gs:List (List Int)} {n i:Nat} (h:i<(ofL sz gs n).length):(ofL sz gs n)[i]=ofS sz gs i:=by simp [ofL,kD]
theorem qk4 {sz:List Int} {gs:List (List Int)} (hv:VwOk sz gs):Sp 175 [spT sz,vwT gs] [] (vIs (ofL sz gs (qX sz).toNat)) []:=by
 have hvl:=hv.len;have hvs:=hv.sp.len;have hp:=hv.sp.prod;have hgl:(gs.map gN).length=gs.length:=BY _;refine sIr qd3 fun e _ hst=>?_;unfold kX;refine sW ?_;refine C1.shut [] (JP hv) ?_ rF rfl ?_
 ·simp only[tL,simprocAttr]
 refine sW ?_;refine C1.im (Qw sz hv.sp.all hvs.2) rfl rF ?_;refine sW ?_;obtain⟨N,hN⟩:∃ N:Nat,qX sz=N:=⟨(qX sz).toNat,oM⟩;rw[hN,Ax];refine qt mixm (α:=Nat) [6,16] (fun c=>c≤N) (fun c=>[(6,.asl 1 (ofL sz gs c).length),(16,vI c)]) (fun c=>[aR 4096 1 [spT sz],aR 4100 1 [vwT gs],aR 1 1 ((ofL sz gs c).map vI)]) (fun c=>N-c) 0 oM ?_ fun c hc=>?_
 ·exact .oA [uI 4096,uI 4100,(1,none)] []
 simp only[tZ,↓uU,simprocAttr,AZ,Ay];refine⟨fun h=>?_,fun h=>?_⟩
 ·have hwc:=qh (i:=c) oM;refine C1.fresh 28684 (qM1 sz c hv.sp.all hvs.2 oM) rF (by apply qV;intro _;exact⟨rfl,rfl⟩) rfl ?_;refine sW ?_;obtain⟨P,hP⟩:∃ P,P=zd sz c:=⟨_,rfl⟩;have hPl:P.length=sz.length:=by rw[hP,ZM]
  have hPr:=(jg hv.sp.all (show (0:Int)≤(c:Int) by omega)).1;rw[← hP] at hPr ⊢
  refine⟨hPl,?_⟩;refine qt mixm (α:=Nat) [25] (fun j=>j≤sz.length) (fun j=>[(25,vI j)]) (fun j=>[aR 4096 1 [spT sz],aR 4100 1 [vwT gs],aR 1 1 ((ofL sz gs c).map vI),aR 28684 1 ((atO gs P j).map vI)]) (fun j=>sz.length-j) 0 oM ?_ fun j hj=>?_
  ·have:atO gs P 0=P:=by simp [atO]
   rw[this];exact .oA (U4 4096 4100 1 28684) []
  have hAl:=jq0 (gs:=gs) (pl:=P) (j:=j) oM oM;simp only[tZ,↓uU,simprocAttr,AZ,Ay];refine⟨fun h=>?_,fun h=>?_⟩
  ·have hjp:j<P.length:=by omega
   have hjg:j<gs.length:=by omega
   have hja:j<(atO gs P j).length:=by omega
   have hgj:=hv.g hjg;have hr:=zd3 hPr (i:=j) oM hjp;have hsz:=(hv.get (i:=j) oM).1;have hag:=jO9 (gs:=gs) (pl:=P) (j:=j) oM hjp;have hk:P[j].toNat<gs[j].length:=by omega
   have hset:=jP0 (gs:=gs) (pl:=P) (j:=j) oM hjp;rw[qg hk] at hset;have hj2:j<sz.length:=by omega
   have hwj:=qh (i:=j) oM;simp only[tZ,↓uU,simprocAttr,Ax,qd hj2,hwj,qd hja,hag,qd hjg,qd hk,show ∀ a b:Int,repl (vI a) 0 (vI b)=vI b from fun _ _=>rfl];rw[← List.map_set,hset];refine⟨oM,oM,oM,oM,oM,oM,j+1,oM,oM,?_⟩;exact .oA (U4 4096 4100 1 28684) []
  ·have hj2:j=sz.length:=by omega
   subst hj2;have hE:=jP1 (gs:=gs) (pl:=P) oM;rw[hPl] at hE;rw[hE] at hAl ⊢
   have hco:=zB3 hv (c:=c) oM;rw[← hP] at hco;refine C1.lend [28684] (KU (gAt gs P) (-1) oM) ?_ rF rF ?_
   ·all_goals (try exact clA)
   simp only[tZ,↓uU,simprocAttr,hco];have hlN:=jq1 sz gs c;have hlS:=jA7 sz gs c;refine⟨fun h3=>?_,fun h3=>?_⟩
   ·have ho:ofS sz gs c = -1:=by
     unfold ofS;rw[← hP,Aj h3]
    rw[ho] at hlS;refine⟨oM,c+1,oM,oM,?_⟩;refine .of (U3 4096 4100 1) [] rfl (by first | rfl | (rw[hst];rfl)) ?_ ?_
    all_goals (try simp only[tL,simprocAttr,By,List.map_cons,List.map_nil,BW,Cy,hlS,hwc,AW,CJ,Cw])
    all_goals (try (exact clA))
   ·have ho:ofS sz gs c=numL (gs.map gN) (gAt gs P):=by
     unfold ofS;rw[← hP,Aq (by rw[h3];simp)]
    have hin:=(jj6 hv.len hv.ok (jg hv.sp.all (show (0:Int)≤(c:Int) by omega)).1).2.1;rw[← hP] at hin;refine C1.lend [28684] (qM0 (gs.map gN) (gAt gs P) hv.gsz oM (hin h3)) ?_ rF rF ?_
    ·all_goals (try exact clA)
    rw[← ho];refine sW ?_;refine⟨oM,c+1,oM,oM,?_⟩;refine .of (U3 4096 4100 1) [] rfl (by first | rfl | (rw[hst];rfl)) ?_ ?_
    all_goals (try simp only[tL,simprocAttr,By,List.map_cons,List.map_nil,BW,Cy,hlS,hwc,AW,CJ,Cw])
    all_goals (try (exact clA))
 ·have hc2:c=N:=by omega
  subst hc2;exact .oA [] [1]
theorem jq2 (sz:List Int) (gs:List (List Int)) (k:Int) (i:Nat):(kD (i+1)).filter (fun c=>ofS sz gs c==k)=(kD i).filter (fun c=>ofS sz gs c==k)++(if ofS sz gs i=k then [(i:Int)] else []):=by
 rw[qP9,FY]
 congr 1
 by_cases h:ofS sz gs i=k
 ·simp [h]
 ·simp [h]
theorem qC3 {sz:List Int} {gs:List (List Int)} (k:Int) (hl:sz.length<4611686018427387904) (hg:gs.length<4611686018427387904) (hgl:∀ g∈gs,g.length<1000000) :
 Sp 158 [spT sz,vwT gs,vI k] [] (.tup [vIs (zz1 sz gs k).1,vI (zz1 sz gs k).2]) []:=by
 refine sIr qp1 fun e _ hst=>?_;unfold yk;refine sW ?_;refine C1.shut [] (Wa sz gs hl hg hgl) ?_ rF rfl ?_
 ·simp only[tL,simprocAttr]
 simp only[tZ,↓uU,simprocAttr,Bj,Aw];refine⟨fun h=>?_,fun h=>?_⟩
 ·rw[zz1,Aj h];exact .oA [] []
 have hv:=Wj.1 h;have hgm:(gs.map gN).length≤4:=by have:=hv.len;have:=hv.sp.len;rw[BY];omega
 have hcs:=JP hv;have hcp:=Qw (gs.map gN) hv.gsz hgm;rw[show qX (gs.map gN)=pubN gs from rfl] at hcp;have hmA:zz1 sz gs k=if k<0∨k≥pubN gs then ([],2) else (YA sz gs k,0):=by rw[zz1,Aq (fun e=>e h)]
 rw[hmA];refine C2.im (fun _=>hcs) (fun _=>rfl) rF ?_;refine sW ?_;refine C2.im (fun _=>hcp) (fun _=>rfl) rF ?_;refine sD ?_;refine⟨fun h2=>?_,fun h2=>?_⟩
 ·rw[Aj oM];exact .oA [] []
 rw[Aq oM];refine C1.shut [] (qk4 hv) ?_ rF rfl ?_
 ·simp only[tL,simprocAttr]
 refine sW ?_;have hp:=hv.sp.prod;obtain⟨N,hN⟩:∃ N:Nat,qX sz=N:=⟨(qX sz).toNat,oM⟩;unfold YA;rw[hN,Ax];have hlN:=jq1 sz gs N;refine qt mixm (α:=Nat) [9,31] (fun i=>i≤N) (fun i=>[(9,.asl 1 ((kD i).filter fun c=>ofS sz gs c==k).length),(31,vI i)]) (fun i=>[aR 1 1 (((kD i).filter fun c=>ofS sz gs c==k).map vI)]) (fun i=>N-i) 0 oM ?_ fun i hi=>?_
 ·exact .oA [(1,none)] []
 simp only[tZ,↓uU,simprocAttr,tD,hlN];refine⟨fun h3=>?_,fun h3=>?_⟩
 ·have hi3:i<(ofL sz gs N).length:=by omega
  have hms:=jq2 sz gs k i;have hfl:=Fx (fun c=>ofS sz gs c==k) (kD i);rw[qy8] at hfl;have hwi:=qh (i:=i) oM;simp only[tZ,↓uU,simprocAttr,Ax,qd hi3,jP2,AY,Ak,hlN,hwi];refine⟨oM,fun h4=>?_,fun h4=>?_⟩
  ·rw[Aj h4] at hms;refine⟨oM,i+1,oM,oM,?_⟩;refine .of (U1 1) [] rfl (by first | rfl | (rw[hst];rfl)) ?_ ?_
   all_goals (try simp only[tL,simprocAttr,By,List.map_cons,List.map_nil,BW,Cy,hms,AW,CJ,Cw])
   all_goals (try (exact clA))
  ·rw[Aq h4,CW] at hms;refine⟨i+1,oM,oM,?_⟩;refine .of (U1 1) [] rfl (by first | rfl | (rw[hst];rfl)) ?_ ?_
   all_goals (try simp only[tL,simprocAttr,By,List.map_cons,List.map_nil,BW,Cy,hms])
   all_goals (try (exact clA))
 ·have hi2:i=N:=by omega
  subst hi2;exact .oA [] [1]
abbrev rlsT (r:Rls):T:=.agg [vI r.num,vvIs r.gs,vIs r.vals]
abbrev vRs (l:List Rls):T:=.sl 3 (l.map rlsT)
abbrev eqnT (x:Eqn):T:=.agg [vIs x.cells,vI x.val]
abbrev vQs (l:List Eqn):T:=.sl 2 (l.map eqnT)
structure RlsSm (r:Rls):Prop where
 gs:r.gs.length<1000000
 g:∀ g∈r.gs,g.length<1000000
 vals:r.vals.length<1000000
theorem wC (n:Int):Sp 57 [vI n] [] (vB (okV n)) []:=by
 refine sIr qc3 fun e _ hst=>?_;unfold kQ;refine sW ?_;refine .imR ?_ rfl
 first | rfl | (unfold okV;by_cases h:n≥0 <;> simp [h])
theorem YU (n:Int):Sp 174 [vI n] [] (vB (!zz2 n)) []:=by
 have hv:=wC n;refine sIr WB fun e _ hst=>?_;unfold jU;refine sW ?_;refine C2.im (fun _=>hv) (fun _=>rfl) rF ?_;refine sW ?_;refine .imR ?_ rfl;unfold zz2;cases okV n <;> simp [bne]
theorem jq3 {p:Int→Bool} (l:List Int):(l.any fun n=>!p n)=!(l.all p):=by
 induction l with
 | nil=>rfl
 | cons x r ih=>simp only[List.any_cons,List.all_cons,ih];cases p x <;> simp
theorem qk5 (sz:List Int) (r:Rls) (b:Int) (hl:sz.length<4611686018427387904) (hr:RlsSm r):Sp 157 [spT sz,rlsT r,vI b] [] (vI (rlsE sz r b)) []:=by
 have hr1:=hr.gs;have hr3:=hr.vals;refine sIr qd1 fun e _ hst=>?_;unfold kW;refine sD ?_;refine⟨fun h=>?_,fun h=>?_⟩
 ·rw[rlsE,Aj oM];exact .oA [] []
 refine C1.shut [] (Wa sz r.gs hl oM hr.g) ?_ rF rfl ?_
 ·simp only[tL,simprocAttr]
 simp only[tZ,↓uU,simprocAttr,Bj,Aw];refine⟨fun h2=>?_,fun h2=>?_⟩
 ·rw[rlsE,Aq oM,Aj h2];exact .oA [] []
 have hpub:Qo sz r.gs=pubN r.gs:=by rw[Qo,Aj h2]
 refine C1.shut [] (ZU sz r.gs hl oM hr.g) ?_ rF rfl ?_
 ·simp only[tL,simprocAttr]
 simp only[tZ,↓uU,simprocAttr,Bj,Aw,hpub];refine⟨kR,fun h3=>?_,fun h3=>?_⟩
 ·rw[rlsE,Aq oM,Aq (fun e=>e h2),Aj h3];exact .oA [] []
 refine C1.shut [] (ka (fun n=>!zz2 n) 174 [] rfl r.vals (fun n _=>YU n) oM) ?_ rF rfl ?_
 ·all_goals (try exact clA)
 rw[jq3];simp only[tZ,↓uU,simprocAttr,Bx,Bz];refine⟨fun h4=>?_,fun h4=>?_⟩
 ·rw[rlsE,Aq oM,Aq (fun e=>e h2),Aq (fun e=>e h3),Aj h4];exact .oA [] []
 ·rw[rlsE,Aq oM,Aq (fun e=>e h2),Aq (fun e=>e h3),Aq (by rw[h4];simp)];exact .oA [] []
theorem qk6 (sz:List Int) (l:List Rls) (hl:sz.length<4611686018427387904) (hll:l.length<4611686018427387904) (hr:∀ r∈l,RlsSm r):Sp 112 [spT sz,vRs l] [] (vI (rlsC sz l)) []:=by
 refine sIr qc7 fun e _ hst=>?_;unfold kU;refine sW ?_;refine C1.shut [] (JO sz hl) ?_ rF rfl ?_
 ·simp only[tL,simprocAttr]
 simp only[tZ,↓uU,simprocAttr,Bj,Aw,tD];refine⟨fun h=>?_,fun h=>⟨fun h2=>?_,fun h2=>?_⟩⟩
 ·rw[rlsC,Aj h];exact .oA [] []
 ·rw[rlsC,Aq (fun e=>e h),Aj oM];exact .oA [] []
 have hC:rlsC sz l=rlsF sz l (-1):=by rw[rlsC,Aq (fun e=>e h),Aq oM]
 rw[hC];obtain⟨bf,hbf⟩:∃ bf:Nat→Int,bf=fun i=>if i=0 then -1 else (l.getD (i-1) default).num:=⟨_,rfl⟩
 refine qt mixm (α:=Nat) [6,20] (fun i=>i≤l.length∧(rlsF sz (l.take i) (-1)=0)) (fun i=>[(6,vI (bf i)),(20,vI i)]) (fun i=>[aR 4096 1 [spT sz]]) (fun i=>l.length-i) 0 ⟨oM,?_⟩ ?_ fun i hi=>?_
 ·simp [rlsF]
 ·rw[hbf];exact .oA (U1 4096) []
 simp only[tZ,↓uU,simprocAttr,AZ,Ay];refine⟨fun h=>?_,fun h=>?_⟩
 ·have hri:=hr _ (AX (show i<l.length by omega));have hsn:=zn9 (sz:=sz) (show i<l.length by omega) hi.2;have hb1:bf (i+1)=(l[i]'oM).num:=by rw[hbf];simp only[Nat.add_sub_cancel];rw[Aq oM,qg oM]
  rw[show (if i=0 then (-1:Int) else (l.getD (i-1) default).num)=bf i by rw[hbf]] at hsn;have hi2:i<l.length:=by omega
  have hwi:=qh (i:=i) oM;simp only[tZ,↓uU,simprocAttr,Ax,qd hi2,hwi];refine⟨oM,?_⟩;refine C1.shut [] (qk5 sz l[i] (bf i) hl hri) ?_ rF rfl ?_
  ·simp only[tL,simprocAttr]
  rw[← hsn];simp only[tZ,↓uU,simprocAttr,Bj,Aw];refine⟨fun h3=>?_,fun h3=>⟨i+1,⟨oM,h3⟩,oM,?_⟩⟩
  ·rw[qQ1 h3];exact .oA [] []
  ·rw[← hb1];exact .oA (U1 4096) []
 ·have hi2:i=l.length:=by omega
  subst hi2;have h3:=hi.2;rw[Bw] at h3;rw[h3];exact .oA [] []
theorem zd4 (sz:List Int) (r:Rls) (i:Nat):(wz sz r.gs (r.vals.take i) 0).length≤r.vals.length:=FZ (qy9 _ _ _ _) (by rw[Cz];omega)
theorem qq1 {sz:List Int} {r:Rls} {b:Int} (hr:RlOk sz r b) (hsm:RlsSm r):Sp 113 [spT sz,rlsT r] [] (vQs (tell sz r)) []:=by
 have hr3:=hsm.vals;have hlen:=hr.len;have hvs:=hr.vw.sp.len;have hgl:=hr.vw.len;refine sIr qi2 fun e _ hst=>?_;unfold wx;refine sW ?_;obtain⟨q,hq⟩:∃ q:Nat→List Eqn,q=fun i=>wz sz r.gs (r.vals.take i) 0:=⟨_,rfl⟩;have hq0:q 0=[]:=by rw[hq];simp [wz]
 have hqe:q r.vals.length=tell sz r:=by rw[hq];simp only[Bw,tell]
 have hql:∀ i,(q i).length≤r.vals.length:=fun i=>by rw[hq];exact zd4 sz r i
 refine qt mixm (α:=Nat) [5,13] (fun i=>i≤r.vals.length) (fun i=>[(5,.asl 1 (q i).length),(13,vI i)]) (fun i=>[aR 4096 1 [spT sz],aR 4100 3 [rlsT r],aR 1 2 ((q i).map eqnT)]) (fun i=>r.vals.length-i) 0 oM ?_ fun i hi=>?_
 ·rw[hq0];exact .oA [uI 4096,uI 4100,(1,none)] []
 have hqi:=hql i;simp only[tZ,↓uU,simprocAttr,AZ,Ay];refine⟨fun h=>?_,fun h=>?_⟩
 ·have hsn:=jj9 (sz:=sz) (gs:=r.gs) (show i<r.vals.length by omega);rw[show wz sz r.gs (r.vals.take i) 0=q i by rw[hq],show wz sz r.gs (r.vals.take (i+1)) 0=q (i+1) by rw[hq]] at hsn;have hi2:i<r.vals.length:=by omega
  have hwi:=qh (i:=i) oM;simp only[tZ,↓uU,simprocAttr,Ax,qd hi2,hwi,AY,Ak];refine⟨oM,fun h3=>?_,fun h3=>?_⟩
  ·rw[Aj h3,CW] at hsn;refine⟨i+1,oM,oM,?_⟩;rw[hsn];exact .oA (U3 4096 4100 1) []
  ·rw[Aq h3] at hsn;have hm:zz1 sz r.gs i=(YA sz r.gs i,0):=by
    rw[zz1,Aq (fun e=>e (Wj.2 hr.vw)),Aq oM]
   refine C1.shut [] (qC3 (sz:=sz) (gs:=r.gs) (i:Int) oM oM hsm.g) ?_ rF rfl ?_
   ·simp only[tL,simprocAttr]
   rw[hm];refine sW ?_;refine⟨oM,i+1,oM,oM,?_⟩;rw[hsn];exact .oA (U3 4096 4100 1) []
 ·have hi2:i=r.vals.length:=by omega
  subst hi2;rw[hqe];exact .oA [] [1]
theorem zt8 {sz:List Int}:∀ {l:List Rls},(∀ r∈l,RlsSm r)→(KP sz l).length≤l.length*1000000
 | [],_=>by simp [KP]
 | r::l,h=>by
   have e:KP sz (r::l)=tell sz r++KP sz l:=by simp [KP]
   have h4:=zt8 (sz:=sz) (l:=l) fun x hx=>h x (CQ _ hx);have h6:=qy9 sz r.gs r.vals 0;have h7:=(h r sMp).vals;rw[e,AW,CJ];unfold tell;omega
theorem qC4 (sz:List Int) (l:List Rls) (hl:sz.length<4611686018427387904) (hll:l.length<4611686018427387904) (hr:∀ r∈l,RlsSm r) :
 Sp 63 [spT sz,vRs l] [] (.tup [vQs (allA sz l).1,vI (allA sz l).2]) []:=by
 refine sIr qn9 fun e _ hst=>?_;unfold ya;refine sW ?_;refine C1.shut [] (qk6 sz l hl hll hr) ?_ rF rfl ?_
 ·all_goals (try exact clA)
 simp only[tZ,↓uU,simprocAttr,Bj,Aw];refine⟨fun h=>?_,fun h=>?_⟩
 ·rw[allA,Aj h];exact .oA [] []
 obtain⟨h1,h2,h3⟩:=jx1 h;rw[allA,Aq (fun e=>e h)];have hlen:∀ i,(KP sz (l.take i)).length≤24000000:=fun i=>by
  have:=zt8 (sz:=sz) (l:=l.take i) fun x hx=>hr x (EX hx);rw[Cz] at this;omega
 refine qt mixm (α:=Nat) [7,18] (fun i=>i≤l.length) (fun i=>[(7,.asl 1 (KP sz (l.take i)).length),(18,vI i)]) (fun i=>[aR 4096 1 [spT sz],aR 1 2 ((KP sz (l.take i)).map eqnT)]) (fun i=>l.length-i) 0 oM ?_ fun i hi=>?_
 ·exact .oA [uI 4096,(1,none)] []
 have hli:=hlen i;simp only[tZ,↓uU,simprocAttr,AZ,Ay];refine⟨fun h=>?_,fun h=>?_⟩
 ·have hsn:=zR8 (sz:=sz) (show i<l.length by omega);have hok:=h3 _ (AX (show i<l.length by omega));have hsm:=hr _ (AX (show i<l.length by omega));have hi2:i<l.length:=by omega
  have hwi:=qh (i:=i) oM;simp only[tZ,↓uU,simprocAttr,Ax,qd hi2,hwi];refine⟨oM,?_⟩;refine C1.shut [] (qq1 hok hsm) ?_ rF rfl ?_
  ·simp only[tL,simprocAttr]
  have hli2:=hlen (i+1);rw[hsn,AW] at hli2;simp only[tZ,↓uU,simprocAttr,BY];refine⟨oM,i+1,oM,oM,?_⟩;rw[hsn];exact .oA (U2 4096 1) []
 ·have hi2:i=l.length:=by omega
  subst hi2;rw[Bw];exact .oA [] [1]
theorem WF (n:Int):Sp 65 [vI n] [] (vB (!okV n)) []:=by
 refine sIr Ky fun e _ hst=>?_;unfold jC;refine sW ?_;refine C1.im (wC n) rfl rF ?_;refine sW ?_;exact .oA [] []
theorem jq4 {l:List Eqn} {t:List Int} {i:Nat} (h:i<l.length) (hf:agr1 t l[i]=false):JS l t=false:=by
 unfold JS;rw[FJ];right
 rw[List.all_eq_false];exact⟨l[i],AX h,by simp [hf]⟩
def inT (t:List Int) (k:Int):Bool:=decide (0≤k)&&decide (k<(t.length:Int))
theorem jP3 (t:List Int) (x:Eqn):agr1 t x=(x.cells.all (inT t)&&(sumT t x.cells==x.val)):=rfl
theorem wd (l:List Eqn) (t:List Int) (hl:l.length<4611686018427387904) (ht:t.length<4611686018427387904) (hx:∀ x∈l,x.cells.length<1000000):Sp 22 [vQs l,vIs t] [] (vB (JS l t)) []:=by
 refine sIr Yb fun e _ hst=>?_;unfold kj;refine sW ?_;refine C1.shut [] (ka (fun n=>!okV n) 65 [] rfl t (fun n _=>WF n) ht) ?_ rF rfl ?_
 ·all_goals (try exact clA)
 rw[jq3];simp only[tZ,↓uU,simprocAttr,Bx,Bz];refine⟨fun hk0=>?_,fun hk0=>?_⟩
 ·have:JS l t=false:=by unfold JS;rw[hk0];rfl
  rw[this];exact .oA [] []
 refine qt mixm (α:=Nat) [14] (fun i=>i≤l.length∧((l.take i).all (agr1 t)=true)) (fun i=>[(14,vI i)]) (fun i=>[]) (fun i=>l.length-i) 0 ⟨oM,?_⟩ ?_ fun i hi=>?_
 ·rfl
 ·exact .oA [] []
 simp only[tZ,↓uU,simprocAttr,AZ,Ay];refine⟨fun h=>?_,fun h=>?_⟩
 ·have hxi:=hx _ (AX (show i<l.length by omega));have hi2:i<l.length:=by omega
  have hwi:=qh (i:=i) oM;simp only[tZ,↓uU,simprocAttr,Ax,qd hi2,hwi];have hbad:agr1 t l[i]=false→JS l t=false:=fun hf=>jq4 hi2 hf;have hgood:agr1 t l[i]=true→(l.take (i+1)).all (agr1 t)=true:=fun hf=>by
   rw[qy hi2,FK,hi.2];simp [hf]
  obtain⟨x,hxd⟩:∃ x,x=l[i]:=⟨_,rfl⟩;rw[← hxd] at hxi hbad hgood ⊢
  refine⟨oM,?_⟩;rw[jP3] at hbad hgood;refine qt mixm (α:=Nat) [7,21] (fun j=>j≤x.cells.length∧((x.cells.take j).all (inT t)=true)) (fun j=>[(7,vI (sumT t (x.cells.take j))),(21,vI j)]) (fun j=>[aR 24584 2 [eqnT x]]) (fun j=>x.cells.length-j) 0 ⟨oM,?_⟩ ?_ fun j hj=>?_
  ·rfl
  ·exact .oA (U1 24584) []
  refine sD ?_;refine⟨fun h5=>?_,fun h5=>?_⟩
  ·have hj2:j<x.cells.length:=by omega
   have hwj:=qh (i:=j) oM;simp only[tZ,↓uU,simprocAttr,Ax,qd hj2,hwj,tD];refine⟨oM,fun h6=>?_,fun h6=>?_⟩
   ·have hf:x.cells.all (inT t)=false:=jp0 hj2 (by simp only[inT,FJ,Ay];omega);rw[hbad (by rw[hf];rfl)];exact .oA [] []
   ·have hk:x.cells[j].toNat<t.length:=by omega
    have hb1:=(qQ0 hk0 (x.cells.take (j+1)));have hsn:=jj8 (t:=t) hj2;rw[qg hk] at hsn;have hlj:(x.cells.take (j+1)).length≤x.cells.length:=by rw[Cz];omega
    have hw:IntKind.i64.wrap (sumT t (x.cells.take j)+t[x.cells[j].toNat])=sumT t (x.cells.take (j+1)):=by
     rw[← hsn,AK _ oM]
    simp only[qd hk];simp only[tZ,↓uU,simprocAttr,hw];refine⟨oM,j+1,⟨oM,?_⟩,oM,?_⟩
    ·rw[qy hj2,FK,hj.2];simp only[List.all_cons,List.all_nil,Bool.and_true,Fq,inT,Bq,AZ];omega
    ·exact .oA (U1 24584) []
  ·have hj2:j=x.cells.length:=by omega
   subst hj2;have h7:=hj.2;rw[Bw] at h7 ⊢
   rw[h7,Fq] at hbad hgood;simp only[tZ,↓uU,simprocAttr,Bj,Aw];refine⟨fun h8=>?_,fun h8=>⟨i+1,⟨oM,hgood (by simpa using h8)⟩,oM,?_⟩⟩
   ·rw[hbad (by simpa using h8)];exact .oA [] []
   ·exact .oA [] []
 ·have hi2:i=l.length:=by omega
  subst hi2;have h3:=hi.2;rw[Bw] at h3;have:JS l t=true:=by unfold JS;rw[hk0,h3];rfl
  rw[this];exact .oA [] []
theorem zt9 (a b:List Int) (ha:a.length<4611686018427387904) (hb:b.length<4611686018427387904):Sp 16 [.sl 1 (a.map vI),.sl 1 (b.map vI)] [] (vB (wM (fun x y:Int=>x==y) a b)) []:=by
 refine sIr qU9 fun e _ hst=>?_;unfold Jf;refine sW ?_;refine⟨fun h=>?_,fun h=>?_⟩
 ·rw[qU4 (by simp at h;omega)];exact .imR rfl rfl
 have hl:a.length=b.length:=by simp at h;omega
 refine qt mixm (α:=Nat) [13] (fun i=>i≤a.length∧(wM (fun x y:Int=>x==y) (a.take i) (b.take i)=true)) (fun i=>[(13,vI i)]) (fun i=>[]) (fun i=>a.length-i) 0 ⟨oM,?_⟩ ?_ fun i hi=>?_
 ·simp [wM]
 ·exact .oA [] []
 simp only[tZ,↓uU,simprocAttr,AZ,Ay];refine⟨fun h=>?_,fun h=>?_⟩
 ·have hib:i<b.length:=by omega
  have hi2:i<a.length:=by omega
  have hwi:=qh (i:=i) oM;simp only[tZ,↓uU,simprocAttr,Ax,qd hi2,hwi,qd hib,Kr];refine⟨oM,oM,kR,fun h3=>?_,fun h3=>⟨i+1,⟨oM,?_⟩,oM,?_⟩⟩
  ·rw[qu8 (i:=i) hl oM (by simpa  using h3)];exact .imR rfl rfl
  ·rw[qh1 hi2 hib,hi.2];simpa  using h3
  ·exact .oA [] []
 ·have h2:i=a.length:=by omega
  subst h2;have h3:=hi.2;rw[Bw,List.take_of_length_le oM] at h3;rw[h3];exact .imR rfl rfl
theorem jq5 (l:List Int):wM (fun x y:Int=>x==y) l l=true:=qP6 (fun x=>by simp) l
theorem zu0 (l:List Eqn) (hl:l.length<4611686018427387904) (hx:∀ x∈l,x.cells.length<4611686018427387904):Sp 43 [vQs l,vQs l] [] (vB true) []:=by
 refine sIr qV5 fun e _ hst=>?_;unfold Ji;simp only[tZ,↓uU,simprocAttr,bne_self_eq_false];refine qt mixm (α:=Nat) [13] (fun i=>i≤l.length) (fun i=>[(13,vI i)]) (fun _=>[]) (fun i=>l.length-i) 0 oM ?_ fun i hi=>?_
 ·exact .oA [] []
 simp only[tZ,↓uU,simprocAttr,AZ,Ay];refine⟨fun h=>?_,fun h=>?_⟩
 ·have hxi:=hx _ (AX (show i<l.length by omega));have hi2:i<l.length:=by omega
  have hwi:=qh (i:=i) oM;simp only[tZ,↓uU,simprocAttr,Ax,qd hi2,hwi,bne_self_eq_false];have hI:=zt9 l[i].cells l[i].cells hxi hxi;rw[jq5] at hI;refine⟨oM,oM,oM,oM,C2.one trivial (C1.im hI rfl rF ?_)⟩;refine sW ?_;refine⟨kR,i+1,oM,oM,?_⟩;exact .oA [] []
 ·exact .oA [] []
theorem WQ (sz:List Int) (r:Rls) (hl:sz.length<4611686018427387904) (hr:RlsSm r) :
 Sp 21 [spT sz,rlsT r] [] (.tup [vQs (allA sz [r]).1,vI (allA sz [r]).2]) []:=by
 refine sIr qv1 fun e _ hst=>?_;unfold yP;refine sW ?_;refine C1.shut [8200] (qC4 sz [r] hl sMp (fun x hx=>by simp only[Ck,List.not_mem_nil,or_false] at hx;rw[hx];exact hr)) ?_ rF rfl ?_
 ·all_goals (try exact clA)
 refine sW ?_;exact .oA [] []
def awR:Rls:=⟨0,[[0,1],[0,0]],[3,-1]⟩
def awQ:List Eqn:=[⟨[0,1],3⟩]
theorem jW9:allA [2,2] [awR]=(awQ,0):=by
 have h1:rlsC [2,2] [awR]=0:=by kernel_rfl
 have h2:KP [2,2] [awR]=awQ:=by kernel_rfl
 rw[allA,Aq (fun e=>e h1),h2]
theorem jX0:JS awQ [1,2,0,0]=true:=by kernel_rfl
theorem jZ3:JS awQ [1,1,0,0]=false:=by kernel_rfl
theorem jX1:RlsSm awR:=⟨by decide,by decide,by decide⟩
theorem qf8:Sp 10 [] [] (vB true) []:=by
 have hOf:=WQ [2,2] awR (by decide) jX1;rw[jW9] at hOf;have hS:=zu0 awQ (by decide) (by decide);have hY:=wd awQ [1,2,0,0] (by decide) (by decide) (by decide);have hN:=wd awQ [1,1,0,0] (by decide) (by decide) (by decide);rw[jX0] at hY;rw[jZ3] at hN;refine sIr qD2 fun e _ hst=>?_;unfold QL;refine sW ?_;refine C1.shutD [8192,12288,12292,12296,12304] hOf ?_ rF rfl ?_
 ·simp [ptw,ltAD,ltD,TL.get,T.cells,imT,imL,awR]
  all_goals (try (repeat' apply Az))
  all_goals (try rfl)
 refine sW ?_;refine C2.lendD [20504,20496] (fun _=>hS) (fun _=>?_) rF rF ?_
 ·simp [ptw,ltAD,ltD,TL.get,T.cells,imT,imL,awQ]
  all_goals (try (repeat' apply Az))
  all_goals (try rfl)
 refine sW ?_;refine C2.lendD [20524] (fun _=>hY) (fun _=>?_) rF rF ?_
 ·simp [ptw,ltAD,ltD,TL.get,T.cells,imT,imL,awQ]
  all_goals (try (repeat' apply Az))
  all_goals (try rfl)
 refine sW ?_;refine C2.lendD [20544] (fun _=>hN) (fun _=>?_) rF rF ?_
 ·simp [ptw,ltAD,ltD,TL.get,T.cells,imT,imL,awQ]
  all_goals (try (repeat' apply Az))
  all_goals (try rfl)
 refine sW ?_;exact .oA [] []
theorem zT7 {sz:List Int} {l:List Rls} (h:SpOk sz):∀ x∈KP sz l,x.cells.length≤48:=by
 have key:∀ (gs:List (List Int)) (vs:List Int) (k:Nat),∀ x∈wz sz gs vs k,x.cells.length≤48:=by
  intro gs vs
  induction vs with
  | nil=>intro k x hx;simp [wz] at hx
  | cons n vs ih=>
    intro k x hx;simp only[wz] at hx;split at hx
    ·exact ih _ x hx
    ·rcases Ck.1 hx with rfl | hx
     ·exact jx0 h _
     ·exact ih _ x hx
 intro x hx;obtain⟨r,_,hx⟩:=Ek.1 hx;exact key _ _ _ x hx
end Go.Proofs
