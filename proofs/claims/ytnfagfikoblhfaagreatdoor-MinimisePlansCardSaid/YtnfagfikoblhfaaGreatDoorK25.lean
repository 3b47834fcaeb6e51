/- A part of the proof: trees of Go values, short forms, contracts. -/
import Derived.Test.YtnfagfikoblhfaaGreatDoorK24
namespace Go.Proofs
open Go Go.TL
open Go.TL.So
set_option maxHeartbeats 2000000
noncomputable def Ql (xs:List Int) (a b:Nat):Nat×Int:=
 open Classical in if h:a+12<b∧b≤xs.length∧xs.length<65536 then Classical.choose (zQ xs a b h.1 h.2.1 oM) else (a,0)
noncomputable def QY (xs:List Int) (a b:Nat):List Int:=
 open Classical in if h:a≤b∧b≤xs.length∧xs.length<65536 then Classical.choose (zr xs a b h.1 h.2.1 h.2.2) else xs
theorem zD0 (xs:List Int) (a b:Nat) (h1:a+12<b) (h2:b≤xs.length):a≤(Ql xs a b).1∧(Ql xs a b).1<b:=by
 unfold Ql;split
 ·rename_i h;exact (Classical.choose_spec (zQ xs a b h.1 h.2.1 oM)).1
 ·exact⟨BZ _,by show a<b;omega⟩
theorem js8 (xs:List Int) (a b:Nat) (h1:a≤b) (h2:b≤xs.length):Sw a b xs (QY xs a b):=by
 unfold QY;split
 ·rename_i h;exact (Classical.choose_spec (zr xs a b h.1 h.2.1 h.2.2)).1
 ·exact .refl xs
theorem zh4 (xs:List Int) (a b:Nat):(QY xs a b).length=xs.length:=by
 unfold QY;split
 ·rename_i h;exact (Classical.choose_spec (zr xs a b h.1 h.2.1 h.2.2)).1.len
 ·rfl
theorem jC7 (xs:List Int) (a b:Nat) (h1:a+12<b) (h2:b≤xs.length) (h3:xs.length<65536) :
 Sp 270 [.asl 0 xs.length,vI a,vI b] [aR 0 1 (xs.map vI)] (.tup [vI (Ql xs a b).1,vI (Ql xs a b).2]) [aR 0 1 (xs.map vI)]:=by
 unfold Ql;rw[dif_pos ⟨h1,h2,h3⟩];exact (Classical.choose_spec (zQ xs a b h1 h2 oM)).2
theorem jC8 (xs:List Int) (a b:Nat) (h1:a≤b) (h2:b≤xs.length) (h3:xs.length<65536) :
 Sp 269 [.asl 0 xs.length,vI a,vI b] [aR 0 1 (xs.map vI)] (.tup []) [aR 0 1 ((QY xs a b).map vI)]:=by
 unfold QY;rw[dif_pos ⟨h1,h2,h3⟩];exact (Classical.choose_spec (zr xs a b h1 h2 h3)).2
theorem JY:∀ (F:Nat) (xs:List Int) (a b lim:Nat),a≤b→b≤xs.length→xs.length<65536→b<a+F→lim<1000→
 Sp 250 [.asl 0 xs.length,vI a,vI b,vI lim] [aR 0 1 (xs.map vI)] (.tup []) [aR 0 1 ((pdq ltI Ql QY F xs a b lim true true).map vI)]:=by
 intro F
 induction F using Nat.strongRecOn with
 | ind F ih=>
 intro xs a b lim hab hb hl hf hlim;refine Qo [10,15,17] ZP mixm sMp fun e _ hst=>qy8 ?_;unfold jh;simp only[Wf,List.contains_cons,List.contains_nil,Nat.reduceBEq,Bool.or_false,Bool.or_true,Bool.true_or,Bool.false_or,cond_true,cond_false];refine sW ?_;generalize hR:pdq ltI Ql QY F xs a b lim true true=R;refine qt mixm (α:=List Int×Nat×Nat×Nat×Bool×Bool×Nat) [1,2,3,8,9] (fun q=>q.1.length=xs.length∧q.2.1≤q.2.2.1∧q.2.2.1≤xs.length∧q.2.2.1<q.2.1+q.2.2.2.2.2.2∧q.2.2.2.2.2.2≤F∧q.2.2.2.1<1000∧pdq ltI Ql QY q.2.2.2.2.2.2 q.1 q.2.1 q.2.2.1 q.2.2.2.1 q.2.2.2.2.1 q.2.2.2.2.2.1=R)
  (fun q=>[(1,vI q.2.1),(2,vI q.2.2.1),(3,vI q.2.2.2.1),(8,vB q.2.2.2.2.1),(9,vB q.2.2.2.2.2.1)]) (fun q=>[aR 0 1 (q.1.map vI)]) (fun q=>q.2.2.2.2.2.2) (xs,a,b,lim,true,true,F) ⟨rfl,hab,hb,hf,BZ _,hlim,hR⟩ ?_ fun q hq=>?_
 ·exact .oA (U1 0) []
 clear hR hf hlim;obtain⟨ys,a,b,lim,wb,wp,g⟩:=q;obtain⟨h1,h2,h3,h4,h5,h6,h7⟩:=hq;dsimp only at h1 h2 h3 h4 h5 h6 h7;dsimp only;obtain⟨g,rfl⟩:∃ k,g=k+1:=⟨g-1,oM⟩;have hw1:IntKind.i64.wrap ((b:Int)-a)=((b-a:Nat):Int):=by rw[AK _ oM];omega
 rw[pdq] at h7;simp only[tZ,↓uU,simprocAttr,AZ,Ay,hw1];refine⟨fun h8=>?_,fun h8=>?_⟩
 ·rw[Aj oM] at h7;refine C1.upd 0 1 _ _ (Qd ys a b h2 oM oM) rF (by apply qw;intro _;exact⟨rfl,rfl⟩) (by apply qw;intro _;exact⟨rfl,rfl⟩) (by rw[h1];exact kK _ _ rF) rF ?_;refine sW ?_;rw[← h7];exact .oA (U1 0) []
 rw[Aq oM] at h7;refine⟨fun h9=>?_,fun h9=>?_⟩
 ·have h9:=AY.1 h9;rw[Aj oM] at h7;refine C1.upd 0 1 _ _ (ZU ys a b oM oM oM) rF (by apply qw;intro _;exact⟨rfl,rfl⟩) (by apply qw;intro _;exact⟨rfl,rfl⟩) (by rw[h1];exact kK _ _ rF) rF ?_;refine sW ?_;rw[← h7];exact .oA (U1 0) []
 have h9:=Ak.1 h9;rw[Aq oM] at h7;obtain⟨x,l2,hx,hl2,h10⟩:∃ (x:List Int) (l2:Nat),(x=if wb=true then ys else QY ys a b)∧(l2=if wb=true then lim else lim-1)∧pdqP ltI Ql (pdq ltI Ql QY g) x a b l2 wb wp=R:=by
  refine⟨_,_,rfl,rfl,?_⟩;rw[← h7];cases wb <;> rfl
 clear h7;have hll:IntKind.i64.wrap ((lim:Int)-1)=((lim-1:Nat):Int):=by rw[AK _ oM];omega
 have hxl:x.length=xs.length:=by
  rw[hx];split
  ·exact h1
  ·rw[zh4];exact h1
 have hl3:l2<1000:=by rw[hl2];split <;> omega
 have cbr:=jC8 ys a b h2 oM oM;apply mid
 ·intro key;refine⟨fun h=>?_,fun h=>?_⟩
  ·have hx':x=QY ys a b:=by rw[hx,h];rfl
   have hl':l2=lim-1:=by rw[hl2,h];rfl
   refine C1.upd 0 1 _ _ cbr rF (by apply qw;intro _;exact⟨rfl,rfl⟩) (by apply qw;intro _;exact⟨rfl,rfl⟩) (by rw[h1];exact kK _ _ rF) rF ?_;simp only[tZ,↓uU,simprocAttr,hll];refine W_le [(0,.asl 0 xs.length),(1,vI a),(2,vI b),(3,vI l2),(8,vB wb),(9,vB wp),(10,vI (b-a:Nat))] [aR 0 1 (x.map vI)] ?_ key;rw[hx',hl'];exact .oA (U1 0) []
  ·rw[Bz] at h;have hx':x=ys:=by rw[hx,h];rfl
   have hl':l2=lim:=by rw[hl2,h];rfl
   refine W_le [(0,.asl 0 xs.length),(1,vI a),(2,vI b),(3,vI l2),(8,vB wb),(9,vB wp),(10,vI (b-a:Nat))] [aR 0 1 (x.map vI)] ?_ key;rw[hx',hl'];exact .oA (U1 0) []
 clear hx hl2 hll h9 h1;have hcp:=zD0 x a b oM oM;have hcc:=jC7 x a b oM oM oM;rw[pdqP] at h10;generalize Ql x a b=cq at *
 obtain⟨p0,h0⟩:=cq;dsimp only at hcp hcc h10;have hwb1:IntKind.i64.wrap ((b:Int)-1)=((b-1:Nat):Int):=by rw[AK _ oM];omega
 have hwpa:IntKind.i64.wrap ((p0:Int)-(a:Int))=((p0-a:Nat):Int):=by rw[AK _ oM];omega
 have hwpb:IntKind.i64.wrap (((b-1:Nat):Int)-((p0-a:Nat):Int))=((b-1-(p0-a):Nat):Int):=by rw[AK _ oM];omega
 obtain⟨y,pv,hint,hy,hpv,hhint,h11⟩:∃ (y:List Int) (pv:Nat) (hint:Int),(y=if h0=2 then rvs (b-a) a (b-1) x else x)∧(pv=if h0=2 then b-1-(p0-a) else p0)∧(hint=if h0=2 then 1 else h0)∧pdqH ltI (pdq ltI Ql QY g) y a b pv hint l2 wb wp=R:=by
  refine⟨_,_,_,rfl,rfl,rfl,?_⟩;rw[← h10];by_cases e:h0=2
  ·rw[Aj e,Aj e,Aj e,Aj e]
  ·rw[Aq e,Aq e,Aq e,Aq e]
 clear h10;have hyl:y.length=xs.length:=by
  rw[hy];split
  ·rw[zG2];exact hxl
  ·exact hxl
 have hpr:a≤pv∧pv<b:=by
  rw[hpv];split <;> omega
 have crv:=Qi x a b oM oM oM;apply mid
 ·intro key;refine sW ?_;refine C1.upd 0 1 _ _ hcc rF (by apply qw;intro _;exact⟨rfl,rfl⟩) (by apply qw;intro _;exact⟨rfl,rfl⟩) (by rw[hxl];exact kK _ _ rF) rF ?_;refine sW ?_;refine⟨fun h=>?_,fun h=>?_⟩
  ·have h:=AY.1 h;have hy':y=rvs (b-a) a (b-1) x:=by rw[hy,Aj h]
   have hp':pv=b-1-(p0-a):=by rw[hpv,Aj h]
   have hh':hint=1:=by rw[hhint,Aj h]
   refine C1.upd 0 1 _ _ crv rF (by apply qw;intro _;exact⟨rfl,rfl⟩) (by apply qw;intro _;exact⟨rfl,rfl⟩) (by rw[hxl];exact kK _ _ rF) rF ?_;simp only[tZ,↓uU,simprocAttr,hwb1,hwpa,hwpb];refine W_le [(0,.asl 0 xs.length),(1,vI a),(2,vI b),(3,vI l2),(8,vB wb),(9,vB wp),(10,vI (b-a:Nat)),(11,vI pv),(12,vI hint)] [aR 0 1 (y.map vI)] ?_ key;rw[hy',hp',hh'];exact .oA (U1 0) []
  ·have h:=Ak.1 h;have hy':y=x:=by rw[hy,Aq h]
   have hp':pv=p0:=by rw[hpv,Aq h]
   have hh':hint=h0:=by rw[hhint,Aq h]
   refine W_le [(0,.asl 0 xs.length),(1,vI a),(2,vI b),(3,vI l2),(8,vB wb),(9,vB wp),(10,vI (b-a:Nat)),(11,vI pv),(12,vI hint)] [aR 0 1 (y.map vI)] ?_ key;rw[hy',hp',hh'];exact .oA (U1 0) []
 clear hy hpv hhint hcp hcc hwpa hwpb hxl;rw[pdqH] at h11;have cpn:=kM y a b oM oM oM;have hband:(wb&&wp&&(hint==1))=true↔(wb=true∧wp=true∧hint=1):=by simp [and_assoc]
 by_cases hc:(wb=true∧wp=true∧hint=1)∧(pins ltI a b 5 (a+1) y).2=true
 ·rw[Aj hc.1,Aj hc.2] at h11;have hcb:=hband.2 hc.1;simp only[tZ,↓uU,simprocAttr,hcb];refine C1.upd 0 1 _ _ cpn rF (by apply qw;intro _;exact⟨rfl,rfl⟩) (by apply qw;intro _;exact⟨rfl,rfl⟩) (by rw[hyl];exact kK _ _ rF) rF ?_;rw[hc.2,h11];refine sW ?_;exact .oA (U1 0) []
 obtain⟨z,hz,h12⟩:∃ z:List Int,(z=if wb=true∧wp=true∧hint=1 then (pins ltI a b 5 (a+1) y).1 else y)∧pdqG ltI (pdq ltI Ql QY g) z a b pv l2 wb wp=R:=by
  refine⟨_,rfl,?_⟩;by_cases e:wb=true∧wp=true∧hint=1
  ·rw[Aj e,Aq (fun e2=>hc ⟨e,e2⟩)] at h11;rw[Aj e];exact h11
  ·rw[Aq e] at h11;rw[Aq e];exact h11
 have hzl:z.length=xs.length:=by
  rw[hz];split
  ·rw[qK6];exact hyl
  ·exact hyl
 clear h11;apply mid
 ·intro key;refine sW ?_;refine⟨fun h=>?_,fun h=>?_⟩
  ·have e:=hband.1 h;have hpf:(pins ltI a b 5 (a+1) y).2=false:=by
    cases e2:(pins ltI a b 5 (a+1) y).2 with
    | false=>rfl
    | true=>exact absurd ⟨e,e2⟩ hc
   have hz':z=(pins ltI a b 5 (a+1) y).1:=by rw[hz,Aj e]
   refine C1.upd 0 1 _ _ cpn rF (by apply qw;intro _;exact⟨rfl,rfl⟩) (by apply qw;intro _;exact⟨rfl,rfl⟩) (by rw[hyl];exact kK _ _ rF) rF ?_;rw[hpf];refine sW ?_;refine W_le [(0,.asl 0 xs.length),(1,vI a),(2,vI b),(3,vI l2),(8,vB wb),(9,vB wp),(10,vI (b-a:Nat)),(11,vI pv)] [aR 0 1 (z.map vI)] ?_ key;rw[hz'];exact .oA (U1 0) []
  ·have hz':z=y:=by rw[hz,Aq (fun e=>by rw[hband.2 e] at h;cases h)]
   refine W_le [(0,.asl 0 xs.length),(1,vI a),(2,vI b),(3,vI l2),(8,vB wb),(9,vB wp),(10,vI (b-a:Nat)),(11,vI pv)] [aR 0 1 (z.map vI)] ?_ key;rw[hz'];exact .oA (U1 0) []
 clear hz hc cpn hyl hband;rw[pdqG] at h12;have hwa1:0<a→IntKind.i64.wrap ((a:Int)-1)=((a-1:Nat):Int):=fun h=>by rw[AK _ oM];omega
 simp only[tZ,↓uU,simprocAttr,Ax,qA (show pv<z.length by omega),qX];refine⟨fun h=>by have:=of_decide_eq_true h;rw[hwa1 oM];omega,fun h=>by have:=of_decide_eq_true h;rw[hwa1 oM];omega,fun h=>by omega,fun h=>by omega,?_⟩;refine C2.im (r:=vB (ltI (gd z (a-1)) (gd z pv))) (fun h=>by have:=of_decide_eq_true h;rw[hwa1 oM,Ax,qA (show a-1<z.length by omega)];exact zc (gd z (a-1)) (gd z pv)) (fun h=>by have:=of_decide_eq_true h;rw[hwa1 oM,Ax,qA (show a-1<z.length by omega)];rfl) rfl ?_;refine sW ?_;refine⟨kR,fun h=>?_,fun h=>?_⟩
 ·obtain⟨h13,h14⟩:=dand h;rw[Bx] at h14;rw[Aj ⟨oM,h14⟩] at h12;obtain⟨_,e2,e3,_,_⟩:=zg1 jo8 z hpr.1 hpr.2 oM;have e1:(YN ltI z a b pv).1.length=z.length:=zy9;refine C1.upd 0 1 _ _ (yq z a b pv oM hpr.1 hpr.2 oM oM) rF (by apply qw;intro _;exact⟨rfl,rfl⟩) (by apply qw;intro _;exact⟨rfl,rfl⟩) (by rw[hzl];exact kK _ _ rF) rF ?_;generalize YN ltI z a b pv=q at *
  refine sW ?_;refine⟨(q.1,q.2,b,l2,wb,wp,g),⟨by dsimp only;omega,by dsimp only;omega,by dsimp only;omega,by dsimp only;omega,by dsimp only;omega,hl3,h12⟩,by dsimp only;omega,?_⟩;exact .oA (U1 0) []
 have h13:=zy7 h;rw[Aq (fun e=>h13 ⟨oM,by rw[e.2];rfl⟩)] at h12;clear h h13;obtain⟨_,e2,e3,_,_⟩:=zg0 ltI z hpr.1 hpr.2 oM;have e1:(wO ltI z a b pv).1.length=z.length:=zy8;refine C1.upd 0 1 _ _ (ZD z a b pv oM hpr.1 hpr.2 oM oM) rF (by apply qw;intro _;exact⟨rfl,rfl⟩) (by apply qw;intro _;exact⟨rfl,rfl⟩) (by rw[hzl];exact kK _ _ rF) rF ?_;generalize wO ltI z a b pv=q at *
 generalize flO ltI z a b pv=fl at *
 obtain⟨u,m⟩:=q;dsimp only at e1 e2 e3 h12;have hwm1:IntKind.i64.wrap ((m:Int)-a)=((m-a:Nat):Int):=by rw[AK _ oM];omega
 have hwm2:IntKind.i64.wrap ((b:Int)-m)=((b-m:Nat):Int):=by rw[AK _ oM];omega
 have hwm3:=qh (i:=m) oM;have hw8:IntKind.i64.wrap (((b-a:Nat):Int).tdiv 8)=(((b-a) / 8:Nat):Int):=by rw[Int.tdiv_eq_ediv_of_nonneg oM,AK _ oM];omega
 have hd1:decide (((m-a:Nat):Int)≥(((b-a) / 8:Nat):Int))=decide ((b-a) / 8≤m-a):=decide_eq_decide.2 oM;have hd2:decide (((b-m:Nat):Int)≥(((b-a) / 8:Nat):Int))=decide ((b-a) / 8≤b-m):=decide_eq_decide.2 oM;have hpl:=fun xs a b l w v=>jo3 (lt:=ltI) (cp:=Ql) zh4 g xs a b l w v;simp only[tZ,↓uU,simprocAttr,AZ,Ay,hwm1,hwm2,hw8];refine⟨fun h=>?_,fun h=>?_⟩
 ·rw[Aj oM] at h12;have hih:=ih g oM u a m l2 e2 oM oM oM hl3;have hpl1:=hpl u a m l2 true true;simp only[tZ,↓uU,simprocAttr,hd1];refine C1.upd 0 1 _ _ hih rF (by apply qw;intro _;exact⟨rfl,rfl⟩) (by apply qw;intro _;exact⟨rfl,rfl⟩) (by rw[e1,hzl];exact kK _ _ rF) rF ?_;simp only[tZ,↓uU,simprocAttr,hwm3];refine⟨(pdq ltI Ql QY g u a m l2 true true,m+1,b,l2,decide ((b-a) / 8≤m-a),fl,g),⟨by dsimp only;omega,by dsimp only;omega,by dsimp only;omega,by dsimp only;omega,by dsimp only;omega,hl3,h12⟩,by dsimp only;omega,?_⟩;exact .oA (U1 0) []
 ·rw[Aq oM] at h12;have hih:=ih g oM u (m+1) b l2 oM oM oM oM hl3;have hpl1:=hpl u (m+1) b l2 true true;simp only[tZ,↓uU,simprocAttr,hd2,hwm3];refine C1.upd 0 1 _ _ hih rF (by apply qw;intro _;exact⟨rfl,rfl⟩) (by apply qw;intro _;exact⟨rfl,rfl⟩) (by rw[e1,hzl];exact kK _ _ rF) rF ?_;refine sW ?_;refine⟨(pdq ltI Ql QY g u (m+1) b l2 true true,a,m,l2,decide ((b-a) / 8≤b-m),fl,g),⟨by dsimp only;omega,by dsimp only;omega,by dsimp only;omega,by dsimp only;omega,by dsimp only;omega,hl3,h12⟩,by dsimp only;omega,?_⟩;exact .oA (U1 0) []
theorem qD6 (xs:List Int) (hl:xs.length<65536):∃ ys,(ys.Perm xs∧Srt ltI ys 0 xs.length)∧
 Sp 199 [.asl 0 xs.length] [aR 0 1 (xs.map vI)] (.tup []) [aR 0 1 (ys.map vI)]:=by
 obtain⟨lim,hlim,hs⟩:=qf9 xs.length hl;refine⟨pdq ltI Ql QY (xs.length+1) xs 0 xs.length lim true true,jO2 jo8 zD0 js8 xs lim,?_⟩;have hu:IntKind.u64.wrap (xs.length:Int)=(xs.length:Int):=by rw[IntKind.wrap_u64];omega
 refine sIr qt8 fun e _ hst=>?_;unfold yO;simp only[tZ,↓uU,simprocAttr,hu];refine C1.im hs rF rF ?_;refine sW ?_;refine C1.upd 0 1 _ _ (JY (xs.length+1) xs 0 xs.length lim oM oM hl oM oM) rF (by apply qw;intro _;exact⟨rfl,rfl⟩) (by apply qw;intro _;exact⟨rfl,rfl⟩) (kK _ _ rF) rF ?_;refine sW ?_;exact .oA (U1 0) []
set_option maxRecDepth 4000
set_option maxHeartbeats 8000000
theorem YB (p:Int→Bool) (f:FuncId) (caps:List T) (hcap:imL caps=true) (l:List Int) (hf:∀ y∈l,Sp f (vI y::caps) [] (vB (p y)) []) (hl:l.length<4611686018427387904) :
 Sp 200 [.vw 0 l.length 0 l.length,.clo f caps] [aR 0 1 (l.map vI)] (.asl 1 (l.filter fun y=>!p y).length) [(0,.dead),aR 1 1 ((l.filter fun y=>!p y).map vI)]:=by
 refine sIr Wn fun e _ hst=>?_;unfold jP;refine sW ?_;refine C1.lend [0] (qa7 p f caps hcap l hf hl) ?_ rF rF ?_
 ·simp only[tL,simprocAttr,ltV,List.drop_zero,BW,Cy];exact⟨⟨(List.take_of_length_le sMp).symm,oM,(by apply qw;intro _;exact⟨rfl,rfl⟩)⟩,qY hcap⟩
 refine sW ?_;refine⟨fun h1=>?_,fun h1=>?_⟩
 ·have hno:l.any p=false:=by
   cases h:l.any p
   ·rfl
   ·simp [idxI,h] at h1
  have hfl:(l.filter fun y=>!p y)=l:=by
   rw[List.filter_eq_self];intro y hy;have:=List.any_eq_false.1 hno y hy;simpa using this
  rw[hfl];refine .cutv 1 rfl sMp rfl sMp ?_;simp only[WM,BY,List.take_of_length_le (show (l.map vI).length≤l.length by simp)];exact .oA (U2 0 1) []
 ·have hyes:l.any p=true:=by
   cases h:l.any p
   ·simp [idxI,h] at h1
   ·rfl
  rw[show idxI p l=(l.findIdx p:Nat) by rw[idxI,Aj hyes]];have hlt:l.findIdx p<l.length:=List.findIdx_lt_length.2 (by simpa using hyes);obtain⟨F,hF⟩:∃ F:Nat→List Int,F=fun j=>(l.take j).filter fun y=>!p y:=⟨_,rfl⟩;have hF0:F (l.findIdx p+1)=l.take (l.findIdx p):=by
   rw[hF];simp only[qS hlt,Gz];rw[List.filter_eq_self.2]
   ·simp [List.findIdx_getElem]
   ·intro y hy;obtain⟨j,hj,rfl⟩:=CX hy;rw[Cz] at hj;rw[FZ];have:=List.not_of_lt_findIdx (p:=p) (xs:=l) (i:=j) oM;simpa using this
  have hFs:∀ j (h:j<l.length),F (j+1)=F j++(if p l[j]=true then [] else [l[j]]):=by
   intro j h;rw[hF];simp only[qS h,Gz]
   congr 1
   cases hp:p l[j] <;> simp [hp]
  have hFl:∀ j,(F j).length≤j:=fun j=>by
   rw[hF];have:=Fq (fun y=>!p y) (l.take j);rw[Cz] at this;simp only;omega
  simp only[qh (show l.findIdx p<4611686018427387904 by omega)];refine qt mixm (α:=Nat×List Int) [5,6] (fun x=>x.1≤l.length∧x.2.length=l.length∧(F x.1).length<x.1∧x.2.take (F x.1).length=F x.1∧x.2.drop x.1=l.drop x.1) (fun x=>[(5,vI (F x.1).length),(6,vI x.1)]) (fun x=>[aR 0 1 (x.2.map vI)]) (fun x=>l.length-x.1) (l.findIdx p+1,l) ?_ ?_ fun x hx=>?_
  ·refine⟨by simp only;omega,rfl,?_,?_,rfl⟩
   ·simp only[hF0,Cz];omega
   ·simp only[hF0,Cz,Nat.min_eq_left (Nat.le_of_lt hlt)]
  ·have hFl0:(F (l.findIdx p+1)).length=l.findIdx p:=by
    rw[hF0,Cz];omega
   refine .of (U1 0) [] rfl (by first | rfl | (rw[hst];rfl)) ?_ ?_
   all_goals (try simp only[tL,simprocAttr,By,List.map_cons,List.map_nil,BW,Cy,hFl0])
   all_goals (try (exact clA))
  obtain⟨j,A⟩:=x;obtain⟨hj,hA,hFj,hA1,hA2⟩:=hx;dsimp only at hj hA hFj hA1 hA2;simp only[tZ,↓uU,simprocAttr,AZ,Ay,BY,hA];refine⟨fun h=>?_,fun h=>?_⟩
  ·have hj2:j<l.length:=by omega
   have hj3:j<A.length:=by omega
   have hAj:A[j]=l[j]:=by
    have h1:=List.drop_eq_getElem_cons hj3;rw[hA2,List.drop_eq_getElem_cons hj2] at h1;injection h1 with h1 _;exact h1.symm
   have hAd:A.drop (j+1)=l.drop (j+1):=by
    rw[← List.drop_drop,← List.drop_drop,hA2]
   simp only[Ax,qd hj3,hAj];refine⟨oM,hj2,?_⟩;refine C1.im (hf l[j] (AX hj2)) (Jb rfl hcap) rfl ?_;have hs:=hFs j hj2;have hw1:=qh (i:=j) oM;have hw2:=qh (i:=(F j).length) oM;simp only[tZ,↓uU,simprocAttr,BY,hA,hw1,hw2,Ax];have hFlt:(F j).length<A.length:=by omega
   refine⟨fun h3=>?_,fun h3=>?_⟩
   ·have h3:p l[j]=false:=by simpa using h3
    rw[Aq (by rw[h3];simp)] at hs;simp only[qd hFlt,show ∀ a b,repl (vI a) 0 (vI b)=vI b from fun _ _=>rfl];rw[← List.map_set];refine⟨oM,⟨oM,by first | rfl | trivial⟩,?_⟩;refine⟨(j+1,A.set (F j).length l[j]),⟨hj2,by simpa using hA,?_,?_,?_⟩,by simp only;omega,?_⟩
    ·simp only[hs,AW,CJ,Cw];omega
    ·simp only[hs,AW,CJ,Cw,Nat.zero_add];rw[qS (by rw[Fy];omega),List.take_set_of_le (BZ _),hA1,List.getElem_set_self]
    ·simp only;rw[List.drop_set_of_lt oM,hAd]
    ·simp only[hs,AW,CJ,Cw,Nat.zero_add];exact .oA (U1 0) []
   ·have h3:p l[j]=true:=by simpa using h3
    rw[Aj h3,CW] at hs;refine⟨(j+1,A),⟨hj2,hA,?_,?_,hAd⟩,by simp only;omega,?_⟩
    ·simp only[hs];omega
    ·simp only[hs];exact hA1
    ·simp only[hs];exact .oA (U1 0) []
  ·have hj2:j=l.length:=by omega
   subst hj2;have hFe:(l.filter fun y=>!p y)=F l.length:=by rw[hF];simp only[Bw]
   rw[hFe];have e1:(l.length:Int).toNat=l.length:=Ax _;have e2:((F l.length).length:Int).toNat=(F l.length).length:=Ax _;simp only[e1,e2,Cz,List.length_drop,List.length_replicate,BY,hA];refine⟨oM,oM,oM,?_⟩;refine .cutv 1 rfl (by simp;omega) rfl (by simp;omega) ?_;have hcut:(((A.map vI).take (F l.length).length++List.replicate (l.length-(F l.length).length) (T.v (.int .i64 0))++(A.map vI).drop ((F l.length).length+(l.length-(F l.length).length))).take (F l.length).length)=(F l.length).map vI:=by
    rw[Dj,List.take_append_of_le_length (by rw[Cz,BY];omega),List.take_take,Nat.min_self,← List.map_take,hA1]
   simp only[Nat.sub_zero,Nat.zero_add,WM,Dj] at hcut ⊢
   rw[hcut];exact .oA (U2 0 1) []
theorem qx9 (x:Int) (c:Col):Sp 201 [vI x,.ip (colT c).cells] [] (vB (decide (x≤c.low)||decide (x>c.high))) []:=by
 refine sIr qn6 fun e _ hst=>?_;unfold wW;refine sW ?_;exact .oA [] []
theorem jQ6 {l:List Int} (h:Srt ltI l 0 l.length):l.Pairwise (·≤·):=by
 rw[DX];intro i j hi hj hij;have h2:=h i j oM hij hj;rw[zy2 hi,zy2 hj] at h2;unfold lew ltI at h2;simp only[Ay] at h2;omega
theorem qK0 (s:Sch) (hE:schE s=0) (q:Qst) (hq:QstOk s q) (k:Nat) (hk:k<s.cols.length) (h0:0<k) (h2:(qg s k).kind≠2) :
 ∃ F:List Int,(F.Pairwise (·≤·)∧(∀ x,x∈F↔x∈edgL s q k∧(qg s k).low<x∧x≤(qg s k).high)∧F.length≤200)∧Sp 142 [schT s,qstT q,vI k] [] (vIs F) []:=by
 obtain⟨f2,f3,_,_⟩:=JW hq;have hl1:=kY q.filt 41 oM f2;have hl2:=kY q.event 41 oM f3;have hel1:=qL2 k (atsC q.filt);have hel2:=qL2 k (atsC q.event);have hm:=zK hE hk h0 h2;have hlh:=hm.lh;have hat:qg s k=s.cols[k]:=by rw[qg,qj hk]
 obtain⟨L0,hL0⟩:∃ L0:List Int,L0=if usB q k=true then [(qg s k).low+1,(qg s k).low+2] else []:=⟨_,rfl⟩
 have hL2:L0.length≤2:=by rw[hL0];split <;> simp
 have hEd:edgL s q k=(L0++edgA k (atsC q.filt))++edgA k (atsC q.event):=by rw[hL0];rfl
 have hEl:(edgL s q k).length≤170:=by rw[hEd,AW,AW];omega
 obtain⟨ys,⟨hp,hso⟩,hsc⟩:=qD6 (edgL s q k) oM;have hpl:=hp.length_eq;rw[← hpl] at hso;have hasc:=jQ6 hso;have hdl:=Fq (fun y=>!(decide (y≤(qg s k).low)||decide (y>(qg s k).high))) ys;have hdf:=YB (fun x=>decide (x≤(qg s k).low)||decide (x>(qg s k).high)) 201 [.ip (colT (qg s k)).cells] rfl ys (fun x _=>qx9 x (qg s k)) oM;refine⟨ys.filter fun y=>!(decide (y≤(qg s k).low)||decide (y>(qg s k).high)),⟨hasc.filter _,fun x=>?_,oM⟩,?_⟩
 ·rw[Fx,hp.mem_iff];simp only[Bx,FQ,Ay];constructor
  ·rintro ⟨a,b,c⟩;exact⟨a,oM,oM⟩
  ·rintro ⟨a,b,c⟩;exact⟨a,oM,oM⟩
 have sU:=wN q k (by have:=hq.nt;omega);have hw1:IntKind.i64.wrap ((qg s k).low+1)=(qg s k).low+1:=AK _ oM;have hw2:IntKind.i64.wrap ((qg s k).low+2)=(qg s k).low+2:=AK _ oM;have sA1:=wn q.filt 41 oM oM f2;have sA2:=wn q.event 41 oM oM f3;rw[hat] at *
 refine Qo [5] qA4 mixm sMp fun e _ hst=>qy8 ?_;unfold Qw;simp only[Wf,List.contains_cons,List.contains_nil,Nat.reduceBEq,Bool.or_false,Bool.or_true,Bool.true_or,Bool.false_or,cond_true,cond_false];simp only[tZ,↓uU,simprocAttr,Ax,qd hk];generalize s.cols[k]=c at *
 refine⟨oM,?_⟩;refine C1.im sU rF rF ?_;simp only[tZ,↓uU,simprocAttr,tD,hw1,hw2];have hcT:colT c = .agg [vS c.name,vI c.kind,vI c.list,vI c.low,vI c.high,vIs c.widths,vB c.opt]:=rfl;refine⟨fun h4=>?_,fun h4=>?_⟩
 focus
  rw[Aj h4] at hL0;refine W_le [(2,vI k),(4,.ptr 4100 1 0 0),(7,.ptr 8212 1 0 0),(8,.asl 1 L0.length)] [aR 4100 17 [qstT q],aR 8212 7 [colT c],aR 1 1 (L0.map vI)] ?_ ?_
  ·rw[hL0];exact .oA [uI 4100,uI 8212,(1,some 20512)] []
  clear hL0 h4
 rotate_left
 focus
  rw[Aq (by rw[h4];simp)] at hL0;refine W_le [(2,vI k),(4,.ptr 4100 1 0 0),(7,.ptr 8212 1 0 0),(8,.asl 1 L0.length)] [aR 4100 17 [qstT q],aR 8212 7 [colT c],aR 1 1 (L0.map vI)] ?_ ?_
  ·rw[hL0];exact .oA [uI 4100,uI 8212,(1,none)] []
  clear hL0 h4
 all_goals (
  simp only[tZ,↓uU,simprocAttr,zh];refine C1.im sA1 rF rF ?_;refine sW ?_
  repeat (first | refine⟨oM,?_⟩ | refine⟨kR,?_⟩)
  generalize hA:atsC q.filt=A at *
  generalize hB:atsC q.event=B at *
  refine qt mixm (α:=Nat) [8,34] (fun i=>i≤A.length) (fun i=>[(8,.asl 1 (L0++edgA k (A.take i)).length),(34,vI i)]) (fun i=>[aR 4100 17 [qstT q],aR 8212 7 [colT c],aR 1 1 ((L0++edgA k (A.take i)).map vI)]) (fun i=>A.length-i) 0 oM ?_ fun i hi=>?_
  ·rw[show L0++edgA k (A.take 0)=L0 by simp [edgA]];exact .oA (U3 4100 8212 1) []
  have hle:=qL2 k (A.take i);rw[Cz] at hle;have hll:(L0++edgA k (A.take i)).length≤100:=by rw[AW];omega
  simp only[tZ,↓uU,simprocAttr,tD,AY,Ak];refine⟨fun h5=>?_,fun h5=>?_⟩
  ·have hi2:i<A.length:=by omega
   have hwi:=qh (i:=i) oM;have hsu:=zC9 k hi2;simp only[tZ,↓uU,simprocAttr,Ax,qd hi2,zh,hwi,AY,Ak];refine⟨oM,fun h6=>?_,fun h6=>?_⟩
   ·rw[Aj h6] at hsu;refine⟨by rw[AW] at hll;omega,i+1,oM,oM,?_⟩;rw[hsu];refine .of (U3 4100 8212 1) [] rfl (by first | rfl | (rw[hst];rfl)) ?_ ?_
    all_goals (try simp only[tL,simprocAttr,By,List.map_cons,List.map_nil,BW,Cy,By,AW,CJ,Cw,Dj])
    all_goals (try (exact clA))
   ·rw[Aq h6,CW] at hsu;refine⟨i+1,oM,oM,?_⟩;rw[hsu];exact .oA (U3 4100 8212 1) []
  have hil:i=A.length:=by omega
  subst hil;rw[Bw];clear hi h5 hll hle;have hl3:(L0++edgA k A).length≤90:=by rw[AW];omega
  rw[show L0.length+(edgA k A).length=(L0++edgA k A).length by rw[AW]];generalize L0++edgA k A=M at hl3 hEd ⊢
  refine C1.im sA2 rF rF ?_;refine sW ?_
  repeat (first | refine⟨oM,?_⟩ | refine⟨kR,?_⟩)
  refine qt mixm (α:=Nat) [8,55] (fun i=>i≤B.length) (fun i=>[(8,.asl 1 (M++edgA k (B.take i)).length),(55,vI i)]) (fun i=>[aR 8212 7 [colT c],aR 1 1 ((M++edgA k (B.take i)).map vI)]) (fun i=>B.length-i) 0 oM ?_ fun i hi=>?_
  ·rw[show M++edgA k (B.take 0)=M by simp [edgA]];exact .oA (U2 8212 1) []
  have hle:=qL2 k (B.take i);rw[Cz] at hle;have hll:(M++edgA k (B.take i)).length≤200:=by rw[AW];omega
  simp only[tZ,↓uU,simprocAttr,tD,AY,Ak];refine⟨fun h5=>?_,fun h5=>?_⟩
  ·have hi2:i<B.length:=by omega
   have hwi:=qh (i:=i) oM;have hsu:=zC9 k hi2;simp only[tZ,↓uU,simprocAttr,Ax,qd hi2,zh,hwi,AY,Ak];refine⟨oM,fun h6=>?_,fun h6=>?_⟩
   ·rw[Aj h6] at hsu;refine⟨by rw[AW] at hll;omega,i+1,oM,oM,?_⟩;rw[hsu];refine .of (U2 8212 1) [] rfl (by first | rfl | (rw[hst];rfl)) ?_ ?_
    all_goals (try simp only[tL,simprocAttr,By,List.map_cons,List.map_nil,BW,Cy,By,AW,CJ,Cw,Dj])
    all_goals (try (exact clA))
   ·rw[Aq h6,CW] at hsu;refine⟨i+1,oM,oM,?_⟩;rw[hsu];exact .oA (U2 8212 1) []
  have hil:i=B.length:=by omega
  subst hil;rw[Bw,show M.length+(edgA k B).length=(M++edgA k B).length by rw[AW],← hEd];generalize edgL s q k=Z at hsc hpl hEl ⊢
  refine C1.upd 1 1 _ _ hsc rF (by apply qw;intro _;exact⟨rfl,rfl⟩) (by apply qw;intro _;exact⟨rfl,rfl⟩) ⟨by simp [ltA,ltC,ltC0,TL.get],trivial⟩ rF ?_;refine sW ?_;rw[← hpl];refine C1.cutback 1 77832 1 [8212] hdf rF (by apply qw;intro _;exact⟨rfl,rfl⟩) (by apply qw;intro _;exact⟨rfl,rfl⟩) (by apply jN9;intro _;rfl) rF ?_ rF ?_
  ·simp only[tL,simprocAttr,ltP,BW,Cy];exact⟨rfl,qQ (x:=colT c) ⟨rfl,rfl⟩ qR⟩
  refine sW ?_;refine .of [] [77832] rfl (by first | rfl | (rw[hst];rfl)) ?_ ?_
  all_goals (try simp only[tL,simprocAttr,By,List.map_cons,List.map_nil,BW,Cy])
  all_goals (try (repeat' (first | exact zk | (apply zH;intro _;exact⟨rfl,rfl⟩) | (apply qw;intro _;exact⟨rfl,rfl⟩) | with_reducible apply ze | with_reducible refine qQ ⟨rfl,rfl⟩ ?_ | exact qR | with_reducible apply qZ | with_reducible refine zd ⟨rfl,rfl,?_⟩ ?_ | with_reducible apply Az | exact qY rfl | exact qY (by assumption) | (refine⟨⟨?_,rfl,?_,rfl,?_⟩,trivial⟩ <;> first | (simp;done) | (apply qw;intro _;exact⟨rfl,rfl⟩)) | trivial | rfl | (rw[qh oM]) | omega)))
  )
theorem Wb (s:Sch) (q:Qst) (k:Nat) (lev a b:Int) (hq:QstOk s q) (h0:0<k) (hk:k<s.cols.length) (h2:(qg s k).kind≠2) (hl0:0≤lev) (hl:lev≤finI s k) (hP:qD1 s q k lev a b):Sp 75 [schT s,qstT q,vI k,vI lev] [] (.tup [vI a,vI b]) []:=by
 have hE:=hq.sch;have hok:=qV hE;have hs:=hok.sm;obtain⟨F,⟨hF1,hF2,hF3⟩,sE⟩:=qK0 s hE q hq k hk h0 h2;have hm:=zK hE hk h0 h2;have hlh:=hm.lh;have hat:qg s k=s.cols[k]:=by rw[qg,qj hk]
 have sC:=fun v=>JN s hs k lev v;have sT:=fun x y=>YK s hok q hq.nd hq.nt (qU6 hq) k x y;have sU:=wN q k (by have:=hq.nt;omega);obtain⟨L,rfl⟩:=AJ hl0;unfold qD1 at hP;rw[Aq h2] at hP;by_cases hz:(L:Int)=0∧(qg s k).opt=true
 ·rw[Aj hz] at hP;obtain⟨rfl,rfl⟩:=hP;obtain⟨z1,z2⟩:=hz;rw[hat] at z2 ⊢
  refine sIr wu fun e _ hst=>?_;unfold zJ;simp only[tZ,↓uU,simprocAttr,Ax,qd hk];generalize s.cols[k]=c at z2 ⊢
  simp only[tZ,↓uU,simprocAttr,z1,z2,tD,AY,Ak]
  repeat (first | refine⟨oM,?_⟩ | refine⟨kR,?_⟩)
  exact .oA [] []
 ·rw[Aq hz] at hP;obtain⟨hL,ha⟩:=hP;have hbF:b∈F:=(hF2 b).2 ⟨jC5 hq hk h0 h2 hl hL,hL.lo,hL.hi⟩;obtain⟨j,hj,hjb,hjl⟩:=zC8 hF1 hbF;have hu:=jK7 hE hk h0 h2 hl hL;have hnq:∀ i (h:i<j),¬ Qb s q k L (F[i]-1) F[i]:=fun i h=>hL.least F[i] ((hF2 _).1 (AX oM)).2.1 (hjl i h);have hFb:∀ i (h:i<F.length),(qg s k).low<F[i]∧F[i]≤(qg s k).high:=fun i h=>((hF2 _).1 (AX h)).2;rw[hat] at ha hlh hu hFb;refine sIr wu fun e _ hst=>?_;unfold zJ;simp only[tZ,↓uU,simprocAttr,Ax,qd hk];rw[hat] at hz;generalize s.cols[k]=c at ha hlh hu hz hFb ⊢
  simp only[tZ,↓uU,simprocAttr,tD,AY,Ak];refine⟨oM,fun h3=>absurd h3 hz,fun h3=>?_⟩;refine C1.im sE rF rF ?_;refine sW ?_;refine qt mixm (α:=Nat) [33] (fun i=>i≤j) (fun i=>[(33,vI i)]) (fun i=>[aR 4096 2 [schT s],aR 4100 17 [qstT q],aR 8212 7 [colT c]]) (fun i=>j-i) 0 oM ?_ fun i hi=>?_
  ·exact .oA (U3 4096 4100 8212) []
  refine sD ?_;refine⟨fun h4=>?_,fun h4=>by omega⟩;have hi2:i<F.length:=by omega
  have hwi:=qh (i:=i) oM;have hb:=hFb i hi2;have hw1:IntKind.i64.wrap (F[i]-1)=F[i]-1:=AK _ oM;have hnx:i<j→¬ Qb s q k L (F[i]-1) F[i]:=fun h=>hnq i h;have hyx:i=j→F[i]=b:=fun h=>by subst h;exact hjb
  simp only[tZ,↓uU,simprocAttr,Ax,qd hi2];generalize F[i]=x at hb hw1 hnx hyx ⊢
  refine⟨oM,?_⟩;refine C1.im (sC x) rF rF ?_;simp only[tZ,↓uU,simprocAttr,hw1];refine C1.im (sC (x-1)) rF rF ?_;simp only[tZ,↓uU,simprocAttr,hw1];refine C2.im (fun _=>sT (x-1) x) (fun _=>rfl) rF ?_;simp only[tZ,↓uU,simprocAttr,tD,Bj,Aw,Bx,Bz,hwi];refine⟨fun h5=>?_,fun h5=>?_⟩
  ·have hij:i<j:=AQ fun hn=>by
    have hxb:=hyx oM;rw[hxb] at h5;rcases h5 with h5 | h5
    ·exact h5 hL.qb.1
    ·rw[hL.qb.2] at h5;cases h5
   refine⟨i+1,oM,oM,?_⟩;exact .oA (U3 4096 4100 8212) []
  have hxb:x=b:=hyx (AQ fun hn=>hnx oM ⟨h5.1,h5.2⟩);subst hxb;have hb1:=hL.lo;refine⟨fun h6=>?_,fun h6=>?_⟩
  ·rw[Aq oM,show max c.low (qk s k L x)=maxI c.low (qk s k L x) by unfold maxI;split <;> omega] at ha;rw[ha];refine C1.im sU rF rF ?_;refine sW ?_;refine⟨fun h7=>?_,fun h7=>?_⟩
   ·have hw2:IntKind.i64.wrap (maxI c.low (qk s k L x)+1)=x:=by
     have:=hu h7;have hmx:maxI c.low (qk s k L x)=max c.low (qk s k L x):=by unfold maxI;split <;> omega
     rw[hmx];rw[AK _ oM];omega
    simp only[tZ,↓uU,simprocAttr,hw2];exact .oA [] []
   ·exact .oA [] []
  ·rw[Aj oM] at ha;rw[ha];refine C1.im sU rF rF ?_;refine sW ?_;refine⟨fun h7=>?_,fun h7=>?_⟩
   ·have hw2:IntKind.i64.wrap (c.low+1)=x:=by
     have:=hu h7;rw[AK _ oM];omega
    simp only[tZ,↓uU,simprocAttr,hw2];exact .oA [] []
   ·exact .oA [] []
def begA (s:Sch) (k:Nat) (lev x:Int):Int:=if lev=0 then (qg s k).low else max (qg s k).low (qk s k lev x)
theorem zJ4 {s:Sch} (hE:schE s=0) {k:Nat} (hk:k<s.cols.length) (h0:0<k) (h2:(qg s k).kind≠2) {lev:Nat} (hl:(lev:Int)≤finI s k) {x:Int} (h1:(qg s k).low<x) (h3:x≤(qg s k).high) (hc:qk s k lev (x-1)=qk s k lev x):(qg s k).low≤begA s k lev x∧begA s k lev x<x∧qk s k lev (begA s k lev x)=qk s k lev x:=by
 have hm:=zK hE hk h0 h2;have hlh:=hm.lh;have hH:∀ v,(qg s k).low≤v→v≤(qg s k).high→qT s k v=true:=fun v h1 h2=>(zx hm.kind).2 (.inr ⟨h1,h2⟩);unfold begA;by_cases e0:lev=0
 ·subst e0;rw[Aj rF];have c1:=ZC hE hk h0 h2 (hH (qg s k).low oM oM);have c2:=ZC hE hk h0 h2 (hH x oM oM);exact⟨Int.le_refl _,h1,c1.trans c2.symm⟩
 ·rw[Aq oM];have hf:=hm.fin;have hw:=hm.wid lev oM oM;have cm:∀ v,(qg s k).low≤v→v≤(qg s k).high→qk s k lev v=qJ v (qK (qg s k) lev)*qK (qg s k) lev:=fun v h1 h3=>by
   rw[JR hm hl (hH v h1 h3),Aq e0,Aq (fun e=>by unfold zn at e;omega)]
  rw[cm (x-1) oM oM,cm x oM oM] at hc;have f1:=(jV (v:=x-1) (w:=qK (qg s k) lev) oM).2;have f2:=(qp1 (v:=x) hw).1;rw[hc] at f1;rw[cm x oM oM];generalize hB:qJ x (qK (qg s k) lev)*qK (qg s k) lev=B at f1 ⊢
  refine⟨oM,oM,?_⟩;rw[cm _ oM oM,← hB]
  congr 1
  exact zp3 hw oM oM
theorem jC9 {s:Sch} {d:Dcl} (hd:dclE s d=0) {k:Nat} (hk:k<s.cols.length):∀ p∈zU s d,p.col=k→p.lev=mxl (zU s d) k:=fun p hp e=>by
 rw[qf8 hd hk];have h2:=hp;rw[wq hd] at h2;have:=(QX h2).2.1;rw[e,Ax] at this;exact this
def pinI (l:List Int) (n:Int):List Int:=l.filter (fun x=>decide (x<n))++n::l.filter fun x=>decide (x>n)
theorem qD7 {l:List Int} {n y:Int}:y∈pinI l n↔y=n∨y∈l:=by
 unfold pinI;rw[Dz,Ck,Fx,Fx,AZ,AZ];constructor
 ·rintro (h | h | h)
  ·exact .inr h.1
  ·exact .inl h
  ·exact .inr h.1
 ·rintro (h | h)
  ·exact .inr (.inl h)
  ·rcases Int.lt_trichotomy y n with g | g | g
   ·exact .inl ⟨h,g⟩
   ·exact .inr (.inl g)
   ·exact .inr (.inr ⟨h,g⟩)
theorem qp3 {l:List Int} (h:l.Pairwise (·<·)) (n:Int):(pinI l n).Pairwise (·<·):=by
 unfold pinI;rw[List.pairwise_append,List.pairwise_cons];refine⟨h.filter _,⟨fun y hy=>?_,h.filter _⟩,fun x hx y hy=>?_⟩
 ·have:=(Fx.1 hy).2;rw[AZ] at this;omega
 ·have h1:=(Fx.1 hx).2;rw[AZ] at h1;rcases Ck.1 hy with e | hy
  ·omega
  ·have h2:=(Fx.1 hy).2;rw[AZ] at h2;omega
theorem YC:∀ (l:List Int) (n:Int),(pinI l n).length≤l.length+1:=by
 intro l n
 induction l with
 | nil=>simp [pinI]
 | cons x r ih=>
   unfold pinI at ih ⊢
   rw[AW,CJ] at ih ⊢
   rw[List.filter_cons,List.filter_cons,CJ];by_cases h1:x<n
   ·rw[Aj (Cx h1),Aq (by rw[AZ];omega),CJ];omega
   ·rw[Aq (by rw[AZ];omega)];split
    ·rw[CJ];omega
    ·omega
def geA (l:List Int) (n:Int) (i:Nat):Bool:=(l.take i).any fun x=>decide (x≥n)
def outP (l:List Int) (n:Int) (i:Nat):List Int:=(l.take i).filter (fun x=>decide (x<n))++if geA l n i=true then n::(l.take i).filter (fun x=>decide (x>n)) else []
theorem js9 {l:List Int} {n:Int} {i:Nat} (h:i<l.length):geA l n (i+1)=(geA l n i||decide (l[i]≥n)):=by
 unfold geA;rw[qS h,FY];simp
theorem qV2 {p:Int→Bool} {l:List Int} {i:Nat} (h:i<l.length):(l.take (i+1)).filter p=(l.take i).filter p++if p l[i]=true then [l[i]] else []:=by
 rw[qS h,Gz]
 congr 1
 split
 ·rename_i h2;rw[List.filter_cons_of_pos h2];rfl
 ·rename_i h2;rw[List.filter_cons_of_neg h2];rfl
theorem jY1 {l:List Int} (hasc:l.Pairwise (·<·)) {n:Int} {i:Nat} (h:i<l.length) (hg:geA l n i=true):l[i]>n:=by
 unfold geA at hg;obtain⟨y,hy,h2⟩:=DJ.1 hg;rw[AZ] at h2;obtain⟨j,hj,rfl⟩:=CX hy;rw[Cz] at hj;rw[FZ] at h2;have:=DX.1 hasc j i oM h oM;omega
theorem jt0 {l:List Int} {n:Int} {i:Nat} (hg:geA l n i=false):(l.take i).filter (fun x=>decide (x>n))=[]:=by
 rw[List.filter_eq_nil_iff];intro y hy;have:=List.any_eq_false.1 hg y hy;rw[AZ] at this ⊢
 omega
theorem jt1 {l:List Int} (hasc:l.Pairwise (·<·)) {n:Int} {i:Nat} (h:i<l.length):outP l n (i+1)=(outP l n i++if l[i]≥n∧geA l n i=false then [n] else [])++if l[i]≠n then [l[i]] else []:=by
 have hg:=jY1 hasc (n:=n) h;have hn:=jt0 (l:=l) (n:=n) (i:=i);unfold outP;rw[js9 h,qV2 h,qV2 h];cases hd:geA l n i with
 | true=>
   have h1:=hg hd;rw[Bool.true_or,Aj rfl,Aj rfl,Aq (by rw[AZ];omega),Aj (Cx h1),Aq sMp,Aj oM];simp
 | false=>
   have h1:=hn hd;rw[Bool.false_or,h1];by_cases e:l[i]≥n
   ·have d1:decide (l[i]<n)=false:=Cq oM;have d2:decide (l[i]≥n)=true:=Cx e;by_cases e2:l[i]=n
    ·have d3:decide (l[i]>n)=false:=Cq oM;simp only[d1,d2,d3];rw[Aj (show l[i]≥n∧True from ⟨e,trivial⟩),Aq (show ¬ l[i]≠n from fun h=>h e2)];simp
    ·have d3:decide (l[i]>n)=true:=Cx oM;simp only[d1,d2,d3];rw[Aj (show l[i]≥n∧True from ⟨e,trivial⟩),Aj (show l[i]≠n from e2)];simp
   ·have d1:decide (l[i]<n)=true:=Cx oM;have d2:decide (l[i]≥n)=false:=Cq e;have d3:decide (l[i]>n)=false:=Cq oM;simp only[d1,d2,d3];rw[Aq (show ¬ (l[i]≥n∧True) from fun h=>e h.1),Aj (show l[i]≠n by omega)];simp
theorem jD0 {l:List Int} {n:Int}:pinI l n=outP l n l.length++if geA l n l.length=true then [] else [n]:=by
 have hn:=jt0 (l:=l) (n:=n) (i:=l.length);unfold outP pinI;rw[Bw] at hn ⊢
 cases hd:geA l n l.length with
 | true=>rw[Aj rfl,Aj rfl,CW]
 | false=>rw[Aq sMp,Aq sMp,hn hd];simp
theorem jD1 (l:List Int) (n:Int) (i:Nat):(outP l n i).length≤2*l.length+1:=by
 unfold outP;have h1:=Fq (fun x=>decide (x<n)) (l.take i);have h2:=Fq (fun x=>decide (x>n)) (l.take i);rw[Cz] at h1 h2;rw[AW];split
 ·rw[CJ];omega
 ·simp only[Cw];omega
def rawF (l:List Int) (x:Cnd):List Int:=if x.op=3 then pinI (pinI l x.lo) (x.hi+1) else l
theorem jt2 {M:List Cnd}:∀ (l:List Int),l.Pairwise (·<·)→(M.foldl rawF l).Pairwise (·<·)∧(M.foldl rawF l).length≤l.length+2*M.length∧∀ y,y∈M.foldl rawF l↔y∈l∨∃ x∈M,x.op=3∧(y=x.lo∨y=x.hi+1):=by
 induction M with
 | nil=>exact fun l h=>⟨h,sMp,fun y=>by simp⟩
 | cons x r ih=>
   intro l h;rw[Dw];unfold rawF;by_cases e:x.op=3
   ·obtain⟨a,b,c⟩:=ih (pinI (pinI l x.lo) (x.hi+1)) (qp3 (qp3 h _) _);have l1:=YC l x.lo;have l2:=YC (pinI l x.lo) (x.hi+1);unfold rawF at a b c;rw[Aj e];refine⟨a,by rw[CJ];omega,fun y=>?_⟩;rw[c,qD7,qD7];constructor
    ·rintro ((h | h | h) | ⟨z,hz,h⟩)
     ·exact .inr ⟨x,List.mem_cons_self,e,.inr h⟩
     ·exact .inr ⟨x,List.mem_cons_self,e,.inl h⟩
     ·exact .inl h
     ·exact .inr ⟨z,CQ _ hz,h⟩
    ·rintro (h | ⟨z,hz,h1,h2⟩)
     ·exact .inl (.inr (.inr h))
     ·rcases Ck.1 hz with rfl | hz
      ·rcases h2 with h2 | h2
       ·exact .inl (.inr (.inl h2))
       ·exact .inl (.inl h2)
      ·exact .inr ⟨z,hz,h1,h2⟩
   ·obtain⟨a,b,c⟩:=ih l h;unfold rawF at a b c;rw[Aq e];refine⟨a,by rw[CJ];omega,fun y=>?_⟩;rw[c];constructor
    ·rintro (h | ⟨z,hz,h⟩)
     ·exact .inl h
     ·exact .inr ⟨z,CQ _ hz,h⟩
    ·rintro (h | ⟨z,hz,h1,h2⟩)
     ·exact .inl h
     ·rcases Ck.1 hz with rfl | hz
      ·exact absurd h1 e
      ·exact .inr ⟨z,hz,h1,h2⟩
def rawS (s:Sch) (q:Qst) (k:Nat):List Int:=
 let l:=((atsQ q).filter fun x=>x.col==(k:Int)).foldl rawF []
 if qB9 q k=true then pinI (pinI l ((qg s k).low+1)) ((qg s k).low+2) else l
theorem zq0 {s:Sch} {q:Qst} {k:Nat}:(rawS s q k).Pairwise (·<·)∧(rawS s q k).length≤2*(atsQ q).length+2∧∀ y,y∈rawS s q k↔(∃ x∈atsQ q,x.col=(k:Int)∧x.op=3∧(y=x.lo∨y=x.hi+1))∨(qB9 q k=true∧(y=(qg s k).low+1∨y=(qg s k).low+2)):=by
 obtain⟨a,b,c⟩:=jt2 (M:=(atsQ q).filter fun x=>x.col==(k:Int)) [] List.Pairwise.nil;have hfl:=Fq (fun x:Cnd=>x.col==(k:Int)) (atsQ q);have c2:∀ y,y∈((atsQ q).filter fun x=>x.col==(k:Int)).foldl rawF []↔∃ x∈atsQ q,x.col=(k:Int)∧x.op=3∧(y=x.lo∨y=x.hi+1):=fun y=>by
  rw[c];constructor
  ·rintro (h | ⟨x,hx,h⟩)
   ·cases h
   ·obtain⟨h1,h2⟩:=Fx.1 hx;exact⟨x,h1,AY.1 h2,h⟩
  ·rintro ⟨x,hx,e,h⟩;exact .inr ⟨x,Fx.2 ⟨hx,AY.2 e⟩,h⟩
 unfold rawS;simp only[Cw] at b;generalize ((atsQ q).filter fun x=>x.col==(k:Int)).foldl rawF []=R at a b c2;dsimp only;by_cases hu:qB9 q k=true
 ·rw[Aj hu];have l1:=YC R ((qg s k).low+1);have l2:=YC (pinI R ((qg s k).low+1)) ((qg s k).low+2);refine⟨qp3 (qp3 a _) _,oM,fun y=>?_⟩;rw[qD7,qD7,c2];constructor
  ·rintro (h | h | h)
   ·exact .inr ⟨hu,.inr h⟩
   ·exact .inr ⟨hu,.inl h⟩
   ·exact .inl h
  ·rintro (h | ⟨_,h | h⟩)
   ·exact .inr (.inr h)
   ·exact .inr (.inl h)
   ·exact .inl h
 ·rw[Aq hu];refine⟨a,oM,fun y=>?_⟩;rw[c2];constructor
  ·exact fun h=>.inl h
  ·rintro (h | ⟨h,_⟩)
   ·exact h
   ·exact absurd h hu
def stIn (s:Sch) (k:Nat) (w x:Int):Bool:=decide ((qg s k).low<x)&&decide (x≤(qg s k).high)&&(decide (w=0)||(qJ x w==qJ (x-1) w))
def stL (s:Sch) (q:Qst) (k:Nat) (w:Int):List Int:=(rawS s q k).filter (stIn s k w)
theorem JZ (l:List Int) (n:Int) (hasc:l.Pairwise (·<·)) (hl:l.length≤1000):Sp 192 [vIs l,vI n] [] (vIs (pinI l n)) []:=by
 rw[jD0];refine sIr zz6 fun e _ hst=>?_;unfold qd6;refine sW ?_;refine qt mixm (α:=Nat) [5,6,7] (fun i=>i≤l.length) (fun i=>[(5,.asl 1 (outP l n i).length),(6,vB (geA l n i)),(7,vI i)]) (fun i=>[aR 1 1 ((outP l n i).map vI)]) (fun i=>l.length-i) 0 oM ?_ fun i hi=>?_
 ·exact .oA [(1,none)] []
 have hol:=jD1 l n i;refine sD ?_;refine⟨fun h4=>?_,fun h4=>?_⟩
 ·have hi2:i<l.length:=by omega
  have hwi:=qh (i:=i) oM;have hgs:=js9 (n:=n) hi2;have hos:=jt1 hasc (n:=n) hi2;simp only[tZ,↓uU,simprocAttr,Ax,qd hi2,hwi,tD,Bj,Aw,Bx,Bz];generalize l[i]=x at hgs hos ⊢
  refine⟨oM,fun h5=>?_,fun h5=>?_⟩
  ·have hg1:geA l n (i+1)=true:=by rw[hgs,Cx (show x≥n by omega),Bool.or_true]
   rw[Aj (show x≥n∧geA l n i=false from ⟨h5.1,h5.2⟩)] at hos;refine⟨oM,oM,fun h6=>?_,fun h6=>?_⟩
   ·rw[Aj h6] at hos;refine⟨oM,oM,i+1,oM,oM,?_⟩;rw[hos,hg1];exact .oA (U1 1) []
   ·rw[Aq (fun h=>h h6),CW] at hos;refine⟨i+1,oM,oM,?_⟩;rw[hos,hg1];exact .oA (U1 1) []
  ·have hg1:geA l n (i+1)=geA l n i:=by
    rw[hgs];rcases h5 with h5 | h5
    ·rw[Cq (show ¬ x≥n by omega),Bool.or_false]
    ·rw[h5,Bool.true_or]
   rw[Aq (show ¬ (x≥n∧geA l n i=false) from fun h=>by
    rcases h5 with h5 | h5
    ·exact h5 h.1
    ·rw[h5] at h;cases h.2),CW] at hos
   refine⟨oM,fun h6=>?_,fun h6=>?_⟩
   ·rw[Aj h6] at hos;refine⟨oM,oM,i+1,oM,oM,?_⟩;rw[hos,hg1];exact .oA (U1 1) []
   ·rw[Aq (fun h=>h h6),CW] at hos;refine⟨i+1,oM,oM,?_⟩;rw[hos,hg1];exact .oA (U1 1) []
 ·have hil:i=l.length:=by omega
  subst hil;refine⟨fun h5=>?_,fun h5=>?_⟩
  ·rw[Aq (by rw[h5];simp)];refine⟨oM,?_⟩;exact .oA [] [1]
  ·rw[Aj (by simpa using h5),CW];exact .oA [] [1]
theorem zc5 (s:Sch) (q:Qst) (hq:QstOk s q) (k:Nat) (h0:0<k) (hk:k<s.cols.length) (h2:(qg s k).kind≠2) (w:Int) (hw:0≤w):Sp 191 [colT (qg s k),qstT q,vI k,vI w] [] (vIs (stL s q k w)) []:=by
 obtain⟨f2,f3,hats,_⟩:=JW hq;have hl1:=kY q.filt 41 oM f2;have hl2:=kY q.event 41 oM f3;have hAl:(atsQ q).length≤80:=by rw[atsQ,AW];omega
 have hfl:=Fq (fun x:Cnd=>x.col==(k:Int)) (atsQ q);have hfm:∀ x∈(atsQ q).filter (fun x=>x.col==(k:Int)),x.op=3→-1000000≤x.lo∧x.hi≤1000000∧x.lo≤x.hi:=fun x hx=>by
  obtain⟨m1,m2⟩:=Fx.1 hx;exact (qx8 hq h2 m1 (AY.1 m2)).2
 have hm:=zK hq.sch hk h0 h2;have hlh:=hm.lh;have sU:=qe6 q k (by have:=hq.nt;omega);have sA:=qx7 q k f2 f3;obtain⟨hR1,hR2,hR3⟩:=zq0 (s:=s) (q:=q) (k:=k);have hRb:∀ y∈rawS s q k,-2000000≤y∧y≤2000000:=fun y hy=>by
  rcases (hR3 y).1 hy with⟨x,hx,e,o,h⟩ | ⟨_,h⟩
  ·have:=(qx8 hq h2 hx e).2 o;omega
  ·omega
 have hRd:rawS s q k=if qB9 q k=true then pinI (pinI (((atsQ q).filter fun x=>x.col==(k:Int)).foldl rawF []) ((qg s k).low+1)) ((qg s k).low+2) else ((atsQ q).filter fun x=>x.col==(k:Int)).foldl rawF []:=rfl
 have hw1:IntKind.i64.wrap ((qg s k).low+1)=(qg s k).low+1:=AK _ oM;have hw2:IntKind.i64.wrap ((qg s k).low+2)=(qg s k).low+2:=AK _ oM;unfold stL;have hsI:∀ x,stIn s k w x=(decide ((qg s k).low<x)&&decide (x≤(qg s k).high)&&(decide (w=0)||(qJ x w==qJ (x-1) w))):=fun x=>rfl;generalize rawS s q k=S at hR1 hR2 hRb hRd ⊢
 generalize stIn s k w=P at hsI ⊢
 generalize qg s k=c at hlh hRd hw1 hw2 hsI ⊢
 generalize (atsQ q).filter (fun x=>x.col==(k:Int))=A at hfl hfm sA hRd;refine sIr qR6 fun e _ hst=>?_;unfold Js;refine sW ?_;refine C1.im sA rF rF ?_;refine sW ?_
 repeat (first | refine⟨oM,?_⟩ | refine⟨kR,?_⟩)
 refine qt mixm (α:=Nat) [9,11] (fun i=>i≤A.length) (fun i=>[(9,vIs ((A.take i).foldl rawF [])),(11,vI i)]) (fun i=>[aR 4096 7 [colT c],aR 4100 17 [qstT q]]) (fun i=>A.length-i) 0 oM ?_ fun i hi=>?_
 ·exact .oA (U2 4096 4100) []
 obtain⟨ra,rb,_⟩:=jt2 (M:=A.take i) [] List.Pairwise.nil;rw[Cz,Cw] at rb;refine sD ?_;refine⟨fun h4=>?_,fun h4=>?_⟩
 ·have hi2:i<A.length:=by omega
  have hwi:=qh (i:=i) oM;have hb:=hfm _ (AX hi2);have hsu:(A.take (i+1)).foldl rawF []=if A[i].op=3 then pinI (pinI ((A.take i).foldl rawF []) A[i].lo) (A[i].hi+1) else (A.take i).foldl rawF []:=by rw[qS hi2,Gq];rfl
  simp only[tZ,↓uU,simprocAttr,Ax,qd hi2,zh,hwi,AY,Ak];generalize (A.take i).foldl rawF []=l at ra rb hsu ⊢
  refine⟨oM,fun h5=>?_,fun h5=>?_⟩
  ·rw[Aj h5] at hsu;have hb2:=hb h5;have hwh:IntKind.i64.wrap (A[i].hi+1)=A[i].hi+1:=AK _ oM;have sP1:=JZ l A[i].lo ra oM;have hl3:=YC l A[i].lo;have sP2:=JZ (pinI l A[i].lo) (A[i].hi+1) (qp3 ra _) oM
   repeat (first | refine⟨oM,?_⟩ | refine⟨kR,?_⟩)
   refine C1.im sP1 rF rF ?_;simp only[tZ,↓uU,simprocAttr,Ax,qd hi2,zh,hwi,hwh]
   repeat (first | refine⟨oM,?_⟩ | refine⟨kR,?_⟩)
   refine C1.im sP2 rF rF ?_;simp only[tZ,↓uU,simprocAttr,hwi];refine⟨kR,i+1,oM,oM,?_⟩;rw[hsu];exact .oA (U2 4096 4100) []
  ·rw[Aq h5] at hsu;refine⟨i+1,oM,oM,?_⟩;rw[hsu];exact .oA (U2 4096 4100) []
 have hil:i=A.length:=by omega
 subst hil;rw[Bw] at ra rb ⊢
 refine C1.im sU rF rF ?_;refine sW ?_;generalize A.foldl rawF []=l at ra rb hRd ⊢
 have hl3:=YC l (c.low+1);have sP1:=JZ l (c.low+1) ra oM;have sP2:=JZ (pinI l (c.low+1)) (c.low+2) (qp3 ra _) oM;refine⟨fun h4=>?_,fun h4=>?_⟩
 focus
  rw[Aj h4] at hRd;rw[hw1];refine C1.im sP1 rF rF ?_;simp only[tZ,↓uU,simprocAttr,hw2]
  repeat (first | refine⟨oM,?_⟩ | refine⟨kR,?_⟩)
  refine C1.im sP2 rF rF ?_;rw[← hRd];refine sW ?_;refine⟨kR,?_⟩;clear hRd h4
 rotate_left
 focus
  rw[Aq (by rw[h4];simp)] at hRd;rw[← hRd];clear hRd h4
 all_goals (
  refine qt mixm (α:=Nat) [12,13] (fun i=>i≤S.length) (fun i=>[(12,.asl 1 ((S.take i).filter P).length),(13,vI i)]) (fun i=>[aR 4096 7 [colT c],aR 1 1 (((S.take i).filter P).map vI)]) (fun i=>S.length-i) 0 oM ?_ fun i hi=>?_
  ·exact .oA [uI 4096,(1,none)] []
  have hfl2:=Fq P (S.take i);rw[Cz] at hfl2;refine sD ?_;refine⟨fun h4=>?_,fun h4=>?_⟩
  ·have hi2:i<S.length:=by omega
   have hwi:=qh (i:=i) oM;have hb:=hRb _ (AX hi2);have hsu:=qV2 (p:=P) hi2;have hwx:IntKind.i64.wrap (S[i]-1)=S[i]-1:=AK _ oM;have hsx:=hsI S[i];have sF1:=fun hw0:0<w=>yU S[i] w hw0 oM;have sF2:=fun hw0:0<w=>yU (S[i]-1) w hw0 oM;simp only[tZ,↓uU,simprocAttr,Ax,qd hi2,hwi,hwx];refine⟨oM,fun _=>by omega,fun _=>by omega,?_⟩;refine C2.im (fun h=>sF1 (by have:=Ak.1 h.2;omega)) (fun _=>rfl) rF ?_;simp only[tZ,↓uU,simprocAttr,hwx,Ax,qd hi2];refine⟨fun _=>by omega,?_⟩;refine C2.im (fun h=>sF2 (by have:=Ak.1 h.2;omega)) (fun _=>rfl) rF ?_;simp only[tZ,↓uU,simprocAttr,hwi,Ax,qd hi2];refine⟨kR,fun h5=>?_,fun h5=>?_⟩
   ·have hP:P S[i]=true:=by rw[hsx];exact h5
    rw[Aj hP] at hsu;refine⟨oM,oM,i+1,oM,oM,?_⟩;rw[hsu];exact .oA (U2 4096 1) []
   ·have hP:P S[i]=false:=by rw[hsx];exact h5
    rw[Aq (by rw[hP];simp),CW] at hsu;refine⟨i+1,oM,oM,?_⟩;rw[hsu];exact .oA (U2 4096 1) []
  ·have hil:i=S.length:=by omega
   subst hil;rw[Bw];exact .oA [] [1]
  )
def jt3 (s:Sch) (q:Qst) (k:Nat) (lev:Int) (r:Int×Int×Bool):Prop:=
 (mxl (wI s q) k=lev+1∧∃ a b,qD1 s q k lev a b∧r=(a,b,true))∨(mxl (wI s q) k≤lev∧r=(0,0,false))
theorem jD2 {s:Sch} {q:Qst} (hqe:qstE s q=0) {k:Nat} (h0:0<k) (hk:k<s.cols.length) (a b:Int):Qk s q k a b=(qT s k a&&qT s k b&&jJ s q k a b):=by
 rw[Qk,hqe,zp8 oM hk,zp8 oM hk];simp
theorem QZ {s:Sch} {q:Qst} (hqe:qstE s q=0) {k:Nat} (h0:0<k) (hk:k<s.cols.length) (a b:Int):Qk s q k a b=true↔qT s k a=true∧qT s k b=true∧jJ s q k a b=true:=by
 rw[jD2 hqe h0 hk,Bq,Bq,and_assoc]
theorem jQ7 (l:CodL) (lev:Int):(atL l lev).Pairwise (·<·):=by
 unfold atL;split
 ·exact List.Pairwise.nil
 ·rw[List.pairwise_map];exact (List.pairwise_lt_range.filter _).imp fun h=>by omega
theorem zZ6 {s:Sch} {q:Qst} (hqe:qstE s q=0) {k:Nat} (h0:0<k) (hk:k<s.cols.length) (h2:(qg s k).kind=2) {lev:Nat} (hl:(lev:Int)≤finI s k) {r:Int×Int×Bool} (hr:jt3 s q k lev r) :
 ∃ I J:Nat,I≤(qE s k).length∧
  (∀ (i j:Nat) (hi:i<(qE s k).length) (hj:j<(qE s k).length),i<j→i≤I→(i=I→j≤J)→qk s k lev (qE s k)[i]=qk s k lev (qE s k)[j]→Qk s q k (qE s k)[i] (qE s k)[j]=true→r=((qE s k)[i],(qE s k)[j],true))∧
  (∀ hI:I<(qE s k).length,I<J∧∃ hJ:J<(qE s k).length,qk s k lev (qE s k)[I]=qk s k lev (qE s k)[J]∧Qk s q k (qE s k)[I] (qE s k)[J]=true)∧
  (I=(qE s k).length→r=(0,0,false)):=by
 have hq:=wE hqe;have hE:=hq.sch;have hok:=qV hE;have hasc:(qE s k).Pairwise (·<·):=jQ7 _ _;have hmem:∀ v,qT s k v=true↔v∈qE s k:=fun v=>jq hok hk h2;generalize qE s k=L at hasc hmem;have hlt:∀ (i j:Nat) (hi:i<L.length) (hj:j<L.length),i<j→L[i]<L[j]:=fun i j hi hj h=>DX.1 hasc i j hi hj h;have hle:∀ (i j:Nat) (hi:i<L.length) (hj:j<L.length),L[i]<L[j]→i<j:=fun i j hi hj h=>AQ fun hn=>by
  rcases Nat.lt_or_ge j i with g | g
  ·have:=hlt j i hj hi g;omega
  ·obtain rfl:i=j:=by omega
   omega
 rcases hr with⟨hn,a,b,hP,rfl⟩ | ⟨hn,rfl⟩
 ·unfold qD1 at hP;rw[Aj h2] at hP;obtain⟨I,hI,e1⟩:=CX ((hmem a).1 hP.hx);obtain⟨J,hJ,e2⟩:=CX ((hmem b).1 hP.hy);have hIJ:=hle I J hI hJ (by rw[e1,e2];exact hP.lt);refine⟨I,J,oM,fun i j hi hj hij hiI hjJ hc ht=>?_,fun hI2=>⟨hIJ,hJ,by rw[e1,e2];exact hP.qb.1,by rw[e1,e2,QZ hqe h0 hk];exact⟨hP.hx,hP.hy,hP.qb.2⟩⟩,fun e=>by omega⟩;obtain⟨t1,t2,t3⟩:=(QZ hqe h0 hk _ _).1 ht;have hle2:=hP.least _ _ t1 t2 (hlt i j hi hj hij) ⟨hc,t3⟩;have hiI2:i=I:=AQ fun hne=>by
   have:=hlt i I hi hI oM;rw[e1] at this;omega
  subst hiI2;have hjJ2:j=J:=AQ fun hne=>by
   have:=hlt j J hj hJ (by have:=hjJ rfl;omega);rw[e2] at this;omega
  subst hjJ2;rw[e1,e2]
 ·refine⟨L.length,0,BZ _,fun i j hi hj hij _ _ hc ht=>?_,fun h=>absurd h oM,fun _=>rfl⟩;obtain⟨t1,t2,t3⟩:=(QZ hqe h0 hk _ _).1 ht;rw[zp4 hq h0 hk hn hl t1 t2 hc] at t3;cases t3
theorem jD3 {s:Sch} {q:Qst} (hqe:qstE s q=0) {k:Nat} (h0:0<k) (hk:k<s.cols.length) (h2:(qg s k).kind≠2) (ho:(qg s k).opt=true) {r:Int×Int×Bool} (hr:jt3 s q k (0:Nat) r) {M:List Int} (hM:M.Pairwise (·<·)) (hM1:(qg s k).low∈M) (hM2:∀ x∈M,(qg s k).low≤x∧x≤(qg s k).high) :
 ∃ T:Nat,T≤M.length∧(∀ (i:Nat) (hi:i<M.length),i≤T→Qk s q k zn M[i]=true→r=(zn,M[i],true))∧(∀ hT:T<M.length,Qk s q k zn M[T]=true)∧(T=M.length→r=(0,0,false)):=by
 have hq:=wE hqe;have hE:=hq.sch;have hm:=zK hE hk h0 h2;have hlh:=hm.lh;have hMi:qT s k zn=true:=(zx hm.kind).2 (.inl ⟨ho,rfl⟩);have hH:∀ v,(qg s k).low≤v→v≤(qg s k).high→qT s k v=true:=fun v h1 h2=>(zx hm.kind).2 (.inr ⟨h1,h2⟩);rcases hr with⟨hn,a,b,hP,rfl⟩ | ⟨hn,rfl⟩
 ·unfold qD1 at hP;rw[Aq h2,Aj ⟨rF,ho⟩] at hP;obtain⟨rfl,rfl⟩:=hP;obtain⟨n,hnl,e⟩:=CX hM1;have hn0:n=0:=AQ fun hne=>by
   have h3:=DX.1 hM 0 n oM hnl oM;have h4:=(hM2 _ (AX (show 0<M.length by omega))).1;omega
  subst hn0;refine⟨0,oM,fun i hi hi0 _=>?_,fun hT=>?_,fun h=>by omega⟩
  ·obtain rfl:i=0:=by omega
   rw[e]
  ·rw[e,QZ hqe h0 hk];exact⟨hMi,hH _ (Int.le_refl _) oM,js6 hq h0 hk h2 oM fun e=>by unfold zn at e;omega⟩
 ·refine⟨M.length,BZ _,fun i hi _ ht=>?_,fun h=>absurd h oM,fun _=>rfl⟩;obtain⟨t1,t2,t3⟩:=(QZ hqe h0 hk _ _).1 ht;rw[zp4 hq h0 hk (L:=0) hn (by have:=JQ hE h0 hk;omega) t1 t2 ((ZC hE hk h0 h2 t1).trans (ZC hE hk h0 h2 t2).symm)] at t3;cases t3
def widQ (s:Sch) (k:Nat) (lev:Nat):Int:=if lev=0 then 0 else qK (qg s k) lev
theorem qy0 {s:Sch} (hE:schE s=0) {k:Nat} (hk:k<s.cols.length) (h0:0<k) (h2:(qg s k).kind≠2) {lev:Nat} (hl:(lev:Int)≤finI s k) (hne:lev≠0) {v:Int} (h1:(qg s k).low≤v) (h3:v≤(qg s k).high):qk s k lev v=qJ v (qK (qg s k) lev)*qK (qg s k) lev:=by
 have hm:=zK hE hk h0 h2;have hlh:=hm.lh;rw[JR hm hl ((zx hm.kind).2 (.inr ⟨h1,h3⟩)),Aq hne,Aq (fun e=>by unfold zn at e;omega)]
theorem jW8 {s:Sch} {q:Qst} (hE:schE s=0) {k:Nat} (hk:k<s.cols.length) (h0:0<k) (h2:(qg s k).kind≠2) {lev:Nat} (hl:(lev:Int)≤finI s k):∀ x∈stL s q k (widQ s k lev),(qg s k).low<x∧x≤(qg s k).high∧qk s k lev (x-1)=qk s k lev x:=fun x hx=>by
 have hm:=zK hE hk h0 h2;have hH:∀ v,(qg s k).low≤v→v≤(qg s k).high→qT s k v=true:=fun v h1 h2=>(zx hm.kind).2 (.inr ⟨h1,h2⟩);have h3:=(Fx.1 hx).2;unfold stIn widQ at h3;rw[Bq,Bq,AZ,AZ,DZ,AZ,AY] at h3;obtain⟨⟨a,b⟩,c⟩:=h3;refine⟨a,b,?_⟩;by_cases e:lev=0
 ·subst e;exact (ZC hE hk h0 h2 (hH _ oM oM)).trans (ZC hE hk h0 h2 (hH _ oM oM)).symm
 ·have hf:=hm.fin;have hw:=hm.wid lev oM oM;rw[Aq e] at c;rw[qy0 hE hk h0 h2 hl e oM oM,qy0 hE hk h0 h2 hl e oM oM];rcases c with c | c
  ·omega
  ·rw[c]
theorem jD4 {s:Sch} {q:Qst} (hq:QstOk s q) {k:Nat} (hk:k<s.cols.length) (h0:0<k) (h2:(qg s k).kind≠2) {lev:Nat} (hl:(lev:Int)≤finI s k) {b:Int} (hL:LeastX s q k lev b):b∈stL s q k (widQ s k lev):=by
 have hE:=hq.sch;have hm:=zK hE hk h0 h2;have hlo:=hL.lo;have hhi:=hL.hi;refine Fx.2 ⟨((zq0 (s:=s) (q:=q) (k:=k)).2.2 b).2 ?_,?_⟩
 ·rcases zh3 hq hk h0 h2 hl hL with⟨h1,h3⟩ | ⟨x,hx,e,o,hb⟩
  ·refine .inr ⟨?_,h3⟩;unfold usB at h1;rw[Bq] at h1;exact h1.2
  ·exact .inl ⟨x,hx,e,o,hb⟩
 ·unfold stIn widQ;rw[Bq,Bq,AZ,AZ,DZ,AZ,AY];refine⟨⟨hlo,hhi⟩,?_⟩;by_cases e:lev=0
  ·exact .inl (Aj e)
  ·right
   have hf:=hm.fin;have hw:=hm.wid lev oM oM;have hc:=hL.qb.1;rw[qy0 hE hk h0 h2 hl e oM oM,qy0 hE hk h0 h2 hl e oM oM] at hc;rw[Aq e];exact (Int.eq_of_mul_eq_mul_right oM hc).symm
theorem jt4 (s:Sch) (q:Qst) (k:Nat) (w:Int):(stL s q k w).Pairwise (·<·):=(zq0 (s:=s) (q:=q) (k:=k)).1.filter _
theorem jQ8 {s:Sch} {q:Qst} (hq:QstOk s q) (k:Nat) (w:Int):(stL s q k w).length≤200:=by
 obtain⟨f2,f3,_,_⟩:=JW hq;have hl1:=kY q.filt 41 oM f2;have hl2:=kY q.event 41 oM f3;have h1:=(zq0 (s:=s) (q:=q) (k:=k)).2.1;rw[atsQ,AW] at h1;have:=Fq (stIn s k w) (rawS s q k);unfold stL;omega
theorem jt5 {s:Sch} {q:Qst} (hqe:qstE s q=0) {k:Nat} (h0:0<k) (hk:k<s.cols.length) (h2:(qg s k).kind≠2) {lev:Nat} (hl:(lev:Int)≤finI s k) (hz:¬ ((lev:Int)=0∧(qg s k).opt=true)) {r:Int×Int×Bool} (hr:jt3 s q k lev r) :
 ∃ T:Nat,T≤(stL s q k (widQ s k lev)).length∧(∀ (i:Nat) (hi:i<(stL s q k (widQ s k lev)).length),i≤T→Qk s q k (begA s k lev (stL s q k (widQ s k lev))[i]) (stL s q k (widQ s k lev))[i]=true→r=(begA s k lev (stL s q k (widQ s k lev))[i],(stL s q k (widQ s k lev))[i],true))∧(∀ hT:T<(stL s q k (widQ s k lev)).length,Qk s q k (begA s k lev (stL s q k (widQ s k lev))[T]) (stL s q k (widQ s k lev))[T]=true)∧(T=(stL s q k (widQ s k lev)).length→r=(0,0,false)):=by
 have hq:=wE hqe;have hE:=hq.sch;have hm:=zK hE hk h0 h2;have hlh:=hm.lh;have hH:∀ v,(qg s k).low≤v→v≤(qg s k).high→qT s k v=true:=fun v h1 h2=>(zx hm.kind).2 (.inr ⟨h1,h2⟩);have hst:=jW8 (q:=q) hE hk h0 h2 hl;have hasc:=jt4 s q k (widQ s k lev);have hls:=fun b (hL:LeastX s q k lev b)=>jD4 hq hk h0 h2 hl hL;generalize stL s q k (widQ s k lev)=M at hst hasc hls;rcases hr with⟨hn,a,b,hP,rfl⟩ | ⟨hn,rfl⟩
 ·unfold qD1 at hP;rw[Aq h2,Aq hz] at hP;obtain⟨hL,ha⟩:=hP;have hab:a=begA s k lev b:=ha;obtain⟨T,hT,hTb,hTl⟩:=zC8 (hasc.imp fun h=>by omega) (hls b hL);refine⟨T,oM,fun i hi hiT ht=>?_,fun hT2=>?_,fun h=>by omega⟩
  ·obtain⟨x1,x2,x3⟩:=hst _ (AX hi);obtain⟨g1,g2,g3⟩:=zJ4 hE hk h0 h2 hl x1 x2 x3;obtain⟨_,_,t3⟩:=(QZ hqe h0 hk _ _).1 ht;have h3:=zZ5 hE hk h0 h2 hl hL g1 g2 x2 g3 t3;have hiT2:i=T:=AQ fun hne=>by
    have:=hTl i oM;omega
   subst hiT2;rw[hTb,hab]
  ·rw[hTb];obtain⟨g1,g2,g3⟩:=zJ4 hE hk h0 h2 hl hL.lo hL.hi hL.qb.1;have hhi:=hL.hi;have hlo:=hL.lo;rw[QZ hqe h0 hk];exact⟨hH _ g1 oM,hH b oM hhi,zZ4 hE hk h0 h2 hl hL g1 g2 g3⟩
 ·refine⟨M.length,BZ _,fun i hi _ ht=>?_,fun h=>absurd h oM,fun _=>rfl⟩;obtain⟨x1,x2,x3⟩:=hst _ (AX hi);obtain⟨_,_,g3⟩:=zJ4 hE hk h0 h2 hl x1 x2 x3;obtain⟨t1,t2,t3⟩:=(QZ hqe h0 hk _ _).1 ht;rw[zp4 hq h0 hk hn hl t1 t2 g3] at t3;cases t3
end Go.Proofs
