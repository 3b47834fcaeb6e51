/- A part of the proof: trees of Go values, short forms, contracts. -/
import Derived.Test.YtnfagfikoblhfaaGreatDoorK23
set_option linter.unusedSimpArgs false
set_option linter.unusedVariables false
namespace Go.Proofs
open Go Go.TL
open Go.TL.So
set_option maxHeartbeats 2000000
noncomputable def yF (xs:List Int) (a b:Nat):Nat×Int:=
 open Classical in if h:a+12<b∧b≤xs.length∧xs.length<65536 then Classical.choose (zL xs a b h.1 h.2.1 oM) else (a,0)
noncomputable def Qw (xs:List Int) (a b:Nat):List Int:=
 open Classical in if h:a≤b∧b≤xs.length∧xs.length<65536 then Classical.choose (zm xs a b h.1 h.2.1 h.2.2) else xs
theorem zr2 (xs:List Int) (a b:Nat) (h1:a+12<b) (h2:b≤xs.length):a≤(yF xs a b).1∧(yF xs a b).1<b:=by
 unfold yF;split
 ·rename_i h;exact (Classical.choose_spec (zL xs a b h.1 h.2.1 oM)).1
 ·exact⟨BZ _,by show a<b;omega⟩
theorem jg5 (xs:List Int) (a b:Nat) (h1:a≤b) (h2:b≤xs.length):Sw a b xs (Qw xs a b):=by
 unfold Qw;split
 ·rename_i h;exact (Classical.choose_spec (zm xs a b h.1 h.2.1 h.2.2)).1
 ·exact .refl xs
theorem qV9 (xs:List Int) (a b:Nat):(Qw xs a b).length=xs.length:=by
 unfold Qw;split
 ·rename_i h;exact (Classical.choose_spec (zm xs a b h.1 h.2.1 h.2.2)).1.len
 ·rfl
theorem jq4 (xs:List Int) (a b:Nat) (h1:a+12<b) (h2:b≤xs.length) (h3:xs.length<65536) :
 Sp 270 [.asl 0 xs.length,vI a,vI b] [aR 0 1 (xs.map vI)] (.tup [vI (yF xs a b).1,vI (yF xs a b).2]) [aR 0 1 (xs.map vI)]:=by
 unfold yF;rw[dif_pos ⟨h1,h2,h3⟩];exact (Classical.choose_spec (zL xs a b h1 h2 oM)).2
theorem jq5 (xs:List Int) (a b:Nat) (h1:a≤b) (h2:b≤xs.length) (h3:xs.length<65536) :
 Sp 269 [.asl 0 xs.length,vI a,vI b] [aR 0 1 (xs.map vI)] (.tup []) [aR 0 1 ((Qw xs a b).map vI)]:=by
 unfold Qw;rw[dif_pos ⟨h1,h2,h3⟩];exact (Classical.choose_spec (zm xs a b h1 h2 h3)).2
theorem Ji:∀ (F:Nat) (xs:List Int) (a b lim:Nat),a≤b→b≤xs.length→xs.length<65536→b<a+F→lim<1000→
 Sp 250 [.asl 0 xs.length,vI a,vI b,vI lim] [aR 0 1 (xs.map vI)] (.tup []) [aR 0 1 ((pdq ltI yF Qw F xs a b lim true true).map vI)]:=by
 intro F
 induction F using Nat.strongRecOn with
 | ind F ih=>
 intro xs a b lim hab hb hl hf hlim;refine yI [10,15,17] Zh mixm sMp fun e _ hst=>qr2 ?_;unfold ja;simp only[Kj,List.contains_cons,List.contains_nil,Nat.reduceBEq,Bool.or_false,Bool.or_true,Bool.true_or,Bool.false_or,cond_true,cond_false];refine sW ?_;generalize hR:pdq ltI yF Qw F xs a b lim true true=R;refine qy mixm (α:=List Int×Nat×Nat×Nat×Bool×Bool×Nat) [1,2,3,8,9] (fun q=>q.1.length=xs.length∧q.2.1≤q.2.2.1∧q.2.2.1≤xs.length∧q.2.2.1<q.2.1+q.2.2.2.2.2.2∧q.2.2.2.2.2.2≤F∧q.2.2.2.1<1000∧pdq ltI yF Qw q.2.2.2.2.2.2 q.1 q.2.1 q.2.2.1 q.2.2.2.1 q.2.2.2.2.1 q.2.2.2.2.2.1=R)
  (fun q=>[(1,vI q.2.1),(2,vI q.2.2.1),(3,vI q.2.2.2.1),(8,vB q.2.2.2.2.1),(9,vB q.2.2.2.2.2.1)]) (fun q=>[aR 0 1 (q.1.map vI)]) (fun q=>q.2.2.2.2.2.2) (xs,a,b,lim,true,true,F) ⟨rfl,hab,hb,hf,BZ _,hlim,hR⟩ ?_ fun q hq=>?_
 ·exact .oA (U1 0) []
 clear hR hf hlim;obtain⟨ys,a,b,lim,wb,wp,g⟩:=q;obtain⟨h1,h2,h3,h4,h5,h6,h7⟩:=hq;dsimp only at h1 h2 h3 h4 h5 h6 h7;dsimp only;obtain⟨g,rfl⟩:∃ k,g=k+1:=⟨g-1,oM⟩;have hw1:IntKind.i64.wrap ((b:Int)-a)=((b-a:Nat):Int):=by rw[AK _ oM];omega
 rw[pdq] at h7;simp only[tZ,↓un_u,simprocAttr,AZ,Ay,hw1];refine⟨fun h8=>?_,fun h8=>?_⟩
 ·rw[Aj oM] at h7;refine C1.upd 0 1 _ _ (yw ys a b h2 oM oM) rF (by apply qj;intro _;exact⟨rfl,rfl⟩) (by apply qj;intro _;exact⟨rfl,rfl⟩) (by rw[h1];exact kv _ _ rF) rF ?_;refine sW ?_;rw[← h7];exact .oA (U1 0) []
 rw[Aq oM] at h7;refine⟨fun h9=>?_,fun h9=>?_⟩
 ·have h9:=AY.1 h9;rw[Aj oM] at h7;refine C1.upd 0 1 _ _ (Zm ys a b oM oM oM) rF (by apply qj;intro _;exact⟨rfl,rfl⟩) (by apply qj;intro _;exact⟨rfl,rfl⟩) (by rw[h1];exact kv _ _ rF) rF ?_;refine sW ?_;rw[← h7];exact .oA (U1 0) []
 have h9:=Ak.1 h9;rw[Aq oM] at h7;obtain⟨x,l2,hx,hl2,h10⟩:∃ (x:List Int) (l2:Nat),(x=if wb=true then ys else Qw ys a b)∧(l2=if wb=true then lim else lim-1)∧pdqP ltI yF (pdq ltI yF Qw g) x a b l2 wb wp=R:=by
  refine⟨_,_,rfl,rfl,?_⟩;rw[← h7];cases wb <;> rfl
 clear h7;have hll:IntKind.i64.wrap ((lim:Int)-1)=((lim-1:Nat):Int):=by rw[AK _ oM];omega
 have hxl:x.length=xs.length:=by
  rw[hx];split
  ·exact h1
  ·rw[qV9];exact h1
 have hl3:l2<1000:=by rw[hl2];split <;> omega
 have cbr:=jq5 ys a b h2 oM oM;apply mid
 ·intro key;refine⟨fun h=>?_,fun h=>?_⟩
  ·have hx':x=Qw ys a b:=by rw[hx,h];rfl
   have hl':l2=lim-1:=by rw[hl2,h];rfl
   refine C1.upd 0 1 _ _ cbr rF (by apply qj;intro _;exact⟨rfl,rfl⟩) (by apply qj;intro _;exact⟨rfl,rfl⟩) (by rw[h1];exact kv _ _ rF) rF ?_;simp only[tZ,↓un_u,simprocAttr,hll];refine W_le [(0,.asl 0 xs.length),(1,vI a),(2,vI b),(3,vI l2),(8,vB wb),(9,vB wp),(10,vI (b-a:Nat))] [aR 0 1 (x.map vI)] ?_ key;rw[hx',hl'];exact .oA (U1 0) []
  ·rw[Bz] at h;have hx':x=ys:=by rw[hx,h];rfl
   have hl':l2=lim:=by rw[hl2,h];rfl
   refine W_le [(0,.asl 0 xs.length),(1,vI a),(2,vI b),(3,vI l2),(8,vB wb),(9,vB wp),(10,vI (b-a:Nat))] [aR 0 1 (x.map vI)] ?_ key;rw[hx',hl'];exact .oA (U1 0) []
 clear hx hl2 hll h9 h1;have hcp:=zr2 x a b oM oM;have hcc:=jq4 x a b oM oM oM;rw[pdqP] at h10;generalize yF x a b=cq at *
 obtain⟨p0,h0⟩:=cq;dsimp only at hcp hcc h10;have hwb1:IntKind.i64.wrap ((b:Int)-1)=((b-1:Nat):Int):=by rw[AK _ oM];omega
 have hwpa:IntKind.i64.wrap ((p0:Int)-(a:Int))=((p0-a:Nat):Int):=by rw[AK _ oM];omega
 have hwpb:IntKind.i64.wrap (((b-1:Nat):Int)-((p0-a:Nat):Int))=((b-1-(p0-a):Nat):Int):=by rw[AK _ oM];omega
 obtain⟨y,pv,hint,hy,hpv,hhint,h11⟩:∃ (y:List Int) (pv:Nat) (hint:Int),(y=if h0=2 then rvs (b-a) a (b-1) x else x)∧(pv=if h0=2 then b-1-(p0-a) else p0)∧(hint=if h0=2 then 1 else h0)∧pdqH ltI (pdq ltI yF Qw g) y a b pv hint l2 wb wp=R:=by
  refine⟨_,_,_,rfl,rfl,rfl,?_⟩;rw[← h10];by_cases e:h0=2
  ·rw[Aj e,Aj e,Aj e,Aj e]
  ·rw[Aq e,Aq e,Aq e,Aq e]
 clear h10;have hyl:y.length=xs.length:=by
  rw[hy];split
  ·rw[zu6];exact hxl
  ·exact hxl
 have hpr:a≤pv∧pv<b:=by
  rw[hpv];split <;> omega
 have crv:=yD x a b oM oM oM;apply mid
 ·intro key;refine sW ?_;refine C1.upd 0 1 _ _ hcc rF (by apply qj;intro _;exact⟨rfl,rfl⟩) (by apply qj;intro _;exact⟨rfl,rfl⟩) (by rw[hxl];exact kv _ _ rF) rF ?_;refine sW ?_;refine⟨fun h=>?_,fun h=>?_⟩
  ·have h:=AY.1 h;have hy':y=rvs (b-a) a (b-1) x:=by rw[hy,Aj h]
   have hp':pv=b-1-(p0-a):=by rw[hpv,Aj h]
   have hh':hint=1:=by rw[hhint,Aj h]
   refine C1.upd 0 1 _ _ crv rF (by apply qj;intro _;exact⟨rfl,rfl⟩) (by apply qj;intro _;exact⟨rfl,rfl⟩) (by rw[hxl];exact kv _ _ rF) rF ?_;simp only[tZ,↓un_u,simprocAttr,hwb1,hwpa,hwpb];refine W_le [(0,.asl 0 xs.length),(1,vI a),(2,vI b),(3,vI l2),(8,vB wb),(9,vB wp),(10,vI (b-a:Nat)),(11,vI pv),(12,vI hint)] [aR 0 1 (y.map vI)] ?_ key;rw[hy',hp',hh'];exact .oA (U1 0) []
  ·have h:=Ak.1 h;have hy':y=x:=by rw[hy,Aq h]
   have hp':pv=p0:=by rw[hpv,Aq h]
   have hh':hint=h0:=by rw[hhint,Aq h]
   refine W_le [(0,.asl 0 xs.length),(1,vI a),(2,vI b),(3,vI l2),(8,vB wb),(9,vB wp),(10,vI (b-a:Nat)),(11,vI pv),(12,vI hint)] [aR 0 1 (y.map vI)] ?_ key;rw[hy',hp',hh'];exact .oA (U1 0) []
 clear hy hpv hhint hcp hcc hwpa hwpb hxl;rw[pdqH] at h11;have cpn:=kz y a b oM oM oM;have hband:(wb&&wp&&(hint==1))=true↔(wb=true∧wp=true∧hint=1):=by simp [and_assoc]
 by_cases hc:(wb=true∧wp=true∧hint=1)∧(pins ltI a b 5 (a+1) y).2=true
 ·rw[Aj hc.1,Aj hc.2] at h11;have hcb:=hband.2 hc.1;simp only[tZ,↓un_u,simprocAttr,hcb];refine C1.upd 0 1 _ _ cpn rF (by apply qj;intro _;exact⟨rfl,rfl⟩) (by apply qj;intro _;exact⟨rfl,rfl⟩) (by rw[hyl];exact kv _ _ rF) rF ?_;rw[hc.2,h11];refine sW ?_;exact .oA (U1 0) []
 obtain⟨z,hz,h12⟩:∃ z:List Int,(z=if wb=true∧wp=true∧hint=1 then (pins ltI a b 5 (a+1) y).1 else y)∧pdqG ltI (pdq ltI yF Qw g) z a b pv l2 wb wp=R:=by
  refine⟨_,rfl,?_⟩;by_cases e:wb=true∧wp=true∧hint=1
  ·rw[Aj e,Aq (fun e2=>hc ⟨e,e2⟩)] at h11;rw[Aj e];exact h11
  ·rw[Aq e] at h11;rw[Aq e];exact h11
 have hzl:z.length=xs.length:=by
  rw[hz];split
  ·rw[qC0];exact hyl
  ·exact hyl
 clear h11;apply mid
 ·intro key;refine sW ?_;refine⟨fun h=>?_,fun h=>?_⟩
  ·have e:=hband.1 h;have hpf:(pins ltI a b 5 (a+1) y).2=false:=by
    cases e2:(pins ltI a b 5 (a+1) y).2 with
    | false=>rfl
    | true=>exact absurd ⟨e,e2⟩ hc
   have hz':z=(pins ltI a b 5 (a+1) y).1:=by rw[hz,Aj e]
   refine C1.upd 0 1 _ _ cpn rF (by apply qj;intro _;exact⟨rfl,rfl⟩) (by apply qj;intro _;exact⟨rfl,rfl⟩) (by rw[hyl];exact kv _ _ rF) rF ?_;rw[hpf];refine sW ?_;refine W_le [(0,.asl 0 xs.length),(1,vI a),(2,vI b),(3,vI l2),(8,vB wb),(9,vB wp),(10,vI (b-a:Nat)),(11,vI pv)] [aR 0 1 (z.map vI)] ?_ key;rw[hz'];exact .oA (U1 0) []
  ·have hz':z=y:=by rw[hz,Aq (fun e=>by rw[hband.2 e] at h;cases h)]
   refine W_le [(0,.asl 0 xs.length),(1,vI a),(2,vI b),(3,vI l2),(8,vB wb),(9,vB wp),(10,vI (b-a:Nat)),(11,vI pv)] [aR 0 1 (z.map vI)] ?_ key;rw[hz'];exact .oA (U1 0) []
 clear hz hc cpn hyl hband;rw[pdqG] at h12;have hwa1:0<a→IntKind.i64.wrap ((a:Int)-1)=((a-1:Nat):Int):=fun h=>by rw[AK _ oM];omega
 simp only[tZ,↓un_u,simprocAttr,Ax,qA (show pv<z.length by omega),za];refine⟨fun h=>by have:=of_decide_eq_true h;rw[hwa1 oM];omega,fun h=>by have:=of_decide_eq_true h;rw[hwa1 oM];omega,fun h=>by omega,fun h=>by omega,?_⟩;refine C2.im (r:=vB (ltI (gd z (a-1)) (gd z pv))) (fun h=>by have:=of_decide_eq_true h;rw[hwa1 oM,Ax,qA (show a-1<z.length by omega)];exact zb (gd z (a-1)) (gd z pv)) (fun h=>by have:=of_decide_eq_true h;rw[hwa1 oM,Ax,qA (show a-1<z.length by omega)];rfl) rfl ?_;refine sW ?_;refine⟨kR,fun h=>?_,fun h=>?_⟩
 ·obtain⟨h13,h14⟩:=dand h;rw[Bx] at h14;rw[Aj ⟨oM,h14⟩] at h12;obtain⟨_,e2,e3,_,_⟩:=qU8 jc4 z hpr.1 hpr.2 oM;have e1:(WJ ltI z a b pv).1.length=z.length:=zm9;refine C1.upd 0 1 _ _ (wP z a b pv oM hpr.1 hpr.2 oM oM) rF (by apply qj;intro _;exact⟨rfl,rfl⟩) (by apply qj;intro _;exact⟨rfl,rfl⟩) (by rw[hzl];exact kv _ _ rF) rF ?_;generalize WJ ltI z a b pv=q at *
  refine sW ?_;refine⟨(q.1,q.2,b,l2,wb,wp,g),⟨by dsimp only;omega,by dsimp only;omega,by dsimp only;omega,by dsimp only;omega,by dsimp only;omega,hl3,h12⟩,by dsimp only;omega,?_⟩;exact .oA (U1 0) []
 have h13:=zm7 h;rw[Aq (fun e=>h13 ⟨oM,by rw[e.2];rfl⟩)] at h12;clear h h13;obtain⟨_,e2,e3,_,_⟩:=qU7 ltI z hpr.1 hpr.2 oM;have e1:(wt ltI z a b pv).1.length=z.length:=zm8;refine C1.upd 0 1 _ _ (QW z a b pv oM hpr.1 hpr.2 oM oM) rF (by apply qj;intro _;exact⟨rfl,rfl⟩) (by apply qj;intro _;exact⟨rfl,rfl⟩) (by rw[hzl];exact kv _ _ rF) rF ?_;generalize wt ltI z a b pv=q at *
 generalize flO ltI z a b pv=fl at *
 obtain⟨u,m⟩:=q;dsimp only at e1 e2 e3 h12;have hwm1:IntKind.i64.wrap ((m:Int)-a)=((m-a:Nat):Int):=by rw[AK _ oM];omega
 have hwm2:IntKind.i64.wrap ((b:Int)-m)=((b-m:Nat):Int):=by rw[AK _ oM];omega
 have hwm3:=qh (i:=m) oM;have hw8:IntKind.i64.wrap (((b-a:Nat):Int).tdiv 8)=(((b-a) / 8:Nat):Int):=by rw[Int.tdiv_eq_ediv_of_nonneg oM,AK _ oM];omega
 have hd1:decide (((m-a:Nat):Int)≥(((b-a) / 8:Nat):Int))=decide ((b-a) / 8≤m-a):=decide_eq_decide.2 oM;have hd2:decide (((b-m:Nat):Int)≥(((b-a) / 8:Nat):Int))=decide ((b-a) / 8≤b-m):=decide_eq_decide.2 oM;have hpl:=fun xs a b l w v=>jb9 (lt:=ltI) (cp:=yF) qV9 g xs a b l w v;simp only[tZ,↓un_u,simprocAttr,AZ,Ay,hwm1,hwm2,hw8];refine⟨fun h=>?_,fun h=>?_⟩
 ·rw[Aj oM] at h12;have hih:=ih g oM u a m l2 e2 oM oM oM hl3;have hpl1:=hpl u a m l2 true true;simp only[tZ,↓un_u,simprocAttr,hd1];refine C1.upd 0 1 _ _ hih rF (by apply qj;intro _;exact⟨rfl,rfl⟩) (by apply qj;intro _;exact⟨rfl,rfl⟩) (by rw[e1,hzl];exact kv _ _ rF) rF ?_;simp only[tZ,↓un_u,simprocAttr,hwm3];refine⟨(pdq ltI yF Qw g u a m l2 true true,m+1,b,l2,decide ((b-a) / 8≤m-a),fl,g),⟨by dsimp only;omega,by dsimp only;omega,by dsimp only;omega,by dsimp only;omega,by dsimp only;omega,hl3,h12⟩,by dsimp only;omega,?_⟩;exact .oA (U1 0) []
 ·rw[Aq oM] at h12;have hih:=ih g oM u (m+1) b l2 oM oM oM oM hl3;have hpl1:=hpl u (m+1) b l2 true true;simp only[tZ,↓un_u,simprocAttr,hd2,hwm3];refine C1.upd 0 1 _ _ hih rF (by apply qj;intro _;exact⟨rfl,rfl⟩) (by apply qj;intro _;exact⟨rfl,rfl⟩) (by rw[e1,hzl];exact kv _ _ rF) rF ?_;refine sW ?_;refine⟨(pdq ltI yF Qw g u (m+1) b l2 true true,a,m,l2,decide ((b-a) / 8≤b-m),fl,g),⟨by dsimp only;omega,by dsimp only;omega,by dsimp only;omega,by dsimp only;omega,by dsimp only;omega,hl3,h12⟩,by dsimp only;omega,?_⟩;exact .oA (U1 0) []
theorem qv8 (xs:List Int) (hl:xs.length<65536):∃ ys,(ys.Perm xs∧Srt ltI ys 0 xs.length)∧
 Sp 199 [.asl 0 xs.length] [aR 0 1 (xs.map vI)] (.tup []) [aR 0 1 (ys.map vI)]:=by
 obtain⟨lim,hlim,hs⟩:=YX xs.length hl;refine⟨pdq ltI yF Qw (xs.length+1) xs 0 xs.length lim true true,jB2 jc4 zr2 jg5 xs lim,?_⟩;have hu:IntKind.u64.wrap (xs.length:Int)=(xs.length:Int):=by rw[IntKind.wrap_u64];omega
 refine sIr qn0 fun e _ hst=>?_;unfold yj;simp only[tZ,↓un_u,simprocAttr,hu];refine C1.im hs rF rF ?_;refine sW ?_;refine C1.upd 0 1 _ _ (Ji (xs.length+1) xs 0 xs.length lim oM oM hl oM oM) rF (by apply qj;intro _;exact⟨rfl,rfl⟩) (by apply qj;intro _;exact⟨rfl,rfl⟩) (kv _ _ rF) rF ?_;refine sW ?_;exact .oA (U1 0) []
set_option maxRecDepth 4000
set_option maxHeartbeats 8000000
theorem Wy (p:Int→Bool) (f:FuncId) (caps:List T) (hcap:imL caps=true) (l:List Int) (hf:∀ y∈l,Sp f (vI y::caps) [] (vB (p y)) []) (hl:l.length<4611686018427387904) :
 Sp 200 [.vw 0 l.length 0 l.length,.clo f caps] [aR 0 1 (l.map vI)] (.asl 1 (l.filter fun y=>!p y).length) [(0,.dead),aR 1 1 ((l.filter fun y=>!p y).map vI)]:=by
 refine sIr Kp fun e _ hst=>?_;unfold jF;refine sW ?_;refine C1.lend [0] (Yc p f caps hcap l hf hl) ?_ rF rF ?_
 ·simp only[tL,simprocAttr,ltV,List.drop_zero,BW,Cy];exact⟨⟨(List.take_of_length_le sMp).symm,oM,(by apply qj;intro _;exact⟨rfl,rfl⟩)⟩,qO hcap⟩
 refine sW ?_;refine⟨fun h1=>?_,fun h1=>?_⟩
 ·have hno:l.any p=false:=by
   cases h:l.any p
   ·rfl
   ·simp [idxI,h] at h1
  have hfl:(l.filter fun y=>!p y)=l:=by
   rw[List.filter_eq_self];intro y hy;have:=List.any_eq_false.1 hno y hy;simpa using this
  rw[hfl];refine .cutv 1 rfl sMp rfl sMp ?_;simp only[KN,BY,List.take_of_length_le (show (l.map vI).length≤l.length by simp)];exact .oA (U2 0 1) []
 ·have hyes:l.any p=true:=by
   cases h:l.any p
   ·simp [idxI,h] at h1
   ·rfl
  rw[show idxI p l=(l.findIdx p:Nat) by rw[idxI,Aj hyes]];have hlt:l.findIdx p<l.length:=List.findIdx_lt_length.2 (by simpa using hyes);obtain⟨F,hF⟩:∃ F:Nat→List Int,F=fun j=>(l.take j).filter fun y=>!p y:=⟨_,rfl⟩;have hF0:F (l.findIdx p+1)=l.take (l.findIdx p):=by
   rw[hF];simp only[qZ hlt,Gz];rw[List.filter_eq_self.2]
   ·simp [List.findIdx_getElem]
   ·intro y hy;obtain⟨j,hj,rfl⟩:=CX hy;rw[Cz] at hj;rw[FZ];have:=List.not_of_lt_findIdx (p:=p) (xs:=l) (i:=j) oM;simpa using this
  have hFs:∀ j (h:j<l.length),F (j+1)=F j++(if p l[j]=true then [] else [l[j]]):=by
   intro j h;rw[hF];simp only[qZ h,Gz]
   congr 1
   cases hp:p l[j] <;> simp [hp]
  have hFl:∀ j,(F j).length≤j:=fun j=>by
   rw[hF];have:=Fq (fun y=>!p y) (l.take j);rw[Cz] at this;simp only;omega
  simp only[qh (show l.findIdx p<4611686018427387904 by omega)];refine qy mixm (α:=Nat×List Int) [5,6] (fun x=>x.1≤l.length∧x.2.length=l.length∧(F x.1).length<x.1∧x.2.take (F x.1).length=F x.1∧x.2.drop x.1=l.drop x.1) (fun x=>[(5,vI (F x.1).length),(6,vI x.1)]) (fun x=>[aR 0 1 (x.2.map vI)]) (fun x=>l.length-x.1) (l.findIdx p+1,l) ?_ ?_ fun x hx=>?_
  ·refine⟨by simp only;omega,rfl,?_,?_,rfl⟩
   ·simp only[hF0,Cz];omega
   ·simp only[hF0,Cz,Nat.min_eq_left (Nat.le_of_lt hlt)]
  ·have hFl0:(F (l.findIdx p+1)).length=l.findIdx p:=by
    rw[hF0,Cz];omega
   refine .of (U1 0) [] rfl (by first | rfl | (rw[hst];rfl)) ?_ ?_
   all_goals (try simp only[tL,simprocAttr,By,List.map_cons,List.map_nil,BW,Cy,hFl0])
   all_goals (try (repeat' (first | exact qY | (apply zf;intro _;exact⟨rfl,rfl⟩) | (apply qj;intro _;exact⟨rfl,rfl⟩) | with_reducible apply qS | with_reducible refine qz ⟨rfl,rfl⟩ ?_ | exact qK | with_reducible apply qR | with_reducible refine qT ⟨rfl,rfl,?_⟩ ?_ | with_reducible apply Az | exact qO rfl | exact qO (by assumption) | (refine⟨⟨?_,rfl,?_,rfl,?_⟩,trivial⟩ <;> first | (simp;done) | (apply qj;intro _;exact⟨rfl,rfl⟩)) | trivial | rfl | (rw[qh oM]) | omega)))
  obtain⟨j,A⟩:=x;obtain⟨hj,hA,hFj,hA1,hA2⟩:=hx;dsimp only at hj hA hFj hA1 hA2;simp only[tZ,↓un_u,simprocAttr,AZ,Ay,BY,hA];refine⟨fun h=>?_,fun h=>?_⟩
  ·have hj2:j<l.length:=by omega
   have hj3:j<A.length:=by omega
   have hAj:A[j]=l[j]:=by
    have h1:=List.drop_eq_getElem_cons hj3;rw[hA2,List.drop_eq_getElem_cons hj2] at h1;injection h1 with h1 _;exact h1.symm
   have hAd:A.drop (j+1)=l.drop (j+1):=by
    rw[← List.drop_drop,← List.drop_drop,hA2]
   simp only[Ax,qd hj3,hAj];refine⟨oM,hj2,?_⟩;refine C1.im (hf l[j] (AX hj2)) (Zu rfl hcap) rfl ?_;have hs:=hFs j hj2;have hw1:=qh (i:=j) oM;have hw2:=qh (i:=(F j).length) oM;simp only[tZ,↓un_u,simprocAttr,BY,hA,hw1,hw2,Ax];have hFlt:(F j).length<A.length:=by omega
   refine⟨fun h3=>?_,fun h3=>?_⟩
   ·have h3:p l[j]=false:=by simpa using h3
    rw[Aq (by rw[h3];simp)] at hs;simp only[qd hFlt,show ∀ a b,repl (vI a) 0 (vI b)=vI b from fun _ _=>rfl];rw[← List.map_set];refine⟨oM,⟨oM,by first | rfl | trivial⟩,?_⟩;refine⟨(j+1,A.set (F j).length l[j]),⟨hj2,by simpa using hA,?_,?_,?_⟩,by simp only;omega,?_⟩
    ·simp only[hs,AW,CJ,Cw];omega
    ·simp only[hs,AW,CJ,Cw,Nat.zero_add];rw[qZ (by rw[Fy];omega),List.take_set_of_le (BZ _),hA1,List.getElem_set_self]
    ·simp only;rw[List.drop_set_of_lt oM,hAd]
    ·simp only[hs,AW,CJ,Cw,Nat.zero_add];exact .oA (U1 0) []
   ·have h3:p l[j]=true:=by simpa using h3
    rw[Aj h3,CW] at hs;refine⟨(j+1,A),⟨hj2,hA,?_,?_,hAd⟩,by simp only;omega,?_⟩
    ·simp only[hs];omega
    ·simp only[hs];exact hA1
    ·simp only[hs];exact .oA (U1 0) []
  ·have hj2:j=l.length:=by omega
   subst hj2;have hFe:(l.filter fun y=>!p y)=F l.length:=by rw[hF];simp only[Bw]
   rw[hFe];have e1:(l.length:Int).toNat=l.length:=Ax _;have e2:((F l.length).length:Int).toNat=(F l.length).length:=Ax _;simp only[e1,e2,Cz,List.length_drop,List.length_replicate,BY,hA];refine⟨oM,oM,oM,?_⟩;refine .cutv 1 rfl (by simp;omega) rfl (by simp;omega) ?_;have hcut:(((A.map vI).take (F l.length).length++List.replicate (l.length-(F l.length).length) (T.v (.int .i64 0))++(A.map vI).drop ((F l.length).length+(l.length-(F l.length).length))).take (F l.length).length)=(F l.length).map vI:=by
    rw[Dj,List.take_append_of_le_length (by rw[Cz,BY];omega),List.take_take,Nat.min_self,← List.map_take,hA1]
   simp only[Nat.sub_zero,Nat.zero_add,KN,Dj] at hcut ⊢
   rw[hcut];exact .oA (U2 0 1) []
theorem qq4 (x:Int) (c:Col):Sp 201 [vI x,.ip (colT c).cells] [] (vB (decide (x≤c.low)||decide (x>c.high))) []:=by
 refine sIr qg9 fun e _ hst=>?_;unfold wA;refine sW ?_;exact .oA [] []
theorem jD6 {l:List Int} (h:Srt ltI l 0 l.length):l.Pairwise (·≤·):=by
 rw[DX];intro i j hi hj hij;have h2:=h i j oM hij hj;rw[zm2 hi,zm2 hj] at h2;unfold lew ltI at h2;simp only[Ay] at h2;omega
theorem qB4 (s:Sch) (hE:schE s=0) (q:Qst) (hq:QstOk s q) (k:Nat) (hk:k<s.cols.length) (h0:0<k) (h2:(qg s k).kind≠2) :
 ∃ F:List Int,(F.Pairwise (·≤·)∧(∀ x,x∈F↔x∈edgL s q k∧(qg s k).low<x∧x≤(qg s k).high)∧F.length≤200)∧Sp 142 [schT s,qstT q,vI k] [] (vIs F) []:=by
 obtain⟨f2,f3,_,_⟩:=YW hq;have hl1:=QV q.filt 41 oM f2;have hl2:=QV q.event 41 oM f3;have hel1:=qC8 k (atsC q.filt);have hel2:=qC8 k (atsC q.event);have hm:=kQ hE hk h0 h2;have hlh:=hm.lh;have hat:qg s k=s.cols[k]:=by rw[qg,qk hk]
 obtain⟨L0,hL0⟩:∃ L0:List Int,L0=if usB q k=true then [(qg s k).low+1,(qg s k).low+2] else []:=⟨_,rfl⟩
 have hL2:L0.length≤2:=by rw[hL0];split <;> simp
 have hEd:edgL s q k=(L0++edgA k (atsC q.filt))++edgA k (atsC q.event):=by rw[hL0];rfl
 have hEl:(edgL s q k).length≤170:=by rw[hEd,AW,AW];omega
 obtain⟨ys,⟨hp,hso⟩,hsc⟩:=qv8 (edgL s q k) oM;have hpl:=hp.length_eq;rw[← hpl] at hso;have hasc:=jD6 hso;have hdl:=Fq (fun y=>!(decide (y≤(qg s k).low)||decide (y>(qg s k).high))) ys;have hdf:=Wy (fun x=>decide (x≤(qg s k).low)||decide (x>(qg s k).high)) 201 [.ip (colT (qg s k)).cells] rfl ys (fun x _=>qq4 x (qg s k)) oM;refine⟨ys.filter fun y=>!(decide (y≤(qg s k).low)||decide (y>(qg s k).high)),⟨hasc.filter _,fun x=>?_,oM⟩,?_⟩
 ·rw[Fx,hp.mem_iff];simp only[Bx,FQ,Ay];constructor
  ·rintro ⟨a,b,c⟩;exact⟨a,oM,oM⟩
  ·rintro ⟨a,b,c⟩;exact⟨a,oM,oM⟩
 have sU:=wq q k (by have:=hq.nt;omega);have hw1:IntKind.i64.wrap ((qg s k).low+1)=(qg s k).low+1:=AK _ oM;have hw2:IntKind.i64.wrap ((qg s k).low+2)=(qg s k).low+2:=AK _ oM;have sA1:=kP q.filt 41 oM oM f2;have sA2:=kP q.event 41 oM oM f3;rw[hat] at *
 refine yI [5] qs8 mixm sMp fun e _ hst=>qr2 ?_;unfold yQ;simp only[Kj,List.contains_cons,List.contains_nil,Nat.reduceBEq,Bool.or_false,Bool.or_true,Bool.true_or,Bool.false_or,cond_true,cond_false];simp only[tZ,↓un_u,simprocAttr,Ax,qd hk];generalize s.cols[k]=c at *
 refine⟨oM,?_⟩;refine C1.im sU rF rF ?_;simp only[tZ,↓un_u,simprocAttr,tD,hw1,hw2];have hcT:colT c = .agg [vS c.name,vI c.kind,vI c.list,vI c.low,vI c.high,vIs c.widths,vB c.opt]:=rfl;refine⟨fun h4=>?_,fun h4=>?_⟩
 focus
  rw[Aj h4] at hL0;refine W_le [(2,vI k),(4,.ptr 4100 1 0 0),(7,.ptr 8212 1 0 0),(8,.asl 1 L0.length)] [aR 4100 17 [qstT q],aR 8212 7 [colT c],aR 1 1 (L0.map vI)] ?_ ?_
  ·rw[hL0];exact .oA [uI 4100,uI 8212,(1,some 20512)] []
  clear hL0 h4
 rotate_left
 focus
  rw[Aq (by rw[h4];simp)] at hL0;refine W_le [(2,vI k),(4,.ptr 4100 1 0 0),(7,.ptr 8212 1 0 0),(8,.asl 1 L0.length)] [aR 4100 17 [qstT q],aR 8212 7 [colT c],aR 1 1 (L0.map vI)] ?_ ?_
  ·rw[hL0];exact .oA [uI 4100,uI 8212,(1,none)] []
  clear hL0 h4
 all_goals (
  simp only[tZ,↓un_u,simprocAttr,zp];refine C1.im sA1 rF rF ?_;refine sW ?_
  repeat (first | refine⟨oM,?_⟩ | refine⟨kR,?_⟩)
  generalize hA:atsC q.filt=A at *
  generalize hB:atsC q.event=B at *
  refine qy mixm (α:=Nat) [8,34] (fun i=>i≤A.length) (fun i=>[(8,.asl 1 (L0++edgA k (A.take i)).length),(34,vI i)]) (fun i=>[aR 4100 17 [qstT q],aR 8212 7 [colT c],aR 1 1 ((L0++edgA k (A.take i)).map vI)]) (fun i=>A.length-i) 0 oM ?_ fun i hi=>?_
  ·rw[show L0++edgA k (A.take 0)=L0 by simp [edgA]];exact .oA (U3 4100 8212 1) []
  have hle:=qC8 k (A.take i);rw[Cz] at hle;have hll:(L0++edgA k (A.take i)).length≤100:=by rw[AW];omega
  simp only[tZ,↓un_u,simprocAttr,tD,AY,Ak];refine⟨fun h5=>?_,fun h5=>?_⟩
  ·have hi2:i<A.length:=by omega
   have hwi:=qh (i:=i) oM;have hsu:=zr1 k hi2;simp only[tZ,↓un_u,simprocAttr,Ax,qd hi2,zp,hwi,AY,Ak];refine⟨oM,fun h6=>?_,fun h6=>?_⟩
   ·rw[Aj h6] at hsu;refine⟨by rw[AW] at hll;omega,i+1,oM,oM,?_⟩;rw[hsu];refine .of (U3 4100 8212 1) [] rfl (by first | rfl | (rw[hst];rfl)) ?_ ?_
    all_goals (try simp only[tL,simprocAttr,By,List.map_cons,List.map_nil,BW,Cy,By,AW,CJ,Cw,Dj])
    all_goals (try (repeat' (first | exact qY | (apply zf;intro _;exact⟨rfl,rfl⟩) | (apply qj;intro _;exact⟨rfl,rfl⟩) | with_reducible apply qS | with_reducible refine qz ⟨rfl,rfl⟩ ?_ | exact qK | with_reducible apply qR | with_reducible refine qT ⟨rfl,rfl,?_⟩ ?_ | with_reducible apply Az | exact qO rfl | exact qO (by assumption) | (refine⟨⟨?_,rfl,?_,rfl,?_⟩,trivial⟩ <;> first | (simp;done) | (apply qj;intro _;exact⟨rfl,rfl⟩)) | trivial | rfl | (rw[qh oM]) | omega)))
   ·rw[Aq h6,CW] at hsu;refine⟨i+1,oM,oM,?_⟩;rw[hsu];exact .oA (U3 4100 8212 1) []
  have hil:i=A.length:=by omega
  subst hil;rw[Bw];clear hi h5 hll hle;have hl3:(L0++edgA k A).length≤90:=by rw[AW];omega
  rw[show L0.length+(edgA k A).length=(L0++edgA k A).length by rw[AW]];generalize L0++edgA k A=M at hl3 hEd ⊢
  refine C1.im sA2 rF rF ?_;refine sW ?_
  repeat (first | refine⟨oM,?_⟩ | refine⟨kR,?_⟩)
  refine qy mixm (α:=Nat) [8,55] (fun i=>i≤B.length) (fun i=>[(8,.asl 1 (M++edgA k (B.take i)).length),(55,vI i)]) (fun i=>[aR 8212 7 [colT c],aR 1 1 ((M++edgA k (B.take i)).map vI)]) (fun i=>B.length-i) 0 oM ?_ fun i hi=>?_
  ·rw[show M++edgA k (B.take 0)=M by simp [edgA]];exact .oA (U2 8212 1) []
  have hle:=qC8 k (B.take i);rw[Cz] at hle;have hll:(M++edgA k (B.take i)).length≤200:=by rw[AW];omega
  simp only[tZ,↓un_u,simprocAttr,tD,AY,Ak];refine⟨fun h5=>?_,fun h5=>?_⟩
  ·have hi2:i<B.length:=by omega
   have hwi:=qh (i:=i) oM;have hsu:=zr1 k hi2;simp only[tZ,↓un_u,simprocAttr,Ax,qd hi2,zp,hwi,AY,Ak];refine⟨oM,fun h6=>?_,fun h6=>?_⟩
   ·rw[Aj h6] at hsu;refine⟨by rw[AW] at hll;omega,i+1,oM,oM,?_⟩;rw[hsu];refine .of (U2 8212 1) [] rfl (by first | rfl | (rw[hst];rfl)) ?_ ?_
    all_goals (try simp only[tL,simprocAttr,By,List.map_cons,List.map_nil,BW,Cy,By,AW,CJ,Cw,Dj])
    all_goals (try (repeat' (first | exact qY | (apply zf;intro _;exact⟨rfl,rfl⟩) | (apply qj;intro _;exact⟨rfl,rfl⟩) | with_reducible apply qS | with_reducible refine qz ⟨rfl,rfl⟩ ?_ | exact qK | with_reducible apply qR | with_reducible refine qT ⟨rfl,rfl,?_⟩ ?_ | with_reducible apply Az | exact qO rfl | exact qO (by assumption) | (refine⟨⟨?_,rfl,?_,rfl,?_⟩,trivial⟩ <;> first | (simp;done) | (apply qj;intro _;exact⟨rfl,rfl⟩)) | trivial | rfl | (rw[qh oM]) | omega)))
   ·rw[Aq h6,CW] at hsu;refine⟨i+1,oM,oM,?_⟩;rw[hsu];exact .oA (U2 8212 1) []
  have hil:i=B.length:=by omega
  subst hil;rw[Bw,show M.length+(edgA k B).length=(M++edgA k B).length by rw[AW],← hEd];generalize edgL s q k=Z at hsc hpl hEl ⊢
  refine C1.upd 1 1 _ _ hsc rF (by apply qj;intro _;exact⟨rfl,rfl⟩) (by apply qj;intro _;exact⟨rfl,rfl⟩) ⟨by simp [ltA,ltC,ltC0,TL.get],trivial⟩ rF ?_;refine sW ?_;rw[← hpl];refine C1.cutback 1 77832 1 [8212] hdf rF (by apply qj;intro _;exact⟨rfl,rfl⟩) (by apply qj;intro _;exact⟨rfl,rfl⟩) (by apply jA8;intro _;rfl) rF ?_ rF ?_
  ·simp only[tL,simprocAttr,ltP,BW,Cy];exact⟨rfl,qz (x:=colT c) ⟨rfl,rfl⟩ qK⟩
  refine sW ?_;refine .of [] [77832] rfl (by first | rfl | (rw[hst];rfl)) ?_ ?_
  all_goals (try simp only[tL,simprocAttr,By,List.map_cons,List.map_nil,BW,Cy])
  all_goals (try (repeat' (first | exact qY | (apply zf;intro _;exact⟨rfl,rfl⟩) | (apply qj;intro _;exact⟨rfl,rfl⟩) | with_reducible apply qS | with_reducible refine qz ⟨rfl,rfl⟩ ?_ | exact qK | with_reducible apply qR | with_reducible refine qT ⟨rfl,rfl,?_⟩ ?_ | with_reducible apply Az | exact qO rfl | exact qO (by assumption) | (refine⟨⟨?_,rfl,?_,rfl,?_⟩,trivial⟩ <;> first | (simp;done) | (apply qj;intro _;exact⟨rfl,rfl⟩)) | trivial | rfl | (rw[qh oM]) | omega)))
  )
theorem Kf (s:Sch) (q:Qst) (k:Nat) (lev a b:Int) (hq:QstOk s q) (h0:0<k) (hk:k<s.cols.length) (h2:(qg s k).kind≠2) (hl0:0≤lev) (hl:lev≤finI s k) (hP:qB1 s q k lev a b):Sp 75 [schT s,qstT q,vI k,vI lev] [] (.tup [vI a,vI b]) []:=by
 have hE:=hq.sch;have hok:=zc hE;have hs:=hok.sm;obtain⟨F,⟨hF1,hF2,hF3⟩,sE⟩:=qB4 s hE q hq k hk h0 h2;have hm:=kQ hE hk h0 h2;have hlh:=hm.lh;have hat:qg s k=s.cols[k]:=by rw[qg,qk hk]
 have sC:=fun v=>ZZ s hs k lev v;have sT:=fun x y=>WH s hok q hq.nd hq.nt (qV7 hq) k x y;have sU:=wq q k (by have:=hq.nt;omega);obtain⟨L,rfl⟩:=AJ hl0;unfold qB1 at hP;rw[Aq h2] at hP;by_cases hz:(L:Int)=0∧(qg s k).opt=true
 ·rw[Aj hz] at hP;obtain⟨rfl,rfl⟩:=hP;obtain⟨z1,z2⟩:=hz;rw[hat] at z2 ⊢
  refine sIr kT fun e _ hst=>?_;unfold zD;simp only[tZ,↓un_u,simprocAttr,Ax,qd hk];generalize s.cols[k]=c at z2 ⊢
  simp only[tZ,↓un_u,simprocAttr,z1,z2,tD,AY,Ak]
  repeat (first | refine⟨oM,?_⟩ | refine⟨kR,?_⟩)
  exact .oA [] []
 ·rw[Aq hz] at hP;obtain⟨hL,ha⟩:=hP;have hbF:b∈F:=(hF2 b).2 ⟨jq2 hq hk h0 h2 hl hL,hL.lo,hL.hi⟩;obtain⟨j,hj,hjb,hjl⟩:=jg3 hF1 hbF;have hu:=jx6 hE hk h0 h2 hl hL;have hnq:∀ i (h:i<j),¬ Qb s q k L (F[i]-1) F[i]:=fun i h=>hL.least F[i] ((hF2 _).1 (AX oM)).2.1 (hjl i h);have hFb:∀ i (h:i<F.length),(qg s k).low<F[i]∧F[i]≤(qg s k).high:=fun i h=>((hF2 _).1 (AX h)).2;rw[hat] at ha hlh hu hFb;refine sIr kT fun e _ hst=>?_;unfold zD;simp only[tZ,↓un_u,simprocAttr,Ax,qd hk];rw[hat] at hz;generalize s.cols[k]=c at ha hlh hu hz hFb ⊢
  simp only[tZ,↓un_u,simprocAttr,tD,AY,Ak];refine⟨oM,fun h3=>absurd h3 hz,fun h3=>?_⟩;refine C1.im sE rF rF ?_;refine sW ?_;refine qy mixm (α:=Nat) [33] (fun i=>i≤j) (fun i=>[(33,vI i)]) (fun i=>[aR 4096 2 [schT s],aR 4100 17 [qstT q],aR 8212 7 [colT c]]) (fun i=>j-i) 0 oM ?_ fun i hi=>?_
  ·exact .oA (U3 4096 4100 8212) []
  refine sD ?_;refine⟨fun h4=>?_,fun h4=>by omega⟩;have hi2:i<F.length:=by omega
  have hwi:=qh (i:=i) oM;have hb:=hFb i hi2;have hw1:IntKind.i64.wrap (F[i]-1)=F[i]-1:=AK _ oM;have hnx:i<j→¬ Qb s q k L (F[i]-1) F[i]:=fun h=>hnq i h;have hyx:i=j→F[i]=b:=fun h=>by subst h;exact hjb
  simp only[tZ,↓un_u,simprocAttr,Ax,qd hi2];generalize F[i]=x at hb hw1 hnx hyx ⊢
  refine⟨oM,?_⟩;refine C1.im (sC x) rF rF ?_;simp only[tZ,↓un_u,simprocAttr,hw1];refine C1.im (sC (x-1)) rF rF ?_;simp only[tZ,↓un_u,simprocAttr,hw1];refine C2.im (fun _=>sT (x-1) x) (fun _=>rfl) rF ?_;simp only[tZ,↓un_u,simprocAttr,tD,Bj,Aw,Bx,Bz,hwi];refine⟨fun h5=>?_,fun h5=>?_⟩
  ·have hij:i<j:=AQ fun hn=>by
    have hxb:=hyx oM;rw[hxb] at h5;rcases h5 with h5 | h5
    ·exact h5 hL.qb.1
    ·rw[hL.qb.2] at h5;cases h5
   refine⟨i+1,oM,oM,?_⟩;exact .oA (U3 4096 4100 8212) []
  have hxb:x=b:=hyx (AQ fun hn=>hnx oM ⟨h5.1,h5.2⟩);subst hxb;have hb1:=hL.lo;refine⟨fun h6=>?_,fun h6=>?_⟩
  ·rw[Aq oM,show max c.low (qt s k L x)=maxI c.low (qt s k L x) by unfold maxI;split <;> omega] at ha;rw[ha];refine C1.im sU rF rF ?_;refine sW ?_;refine⟨fun h7=>?_,fun h7=>?_⟩
   ·have hw2:IntKind.i64.wrap (maxI c.low (qt s k L x)+1)=x:=by
     have:=hu h7;have hmx:maxI c.low (qt s k L x)=max c.low (qt s k L x):=by unfold maxI;split <;> omega
     rw[hmx];rw[AK _ oM];omega
    simp only[tZ,↓un_u,simprocAttr,hw2];exact .oA [] []
   ·exact .oA [] []
  ·rw[Aj oM] at ha;rw[ha];refine C1.im sU rF rF ?_;refine sW ?_;refine⟨fun h7=>?_,fun h7=>?_⟩
   ·have hw2:IntKind.i64.wrap (c.low+1)=x:=by
     have:=hu h7;rw[AK _ oM];omega
    simp only[tZ,↓un_u,simprocAttr,hw2];exact .oA [] []
   ·exact .oA [] []
def begA (s:Sch) (k:Nat) (lev x:Int):Int:=if lev=0 then (qg s k).low else max (qg s k).low (qt s k lev x)
theorem jD7 {s:Sch} (hE:schE s=0) {k:Nat} (hk:k<s.cols.length) (h0:0<k) (h2:(qg s k).kind≠2) {lev:Nat} (hl:(lev:Int)≤finI s k) {x:Int} (h1:(qg s k).low<x) (h3:x≤(qg s k).high) (hc:qt s k lev (x-1)=qt s k lev x):(qg s k).low≤begA s k lev x∧begA s k lev x<x∧qt s k lev (begA s k lev x)=qt s k lev x:=by
 have hm:=kQ hE hk h0 h2;have hlh:=hm.lh;have hH:∀ v,(qg s k).low≤v→v≤(qg s k).high→qV s k v=true:=fun v h1 h2=>(jw hm.kind).2 (.inr ⟨h1,h2⟩);unfold begA;by_cases e0:lev=0
 ·subst e0;rw[Aj rF];have c1:=YS hE hk h0 h2 (hH (qg s k).low oM oM);have c2:=YS hE hk h0 h2 (hH x oM oM);exact⟨Int.le_refl _,h1,c1.trans c2.symm⟩
 ·rw[Aq oM];have hf:=hm.fin;have hw:=hm.wid lev oM oM;have cm:∀ v,(qg s k).low≤v→v≤(qg s k).high→qt s k lev v=qQ v (qU (qg s k) lev)*qU (qg s k) lev:=fun v h1 h3=>by
   rw[Kd hm hl (hH v h1 h3),Aq e0,Aq (fun e=>by unfold zt at e;omega)]
  rw[cm (x-1) oM oM,cm x oM oM] at hc;have f1:=(yp (v:=x-1) (w:=qU (qg s k) lev) oM).2;have f2:=(qL4 (v:=x) hw).1;rw[hc] at f1;rw[cm x oM oM];generalize hB:qQ x (qU (qg s k) lev)*qU (qg s k) lev=B at f1 ⊢
  refine⟨oM,oM,?_⟩;rw[cm _ oM oM,← hB]
  congr 1
  exact jp6 hw oM oM
theorem jJ8 {k m:Int}:∀ (l:List Pk) (v:Int),(∀ p∈l,p.col=k→p.lev=m)→l.foldl (fun v p=>if p.col=k then p.lev else v) v=if (l.any fun p=>p.col==k)=true then m else v
 | [],v,_=>rfl
 | x::r,v,h=>by
   rw[Dw,jJ8 r _ fun p hp=>h p (CQ _ hp),List.any_cons];by_cases e:x.col=k
   ·rw[Aj e,h x List.mem_cons_self e,AY.2 e];split <;> rfl
   ·rw[Aq e,show (x.col==k)=false from Ak.2 e,Bool.false_or]
theorem jq6 {s:Sch} {d:Dcl} (hd:dclE s d=0) {k:Nat} (hk:k<s.cols.length):∀ p∈zO s d,p.col=k→p.lev=mxl (zO s d) k:=fun p hp e=>by
 rw[KG hd hk];have h2:=hp;rw[Qg hd] at h2;have:=(Js h2).2.1;rw[e,Ax] at this;exact this
theorem jg6 {s:Sch} {d:Dcl} (hd:dclE s d=0) {k:Nat} (hk:k<s.cols.length):(zO s d).foldl (fun v p=>if p.col=(k:Int) then p.lev else v) 0=mxl (zO s d) k:=by
 rw[jJ8 _ _ (jq6 hd hk)];split
 ·rfl
 ·rename_i h;refine (Jr fun p hp e=>h (DJ.2 ⟨p,hp,AY.2 e⟩)).symm
theorem jg7 {s:Sch} {q:Qst} (hqe:qstE s q=0) {k:Nat} (hk0:0<k) (hk:k<s.cols.length) {lev:Nat} (hn:mxl (Jd s q) k=lev+1) {a b:Int} (hP:qB1 s q k lev a b):a<b∧qt s k lev a=qt s k lev b∧qp8 s q k a b=true:=by
 have hq:=ZU hqe;have hE:=hq.sch;have hle:mxl (Jd s q) k≤finI s k:=qL2 (Ww hE hk0 hk) fun p hp e=>by rw[← e];exact qq2 hq p hp
 have hl:(lev:Int)≤finI s k:=by omega
 have htl:qp8 s q k a b=(qV s k a&&qV s k b&&jT s q k a b):=by
  rw[qp8,hqe,zd8 oM hk,zd8 oM hk];simp
 rw[htl];unfold qB1 at hP;by_cases h2:(qg s k).kind=2
 ·rw[Aj h2] at hP;exact⟨hP.lt,hP.qb.1,by rw[hP.hx,hP.hy,hP.qb.2];rfl⟩
 rw[Aq h2] at hP;have hm:=kQ hE hk hk0 h2;have hlh:=hm.lh;have hH:∀ v,(qg s k).low≤v→v≤(qg s k).high→qV s k v=true:=fun v h1 h2=>(jw hm.kind).2 (.inr ⟨h1,h2⟩);by_cases hz:(lev:Int)=0∧(qg s k).opt=true
 ·rw[Aj hz] at hP;obtain⟨rfl,rfl⟩:=hP;obtain⟨z1,z2⟩:=hz;have hM:qV s k zt=true:=(jw hm.kind).2 (.inl ⟨z2,rfl⟩);have hLo:=hH (qg s k).low oM oM;obtain rfl:lev=0:=by omega
  have c1:=YS hE hk hk0 h2 hM;have c2:=YS hE hk hk0 h2 hLo;have ht:=jg2 hq hk0 hk h2 oM (v:=(qg s k).low) (fun e=>by unfold zt at e;omega);exact⟨by unfold zt;omega,c1.trans c2.symm,by rw[hM,hLo,ht];rfl⟩
 ·rw[Aq hz] at hP;obtain⟨hL,ha⟩:=hP;obtain⟨g1,g2,g3⟩:=jD7 hE hk hk0 h2 hl hL.lo hL.hi hL.qb.1;have hab:a=begA s k lev b:=ha;rw[← hab] at g1 g2 g3;have hhi:=hL.hi;exact⟨g2,g3,by rw[hH a oM oM,hH b oM oM,zM9 hE hk hk0 h2 hl hL g1 g2 g3];rfl⟩
theorem YY (bs:List UInt8):Sp 4 [vL bs] [] (vB true) []:=by
 have hl4:(bs.take 400).length≤400:=by rw[Cz];omega
 obtain⟨s,d,a1,a2,hD,hd,ha1,ha2,hE,hs,hL,hc1,hc8,sS,sDd⟩:=x_SD (bs.take 400) hl4;have sP:=Jg s hs d;rw[hd] at sP;have hpl:=qK5 s d;obtain⟨_,_,_,_,_,_,_,hqs⟩:=qh7 hd;have hlast:=fun (k:Nat) (hk:k<s.cols.length)=>jg6 hd hk;have hfin:∀ k:Nat,0<k→k<s.cols.length→0≤mxl (zO s d) k∧mxl (zO s d) k≤100:=fun k h0 hk=>by
  refine⟨Jc _ _,?_⟩;rw[KG hd hk];refine qL2 (by decide) fun p hp e=>?_;obtain⟨q,hq,hp2⟩:=Ew.1 hp;obtain⟨n,hn,rfl⟩:=CX hq;have hqe:=hqs n hn;rw[qAt,qk hn] at hqe;have h1:=qV8 hp2;rw[e,YV hqe hk] at h1;have hqk:=ZU hqe;have h3:=qL2 (l:=Jd s d.qs[n]) (k:=k) (Ww hE h0 hk) fun p hp e=>by rw[← e];exact qq2 hqk p hp
  have:=YN (c:=k) hE;omega
 have sWt:=fun (k:Nat) (w:Int×Int×Int×Bool) (hW:WitR s d k w)=>Jt s hs d k w hW fun q k lev a b hq h0 hk h2 hl0 hl hP=>Kf s q k lev a b hq h0 hk h2 hl0 hl hP;have sCo:=fun (k:Nat) lev v=>qd9 s hs k lev v;have sTe:=fun (n k:Nat) a b (hn:n<d.qs.length)=>zd9 s hs hL d.qs[n] k a b;have hgood:∀ (k n:Nat) (a b:Int),0<k→k<s.cols.length→(hn:n<d.qs.length)→0<mxl (zO s d) k→mxl (kM s (qAt d.qs n)) k=mxl (zO s d) k→qB1 s (qAt d.qs n) k (mxl (zO s d) k-1) a b→a<b∧qt s k (mxl (zO s d) k-1) a=qt s k (mxl (zO s d) k-1) b∧qp8 s d.qs[n] k a b=true:=fun k n a b h0 hk hn hm e hP=>by
  have hqe:=hqs n hn;have hqn:qAt d.qs n=d.qs[n]:=by rw[qAt,qk hn]
  rw[hqn] at hqe e hP;rw[YV hqe hk] at e;obtain⟨L,hLv⟩:=AJ (show 0≤mxl (zO s d) k-1 by omega);rw[hLv] at hP ⊢
  exact jg7 hqe h0 hk oM hP
 have hex:=fun k:Nat=>jJ0 s d k;generalize hPd:zO s d=P at sP hpl hlast hfin hgood;refine sIr WL fun e _ hst=>?_;unfold jZ;refine sW ?_;refine C1.newdraw 8196 (zL8 bs) rfl rfl ?_;generalize bs.take 400=m at hl4 sS sDd ha1 ha2 ⊢
 refine sW ?_;refine C1.draw 8196 m 0 _ sS rfl rfl rfl ?_;refine sW ?_;refine C1.draw 8196 m a1 _ sDd rfl rfl rfl ?_;refine sW ?_;refine C1.im sP rF rF ?_;simp only[tZ,↓un_u,simprocAttr,bne_self_eq_false];refine qy mixm (α:=Nat) [8] (fun k=>1≤k∧k≤s.cols.length) (fun k=>[(8,vI k)]) (fun k=>[aR 12296 2 [schT s],aR 16396 12 [dclT d]]) (fun k=>s.cols.length-k) 1 oM ?_ fun k hk=>?_
 ·exact .oA (U2 12296 16396) []
 refine sD ?_;refine⟨fun h3=>?_,fun h3=>?_⟩
 ·have hk2:k<s.cols.length:=by omega
  have hwk:=qh (i:=k) oM;have hLa:=hlast k hk2;obtain⟨hf1,hf2⟩:=hfin k oM hk2;obtain⟨w,hW⟩:=hex k;have sWk:=sWt k w hW;refine qy mixm (α:=Nat) [9,40] (fun i=>i≤P.length) (fun i=>[(9,vI ((P.take i).foldl (fun v p=>if p.col=(k:Int) then p.lev else v) 0)),(40,vI i)]) (fun i=>[aR 12296 2 [schT s],aR 16396 12 [dclT d]]) (fun i=>P.length-i) 0 oM ?_ fun i hi=>?_
  ·exact .oA (U2 12296 16396) []
  refine sD ?_;refine⟨fun h4=>?_,fun h4=>?_⟩
  ·have hi2:i<P.length:=by omega
   have hwi:=qh (i:=i) oM;have hsu:(P.take (i+1)).foldl (fun v p=>if p.col=(k:Int) then p.lev else v) 0=if P[i].col=(k:Int) then P[i].lev else (P.take i).foldl (fun v p=>if p.col=(k:Int) then p.lev else v) 0:=by rw[qZ hi2,Gq];rfl
   simp only[tZ,↓un_u,simprocAttr,Ax,qd hi2,hwi,AY,Ak];refine⟨oM,fun h5=>?_,fun h5=>?_⟩
   ·rw[Aj h5] at hsu;refine⟨i+1,oM,oM,?_⟩;rw[hsu];exact .oA (U2 12296 16396) []
   ·rw[Aq h5] at hsu;refine⟨i+1,oM,oM,?_⟩;rw[hsu];exact .oA (U2 12296 16396) []
  have hil:i=P.length:=by omega
  subst hil;rw[Bw,hLa];refine C1.im sWk rF rF ?_;rcases hW with⟨hno,hw⟩ | ⟨_,k',n,a,b,e1,e2,e3,e4,hn,hnq,_,hPR,hw⟩
  ·have hm0:mxl P k=0:=by rw[hPd] at hno;have:¬ 0<mxl P k:=fun h=>hno ⟨hd,h⟩;omega
   rw[hm0,hw];have q0:decide ((0:Int)>0)=false:=rfl;simp only[tZ,↓un_u,simprocAttr,q0,bne_self_eq_false];refine C2.no (fun h=>h) ?_;refine sW ?_;refine C2.no (fun h=>h) ?_;refine sW ?_;refine C2.no (fun h=>h) ?_;simp only[tZ,↓un_u,simprocAttr,hwk];refine⟨kR,k+1,oM,oM,?_⟩;exact .oA (U2 12296 16396) []
  ·obtain rfl:k=k':=by omega
   rw[hPd] at e4 hnq hPR;obtain⟨g1,g2,g3⟩:=hgood k n a b e2 e3 hn e4 hnq hPR;rw[hw];have q1:decide (a≥b)=false:=Cq oM;have q2:decide ((n:Int)<0)=false:=Cq oM;have q3:decide ((n:Int)≥d.qs.length)=false:=Cq oM;have q4:decide (mxl P k>0)=true:=Cx oM;have hw1:IntKind.i64.wrap (mxl P k-1)=mxl P k-1:=AK _ oM;simp only[tZ,↓un_u,simprocAttr,q1,q2,q3,q4,hw1,Ax,qd hn,bne_self_eq_false];have sCa:=sCo k (mxl P k-1) a;rw[g2] at sCa;have sTn:=sTe n k a b hn;rw[g3] at sTn;refine C2.im (fun _=>sCa) (fun _=>rfl) rF ?_;simp only[tZ,↓un_u,simprocAttr,hw1];refine C2.im (fun _=>sCo k _ b) (fun _=>rfl) rF ?_;simp only[tZ,↓un_u,simprocAttr,bne_self_eq_false,hw1,Ax,qd hn];refine⟨oM,?_⟩;refine C2.im (fun _=>sTn) (fun _=>rfl) rF ?_;simp only[tZ,↓un_u,simprocAttr,hwk];refine⟨kR,k+1,oM,oM,?_⟩;exact .oA (U2 12296 16396) []
 ·refine C1.im zd5 rF rF ?_;refine sW ?_;exact .oA [] []
end Go.Proofs
