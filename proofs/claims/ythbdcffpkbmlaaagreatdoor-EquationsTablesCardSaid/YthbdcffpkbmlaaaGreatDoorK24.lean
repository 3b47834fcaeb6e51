/- A part of the proof: trees of Go values, short forms, contracts. -/
import Derived.Test.YthbdcffpkbmlaaaGreatDoorK23
namespace Go.Proofs
open Go Go.TL
set_option maxRecDepth 4000
set_option maxHeartbeats 8000000
theorem Yc (l:List Int) (hx0:∀ x∈l,-1≤x∧x≤1000) (hl:l.length<1000000):Sp 60 [vIs l] [] (vI (gN l)) []:=by
 refine sIr qy4 fun e _ hst=>?_;unfold yY;refine sW ?_;refine qk mixm (α:=Nat) [3,8] (fun i=>i≤l.length) (fun i=>[(3,vI (gN (l.take i))),(8,vI i)]) (fun i=>[]) (fun i=>l.length-i) 0 oM ?_ fun i hi=>?_
 ·exact .oA [] []
 simp only[tZ,↓uU,simprocAttr,AZ,Ay];refine⟨fun h=>?_,fun h=>?_⟩
 ·have hx:=hx0 _ (AX (show i<l.length by omega));have hw:IntKind.i64.wrap (l[i]'oM+1)=l[i]'oM+1:=AK _ oM;have hi2:i<l.length:=by omega
  have hwi:=qh (i:=i) oM;simp only[tZ,↓uU,simprocAttr,Ax,qd hi2,hwi,hw];refine⟨oM,i+1,oM,oM,?_⟩;rw[jl0 hi2];exact .oA [] []
 ·have hi2:i=l.length:=by omega
  subst hi2;rw[Bw];exact .imR rfl rfl
def nbB (l:List Int):Bool:=match nbF l with | some n=>decide (n>0) | none=>false
theorem ka1 {l:List Int} {i:Nat} {n:Int} (hi:i≤l.length) (h:nbF (l.take i)=some n):0≤n∧n≤i:=by
 have:=(jN3 hi h).pos;rw[Cz] at this;omega
theorem qr2 (l:List Int) (hl:l.length<4611686018427387904):Sp 156 [vIs l] [] (vB (nbB l)) []:=by
 refine sIr qj3 fun e _ hst=>?_;unfold wy;refine sW ?_;refine qk mixm (α:=Nat×Int) [3,8] (fun x=>x.1≤l.length∧nbF (l.take x.1)=some x.2) (fun x=>[(3,vI x.2),(8,vI x.1)]) (fun _=>[]) (fun x=>l.length-x.1) (0,0) ⟨sMp,rfl⟩ ?_ fun x hx=>?_
 ·exact .oA [] []
 obtain⟨i,n⟩:=x;obtain⟨hi,hn⟩:=hx;dsimp only at hi hn;have hb:=ka1 hi hn;simp only[tZ,↓uU,simprocAttr,AZ,Ay];refine⟨fun h=>?_,fun h=>?_⟩
 ·have hs:=jl1 (l:=l) (i:=i) oM;rw[hn] at hs;have hw:IntKind.i64.wrap (n+1)=n+1:=AK _ oM;have hi2:i<l.length:=by omega
  have hwi:=qh (i:=i) oM;simp only[tZ,↓uU,simprocAttr,Ax,qd hi2,hwi,tD,AY,Ak,hw];refine⟨oM,fun h3=>?_,fun h3=>⟨fun h4=>?_,fun h4=>?_⟩⟩
  ·have e:nbF l=none:=jy2 (i:=i+1) (by rw[hs];simp only[KW];rw[Aj h3]);unfold nbB;rw[e];exact .imR rfl rfl
  ·simp only[KW] at hs;rw[Aq oM,Aj h4] at hs;refine⟨(i+1,n+1),⟨by simp only;omega,hs⟩,by simp only;omega,?_⟩;exact .oA [] []
  ·simp only[KW] at hs;rw[Aq oM,Aq h4] at hs;refine⟨(i+1,n),⟨by simp only;omega,hs⟩,by simp only;omega,?_⟩;exact .oA [] []
 ·have hi2:i=l.length:=by omega
  subst hi2;rw[Bw] at hn;have e:nbB l=decide (n>0):=by unfold nbB;rw[hn]
  rw[e];exact .imR rfl rfl
theorem jq9 (k:Int) (g:List Int):okG k g=(((g.length:Int)==k)&&nbB g):=rfl
theorem Wg (sz:List Int) (gs:List (List Int)) (hl:sz.length<4611686018427387904) (hg:gs.length<4611686018427387904) (hgl:∀ g∈gs,g.length<1000000):Sp 103 [spT sz,vwT gs] [] (vI (qq7 sz gs)) []:=by
 refine sIr qY7 fun e _ hst=>?_;unfold Jv;refine sW ?_;refine C1.shut [] (JX sz hl) ?_ rF rfl ?_
 ·simp only[tL,simprocAttr]
 simp only[tZ,↓uU,simprocAttr,Bj,Aw];refine⟨fun h=>?_,fun hk0=>⟨fun h2=>?_,fun h2=>?_⟩⟩
 ·rw[qq7,Aj h];exact .imR rfl rfl
 ·rw[qq7,Aq (fun e=>e hk0),Aj oM];exact .imR rfl rfl
 have hlen:gs.length=sz.length:=by omega
 have hsp:=qA7.1 hk0;refine qk mixm (α:=Nat) [23] (fun i=>i≤gs.length∧(okGs (sz.take i) (gs.take i)=true)) (fun i=>[(23,vI i)]) (fun i=>[aR 4096 1 [spT sz]]) (fun i=>gs.length-i) 0 ⟨oM,?_⟩ ?_ fun i hi=>?_
 ·rfl
 ·exact .oA (U1 4096) []
 simp only[tZ,↓uU,simprocAttr,AZ,Ay];refine⟨fun h=>?_,fun h=>?_⟩
 ·have hs2:i<sz.length:=by omega
  have hgm:=hgl _ (AX (show i<gs.length by omega));have hi2:i<gs.length:=by omega
  have hwi:=qh (i:=i) oM;simp only[tZ,↓uU,simprocAttr,Ax,qd hi2,hwi,qd hs2];have hcn:=qr2 gs[i] oM;refine⟨oM,oM,C2.im (fun _=>hcn) (fun _=>rfl) rF ?_⟩;simp only[tZ,↓uU,simprocAttr,tD,Bj,Aw,Bz];refine⟨fun h3=>?_,fun h3=>⟨i+1,⟨oM,?_⟩,oM,?_⟩⟩
  ·have hf:okG sz[i] gs[i]=false:=by
    rw[jq9,FJ];rcases h3 with h3 | h3
    ·exact .inl (by simpa using h3)
    ·exact .inr h3
   rw[qq7,Aq (fun e=>e hk0),Aq oM,Aq (by rw[zT7 hlen hs2 hf];simp)];exact .oA [] []
  ·rw[zp6 hs2 hi2,hi.2,jq9,h3.2,Fq,Bool.and_true];simpa using h3.1
  ·exact .oA (U1 4096) []
 ·have hi2:i=gs.length:=by omega
  subst hi2;have h3:=hi.2;rw[Bw,List.take_of_length_le oM] at h3;rw[qq7,Aq (fun e=>e hk0),Aq oM,Aj h3];exact .oA [] []
structure GOk (g:List Int):Prop where
 len:0<g.length∧g.length≤8
 n:0<gN g∧gN g≤8
 all:∀ x∈g,-1≤x∧x<gN g
 max:1+maxF g=gN g
theorem VwOk.g {sz:List Int} {gs:List (List Int)} (h:VwOk sz gs) {i:Nat} (hi:i<gs.length):GOk gs[i]:=by
 have hi2:i<sz.length:=by rw[← h.len];exact hi
 obtain⟨h1,h2,h3⟩:=h.get hi2;have h4:=h.sp.get hi2;have h5:=h3.pos;refine⟨oM,⟨h2,oM⟩,h3.all,?_⟩;have h6:=jY1 (l:=gs[i]) oM;rw[h6] at h2 ⊢
 unfold maxI at h2 ⊢
 split at h2 <;> split <;> omega
theorem JY {sz:List Int} {gs:List (List Int)} (hv:VwOk sz gs):Sp 105 [vwT gs] [] (vIs (gs.map gN)) []:=by
 have hl:=hv.len;have hs:=hv.sp.len;refine sIr qK4 fun e _ hst=>?_;unfold Zn;refine sW ?_;refine qk mixm (α:=Nat) [3,9] (fun i=>i≤gs.length) (fun i=>[(3,.asl 1 ((gs.take i).map gN).length),(9,vI i)]) (fun i=>[aR 1 1 (((gs.take i).map gN).map vI)]) (fun i=>gs.length-i) 0 oM ?_ fun i hi=>?_
 ·exact .oA [(1,none)] []
 simp only[tZ,↓uU,simprocAttr,AZ,Ay];refine⟨fun h=>?_,fun h=>?_⟩
 ·have hg:=hv.g (i:=i) oM;have hi2:i<gs.length:=by omega
  have hwi:=qh (i:=i) oM;simp only[tZ,↓uU,simprocAttr,Ax,qd hi2,hwi];have hm:=Ja gs[i] hg.len.1 (by have:=hg.len;omega);refine⟨oM,C1.im hm rfl rF ?_⟩;have hw:IntKind.i64.wrap (1+maxF gs[i])=gN gs[i]:=by
   have:=hg.n;rw[hg.max,AK _ oM]
  have hgl:(gs.take i).length=i:=by rw[Cz];omega
  simp only[tZ,↓uU,simprocAttr,hw,hgl,BY];refine⟨oM,i+1,oM,oM,?_⟩;rw[qz hi2];refine .of (U1 1) [] rfl (by first | rfl | (rw[hst];rfl)) ?_ ?_
  all_goals (try simp only[tL,simprocAttr,By,List.map_cons,List.map_nil,BW,Cy,BY,AW,Cz,CJ,Cw,Nat.min_eq_left (Nat.le_of_lt hi2)])
  all_goals (try (exact clA))
 ·have hi2:i=gs.length:=by omega
  subst hi2;rw[Bw];refine .of [] [1] rfl (by first | rfl | (rw[hst];rfl)) ?_ ?_
  all_goals (try simp only[tL,simprocAttr,By,List.map_cons,List.map_nil,BW,Cy,BY])
  all_goals (try (exact clA))
theorem Jb (sz:List Int) (gs:List (List Int)) (hl:sz.length<4611686018427387904) (hg:gs.length<4611686018427387904) (hgl:∀ g∈gs,g.length<1000000):Sp 54 [spT sz,vwT gs] [] (vI (Qp sz gs)) []:=by
 refine sIr qc9 fun e _ hst=>?_;unfold kS;refine sW ?_;refine C1.shut [] (Wg sz gs hl hg hgl) ?_ rF rfl ?_
 ·simp only[tL,simprocAttr]
 simp only[tZ,↓uU,simprocAttr,Bj,Aw];refine⟨fun h=>?_,fun h=>?_⟩
 ·rw[Qp,Aq h];exact .imR rfl rfl
 have hv:=Wr.1 h;rw[Qp,Aj h];refine C1.shut [] (JY hv) ?_ rF rfl ?_
 ·simp only[tL,simprocAttr]
 refine sW ?_;refine C1.im (Qw (gs.map gN) hv.gsz (by have:=hv.len;have:=hv.sp.len;rw[BY];omega)) rfl rF ?_;refine sW ?_;exact .imR rfl rfl
theorem zD1 {sz:List Int} {gs:List (List Int)} (h:VwOk sz gs) {c:Int} (hc:0≤c):(gAt gs (zB sz c)).contains (-1)=(gAt gs (zB sz c)).any (fun g=>decide (g<0)):=by
 have hg:=(jl5 h.len h.ok (kz h.sp.all hc).1).2.2;cases hn:(gAt gs (zB sz c)).any (fun g=>decide (g<0)) with
 | true=>
   obtain⟨g,hm,hx⟩:=DJ.1 hn;have:=hg g hm;have hx:g<0:=by simpa using hx
   have:g = -1:=by omega
   subst this;exact FQ.2 hm
 | false=>
   cases hcn:(gAt gs (zB sz c)).contains (-1) with
   | false=>rfl
   | true=>
     have:=List.any_eq_false.1 hn _ (FQ.1 hcn);simp at this
theorem jQ7 {gs:List (List Int)} {at_:List Int} {j:Nat} (h:j<gs.length) (h2:j<at_.length):(gAt gs at_)[j]'(by unfold gAt;rw[List.length_zipWith];omega)=gs[j].getD at_[j].toNat 0:=by
 unfold gAt;simp
def atO (gs:List (List Int)) (pl:List Int) (j:Nat):List Int:=(gAt gs pl).take j++pl.drop j
theorem jr0 {gs:List (List Int)} {pl:List Int} {j:Nat} (h:gs.length=pl.length) (hj:j≤pl.length):(atO gs pl j).length=pl.length:=by
 unfold atO gAt;rw[AW,Cz,List.length_zipWith,List.length_drop];omega
theorem jQ8 {gs:List (List Int)} {pl:List Int} {j:Nat} (h:gs.length=pl.length) (hj:j<pl.length):(atO gs pl j)[j]'(by rw[jr0 h oM];exact hj)=pl[j]:=by
 have hl:((gAt gs pl).take j).length=j:=by unfold gAt;rw[Cz,List.length_zipWith];omega
 unfold atO;rw[List.getElem_append_right oM];simp only[hl,Nat.sub_self,List.getElem_drop,Nat.add_zero]
theorem jQ9 {gs:List (List Int)} {pl:List Int} {j:Nat} (h:gs.length=pl.length) (hj:j<pl.length):(atO gs pl j).set j ((gs[j]'oM).getD pl[j].toNat 0)=atO gs pl (j+1):=by
 have hz:j<(gAt gs pl).length:=by unfold gAt;rw[List.length_zipWith];omega
 have hl:((gAt gs pl).take j).length=j:=by rw[Cz];omega
 unfold atO;rw[List.set_append_right _ _ oM,hl,Nat.sub_self,List.drop_eq_getElem_cons hj,List.set_cons_zero,qz hz,Dj,jQ7 oM hj]
 rfl
theorem jR0 {gs:List (List Int)} {pl:List Int} (h:gs.length=pl.length):atO gs pl pl.length=gAt gs pl:=by
 have hl:(gAt gs pl).length=pl.length:=by unfold gAt;rw[List.length_zipWith];omega
 unfold atO;rw[List.drop_length,CW,← hl,Bw]
def ofL (sz:List Int) (gs:List (List Int)) (n:Nat):List Int:=(QG n).map (ofS sz gs)
theorem jr1 (sz:List Int) (gs:List (List Int)) (n:Nat):(ofL sz gs n).length=n:=by simp [ofL,QG]
theorem jC4 (sz:List Int) (gs:List (List Int)) (n:Nat):ofL sz gs (n+1)=ofL sz gs n++[ofS sz gs n]:=by
 unfold ofL;rw[qS6,By]
 rfl
theorem jR1 {sz:List Int} {gs:List (List Int)} {n i:Nat} (h:i<(ofL sz gs n).length):(ofL sz gs n)[i]=ofS sz gs i:=by simp [ofL,QG]
theorem ql5 {sz:List Int} {gs:List (List Int)} (hv:VwOk sz gs):Sp 175 [spT sz,vwT gs] [] (vIs (ofL sz gs (zq sz).toNat)) []:=by
 have hvl:=hv.len;have hvs:=hv.sp.len;have hp:=hv.sp.prod;have hgl:(gs.map gN).length=gs.length:=BY _;refine sIr qe1 fun e _ hst=>?_;unfold kZ;refine sW ?_;refine C1.shut [] (JY hv) ?_ rF rfl ?_
 ·simp only[tL,simprocAttr]
 refine sW ?_;refine C1.im (Qw sz hv.sp.all hvs.2) rfl rF ?_;refine sW ?_;obtain⟨N,hN⟩:∃ N:Nat,zq sz=N:=⟨(zq sz).toNat,oM⟩;rw[hN,Ax];refine qk mixm (α:=Nat) [6,16] (fun c=>c≤N) (fun c=>[(6,.asl 1 (ofL sz gs c).length),(16,vI c)]) (fun c=>[aR 4096 1 [spT sz],aR 4100 1 [vwT gs],aR 1 1 ((ofL sz gs c).map vI)]) (fun c=>N-c) 0 oM ?_ fun c hc=>?_
 ·exact .oA [uI 4096,uI 4100,(1,none)] []
 simp only[tZ,↓uU,simprocAttr,AZ,Ay];refine⟨fun h=>?_,fun h=>?_⟩
 ·have hwc:=qh (i:=c) oM;refine C1.fresh 28684 (qO8 sz c hv.sp.all hvs.2 oM) rF (by apply qH;intro _;exact⟨rfl,rfl⟩) rfl ?_;refine sW ?_;obtain⟨P,hP⟩:∃ P,P=zB sz c:=⟨_,rfl⟩;have hPl:P.length=sz.length:=by rw[hP,KV]
  have hPr:=(kz hv.sp.all (show (0:Int)≤(c:Int) by omega)).1;rw[← hP] at hPr ⊢
  refine⟨hPl,?_⟩;refine qk mixm (α:=Nat) [25] (fun j=>j≤sz.length) (fun j=>[(25,vI j)]) (fun j=>[aR 4096 1 [spT sz],aR 4100 1 [vwT gs],aR 1 1 ((ofL sz gs c).map vI),aR 28684 1 ((atO gs P j).map vI)]) (fun j=>sz.length-j) 0 oM ?_ fun j hj=>?_
  ·have:atO gs P 0=P:=by simp [atO]
   rw[this];exact .oA (U4 4096 4100 1 28684) []
  have hAl:=jr0 (gs:=gs) (pl:=P) (j:=j) oM oM;simp only[tZ,↓uU,simprocAttr,AZ,Ay];refine⟨fun h=>?_,fun h=>?_⟩
  ·have hjp:j<P.length:=by omega
   have hjg:j<gs.length:=by omega
   have hja:j<(atO gs P j).length:=by omega
   have hgj:=hv.g hjg;have hr:=zC9 hPr (i:=j) oM hjp;have hsz:=(hv.get (i:=j) oM).1;have hag:=jQ8 (gs:=gs) (pl:=P) (j:=j) oM hjp;have hk:P[j].toNat<gs[j].length:=by omega
   have hset:=jQ9 (gs:=gs) (pl:=P) (j:=j) oM hjp;rw[qg hk] at hset;have hj2:j<sz.length:=by omega
   have hwj:=qh (i:=j) oM;simp only[tZ,↓uU,simprocAttr,Ax,qd hj2,hwj,qd hja,hag,qd hjg,qd hk,show ∀ a b:Int,repl (vI a) 0 (vI b)=vI b from fun _ _=>rfl];rw[← List.map_set,hset];refine⟨oM,oM,oM,oM,oM,oM,j+1,oM,oM,?_⟩;exact .oA (U4 4096 4100 1 28684) []
  ·have hj2:j=sz.length:=by omega
   subst hj2;have hE:=jR0 (gs:=gs) (pl:=P) oM;rw[hPl] at hE;rw[hE] at hAl ⊢
   have hco:=zD1 hv (c:=c) oM;rw[← hP] at hco;refine C1.lend [28684] (Wa (gAt gs P) (-1) oM) ?_ rF rF ?_
   ·all_goals (try exact clA)
   simp only[tZ,↓uU,simprocAttr,hco];have hlN:=jr1 sz gs c;have hlS:=jC4 sz gs c;refine⟨fun h3=>?_,fun h3=>?_⟩
   ·have ho:ofS sz gs c = -1:=by
     unfold ofS;rw[← hP,Aj h3]
    rw[ho] at hlS;refine⟨oM,c+1,oM,oM,?_⟩;refine .of (U3 4096 4100 1) [] rfl (by first | rfl | (rw[hst];rfl)) ?_ ?_
    all_goals (try simp only[tL,simprocAttr,By,List.map_cons,List.map_nil,BW,Cy,hlS,hwc,AW,CJ,Cw])
    all_goals (try (exact clA))
   ·have ho:ofS sz gs c=numL (gs.map gN) (gAt gs P):=by
     unfold ofS;rw[← hP,Aq (by rw[h3];simp)]
    have hin:=(jl5 hv.len hv.ok (kz hv.sp.all (show (0:Int)≤(c:Int) by omega)).1).2.1;rw[← hP] at hin;refine C1.lend [28684] (qO7 (gs.map gN) (gAt gs P) hv.gsz oM (hin h3)) ?_ rF rF ?_
    ·all_goals (try exact clA)
    rw[← ho];refine sW ?_;refine⟨oM,c+1,oM,oM,?_⟩;refine .of (U3 4096 4100 1) [] rfl (by first | rfl | (rw[hst];rfl)) ?_ ?_
    all_goals (try simp only[tL,simprocAttr,By,List.map_cons,List.map_nil,BW,Cy,hlS,hwc,AW,CJ,Cw])
    all_goals (try (exact clA))
 ·have hc2:c=N:=by omega
  subst hc2;exact .oA [] [1]
theorem jr2 (sz:List Int) (gs:List (List Int)) (k:Int) (i:Nat):(QG (i+1)).filter (fun c=>ofS sz gs c==k)=(QG i).filter (fun c=>ofS sz gs c==k)++(if ofS sz gs i=k then [(i:Int)] else []):=by
 rw[qS6,FY]
 congr 1
 by_cases h:ofS sz gs i=k
 ·simp [h]
 ·simp [h]
theorem qF0 {sz:List Int} {gs:List (List Int)} (k:Int) (hl:sz.length<4611686018427387904) (hg:gs.length<4611686018427387904) (hgl:∀ g∈gs,g.length<1000000) :
 Sp 158 [spT sz,vwT gs,vI k] [] (.tup [vIs (zA3 sz gs k).1,vI (zA3 sz gs k).2]) []:=by
 refine sIr qq2 fun e _ hst=>?_;unfold yk;refine sW ?_;refine C1.shut [] (Wg sz gs hl hg hgl) ?_ rF rfl ?_
 ·simp only[tL,simprocAttr]
 simp only[tZ,↓uU,simprocAttr,Bj,Aw];refine⟨fun h=>?_,fun h=>?_⟩
 ·rw[zA3,Aj h];exact .oA [] []
 have hv:=Wr.1 h;have hgm:(gs.map gN).length≤4:=by have:=hv.len;have:=hv.sp.len;rw[BY];omega
 have hcs:=JY hv;have hcp:=Qw (gs.map gN) hv.gsz hgm;rw[show zq (gs.map gN)=pubN gs from rfl] at hcp;have hmA:zA3 sz gs k=if k<0∨k≥pubN gs then ([],2) else (zA2 sz gs k,0):=by rw[zA3,Aq (fun e=>e h)]
 rw[hmA];refine C2.im (fun _=>hcs) (fun _=>rfl) rF ?_;refine sW ?_;refine C2.im (fun _=>hcp) (fun _=>rfl) rF ?_;refine sD ?_;refine⟨fun h2=>?_,fun h2=>?_⟩
 ·rw[Aj oM];exact .oA [] []
 rw[Aq oM];refine C1.shut [] (ql5 hv) ?_ rF rfl ?_
 ·simp only[tL,simprocAttr]
 refine sW ?_;have hp:=hv.sp.prod;obtain⟨N,hN⟩:∃ N:Nat,zq sz=N:=⟨(zq sz).toNat,oM⟩;unfold zA2;rw[hN,Ax];have hlN:=jr1 sz gs N;refine qk mixm (α:=Nat) [9,31] (fun i=>i≤N) (fun i=>[(9,.asl 1 ((QG i).filter fun c=>ofS sz gs c==k).length),(31,vI i)]) (fun i=>[aR 1 1 (((QG i).filter fun c=>ofS sz gs c==k).map vI)]) (fun i=>N-i) 0 oM ?_ fun i hi=>?_
 ·exact .oA [(1,none)] []
 simp only[tZ,↓uU,simprocAttr,tD,hlN];refine⟨fun h3=>?_,fun h3=>?_⟩
 ·have hi3:i<(ofL sz gs N).length:=by omega
  have hms:=jr2 sz gs k i;have hfl:=Fx (fun c=>ofS sz gs c==k) (QG i);rw[jl4] at hfl;have hwi:=qh (i:=i) oM;simp only[tZ,↓uU,simprocAttr,Ax,qd hi3,jR1,AY,Ak,hlN,hwi];refine⟨oM,fun h4=>?_,fun h4=>?_⟩
  ·rw[Aj h4] at hms;refine⟨oM,i+1,oM,oM,?_⟩;refine .of (U1 1) [] rfl (by first | rfl | (rw[hst];rfl)) ?_ ?_
   all_goals (try simp only[tL,simprocAttr,By,List.map_cons,List.map_nil,BW,Cy,hms,AW,CJ,Cw])
   all_goals (try (exact clA))
  ·rw[Aq h4,CW] at hms;refine⟨i+1,oM,oM,?_⟩;refine .of (U1 1) [] rfl (by first | rfl | (rw[hst];rfl)) ?_ ?_
   all_goals (try simp only[tL,simprocAttr,By,List.map_cons,List.map_nil,BW,Cy,hms])
   all_goals (try (exact clA))
 ·have hi2:i=N:=by omega
  subst hi2;exact .oA [] [1]
abbrev rlsT (r:Rls):T:=.agg [vI r.num,vvIs r.gs,vIs r.vals]
abbrev vRs (l:List Rls):T:=.sl 3 (l.map rlsT)
abbrev eqnT (x:Eqn):T:=.agg [vIs x.cells,vI x.val]
abbrev vQs (l:List Eqn):T:=.sl 2 (l.map eqnT)
structure RlsSm (r:Rls):Prop where
 gs:r.gs.length<1000000
 g:∀ g∈r.gs,g.length<1000000
 vals:r.vals.length<1000000
theorem wB (n:Int):Sp 57 [vI n] [] (vB (okV n)) []:=by
 refine sIr qd1 fun e _ hst=>?_;unfold kT;refine sW ?_;refine .imR ?_ rfl
 first | rfl | (unfold okV;by_cases h:n≥0 <;> simp [h])
theorem qa1 (n:Int):Sp 174 [vI n] [] (vB (!zT8 n)) []:=by
 have hv:=wB n;refine sIr WK fun e _ hst=>?_;unfold jV;refine sW ?_;refine C2.im (fun _=>hv) (fun _=>rfl) rF ?_;refine sW ?_;refine .imR ?_ rfl;unfold zT8;cases okV n <;> simp [bne]
theorem jr3 {p:Int→Bool} (l:List Int):(l.any fun n=>!p n)=!(l.all p):=by
 induction l with
 | nil=>rfl
 | cons x r ih=>simp only[List.any_cons,List.all_cons,ih];cases p x <;> simp
theorem ql6 (sz:List Int) (r:Rls) (b:Int) (hl:sz.length<4611686018427387904) (hr:RlsSm r):Sp 157 [spT sz,rlsT r,vI b] [] (vI (rlsE sz r b)) []:=by
 have hr1:=hr.gs;have hr3:=hr.vals;refine sIr qd9 fun e _ hst=>?_;unfold kY;refine sD ?_;refine⟨fun h=>?_,fun h=>?_⟩
 ·rw[rlsE,Aj oM];exact .oA [] []
 refine C1.shut [] (Wg sz r.gs hl oM hr.g) ?_ rF rfl ?_
 ·simp only[tL,simprocAttr]
 simp only[tZ,↓uU,simprocAttr,Bj,Aw];refine⟨fun h2=>?_,fun h2=>?_⟩
 ·rw[rlsE,Aq oM,Aj h2];exact .oA [] []
 have hpub:Qp sz r.gs=pubN r.gs:=by rw[Qp,Aj h2]
 refine C1.shut [] (Jb sz r.gs hl oM hr.g) ?_ rF rfl ?_
 ·simp only[tL,simprocAttr]
 simp only[tZ,↓uU,simprocAttr,Bj,Aw,hpub];refine⟨kR,fun h3=>?_,fun h3=>?_⟩
 ·rw[rlsE,Aq oM,Aq (fun e=>e h2),Aj h3];exact .oA [] []
 refine C1.shut [] (jZ (fun n=>!zT8 n) 174 [] rfl r.vals (fun n _=>qa1 n) oM) ?_ rF rfl ?_
 ·all_goals (try exact clA)
 rw[jr3];simp only[tZ,↓uU,simprocAttr,Bx,Bz];refine⟨fun h4=>?_,fun h4=>?_⟩
 ·rw[rlsE,Aq oM,Aq (fun e=>e h2),Aq (fun e=>e h3),Aj h4];exact .oA [] []
 ·rw[rlsE,Aq oM,Aq (fun e=>e h2),Aq (fun e=>e h3),Aq (by rw[h4];simp)];exact .oA [] []
theorem ql7 (sz:List Int) (l:List Rls) (hl:sz.length<4611686018427387904) (hll:l.length<4611686018427387904) (hr:∀ r∈l,RlsSm r):Sp 112 [spT sz,vRs l] [] (vI (rlsC sz l)) []:=by
 refine sIr qd5 fun e _ hst=>?_;unfold kW;refine sW ?_;refine C1.shut [] (JX sz hl) ?_ rF rfl ?_
 ·simp only[tL,simprocAttr]
 simp only[tZ,↓uU,simprocAttr,Bj,Aw,tD];refine⟨fun h=>?_,fun h=>⟨fun h2=>?_,fun h2=>?_⟩⟩
 ·rw[rlsC,Aj h];exact .oA [] []
 ·rw[rlsC,Aq (fun e=>e h),Aj oM];exact .oA [] []
 have hC:rlsC sz l=rlsF sz l (-1):=by rw[rlsC,Aq (fun e=>e h),Aq oM]
 rw[hC];obtain⟨bf,hbf⟩:∃ bf:Nat→Int,bf=fun i=>if i=0 then -1 else (l.getD (i-1) default).num:=⟨_,rfl⟩
 refine qk mixm (α:=Nat) [6,20] (fun i=>i≤l.length∧(rlsF sz (l.take i) (-1)=0)) (fun i=>[(6,vI (bf i)),(20,vI i)]) (fun i=>[aR 4096 1 [spT sz]]) (fun i=>l.length-i) 0 ⟨oM,?_⟩ ?_ fun i hi=>?_
 ·simp [rlsF]
 ·rw[hbf];exact .oA (U1 4096) []
 simp only[tZ,↓uU,simprocAttr,AZ,Ay];refine⟨fun h=>?_,fun h=>?_⟩
 ·have hri:=hr _ (AX (show i<l.length by omega));have hsn:=zp7 (sz:=sz) (show i<l.length by omega) hi.2;have hb1:bf (i+1)=(l[i]'oM).num:=by rw[hbf];simp only[Nat.add_sub_cancel];rw[Aq oM,qg oM]
  rw[show (if i=0 then (-1:Int) else (l.getD (i-1) default).num)=bf i by rw[hbf]] at hsn;have hi2:i<l.length:=by omega
  have hwi:=qh (i:=i) oM;simp only[tZ,↓uU,simprocAttr,Ax,qd hi2,hwi];refine⟨oM,?_⟩;refine C1.shut [] (ql6 sz l[i] (bf i) hl hri) ?_ rF rfl ?_
  ·simp only[tL,simprocAttr]
  rw[← hsn];simp only[tZ,↓uU,simprocAttr,Bj,Aw];refine⟨fun h3=>?_,fun h3=>⟨i+1,⟨oM,h3⟩,oM,?_⟩⟩
  ·rw[qS8 h3];exact .oA [] []
  ·rw[← hb1];exact .oA (U1 4096) []
 ·have hi2:i=l.length:=by omega
  subst hi2;have h3:=hi.2;rw[Bw] at h3;rw[h3];exact .oA [] []
theorem zf5 (sz:List Int) (r:Rls) (i:Nat):(JN sz r.gs (r.vals.take i) 0).length≤r.vals.length:=FZ (qB0 _ _ _ _) (by rw[Cz];omega)
theorem qr3 {sz:List Int} {r:Rls} {b:Int} (hr:RlOk sz r b) (hsm:RlsSm r):Sp 113 [spT sz,rlsT r] [] (vQs (tell sz r)) []:=by
 have hr3:=hsm.vals;have hlen:=hr.len;have hvs:=hr.vw.sp.len;have hgl:=hr.vw.len;refine sIr qj1 fun e _ hst=>?_;unfold wx;refine sW ?_;obtain⟨q,hq⟩:∃ q:Nat→List Eqn,q=fun i=>JN sz r.gs (r.vals.take i) 0:=⟨_,rfl⟩;have hq0:q 0=[]:=by rw[hq];simp [JN]
 have hqe:q r.vals.length=tell sz r:=by rw[hq];simp only[Bw,tell]
 have hql:∀ i,(q i).length≤r.vals.length:=fun i=>by rw[hq];exact zf5 sz r i
 refine qk mixm (α:=Nat) [5,13] (fun i=>i≤r.vals.length) (fun i=>[(5,.asl 1 (q i).length),(13,vI i)]) (fun i=>[aR 4096 1 [spT sz],aR 4100 3 [rlsT r],aR 1 2 ((q i).map eqnT)]) (fun i=>r.vals.length-i) 0 oM ?_ fun i hi=>?_
 ·rw[hq0];exact .oA [uI 4096,uI 4100,(1,none)] []
 have hqi:=hql i;simp only[tZ,↓uU,simprocAttr,AZ,Ay];refine⟨fun h=>?_,fun h=>?_⟩
 ·have hsn:=jl8 (sz:=sz) (gs:=r.gs) (show i<r.vals.length by omega);rw[show JN sz r.gs (r.vals.take i) 0=q i by rw[hq],show JN sz r.gs (r.vals.take (i+1)) 0=q (i+1) by rw[hq]] at hsn;have hi2:i<r.vals.length:=by omega
  have hwi:=qh (i:=i) oM;simp only[tZ,↓uU,simprocAttr,Ax,qd hi2,hwi,AY,Ak];refine⟨oM,fun h3=>?_,fun h3=>?_⟩
  ·rw[Aj h3,CW] at hsn;refine⟨i+1,oM,oM,?_⟩;rw[hsn];exact .oA (U3 4096 4100 1) []
  ·rw[Aq h3] at hsn;have hm:zA3 sz r.gs i=(zA2 sz r.gs i,0):=by
    rw[zA3,Aq (fun e=>e (Wr.2 hr.vw)),Aq oM]
   refine C1.shut [] (qF0 (sz:=sz) (gs:=r.gs) (i:Int) oM oM hsm.g) ?_ rF rfl ?_
   ·simp only[tL,simprocAttr]
   rw[hm];refine sW ?_;refine⟨oM,i+1,oM,oM,?_⟩;rw[hsn];exact .oA (U3 4096 4100 1) []
 ·have hi2:i=r.vals.length:=by omega
  subst hi2;rw[hqe];exact .oA [] [1]
theorem zu6 {sz:List Int}:∀ {l:List Rls},(∀ r∈l,RlsSm r)→(qj4 sz l).length≤l.length*1000000
 | [],_=>by simp [qj4]
 | r::l,h=>by
   have e:qj4 sz (r::l)=tell sz r++qj4 sz l:=by simp [qj4]
   have h4:=zu6 (sz:=sz) (l:=l) fun x hx=>h x (CQ _ hx);have h6:=qB0 sz r.gs r.vals 0;have h7:=(h r sMp).vals;rw[e,AW,CJ];unfold tell;omega
theorem qF1 (sz:List Int) (l:List Rls) (hl:sz.length<4611686018427387904) (hll:l.length<4611686018427387904) (hr:∀ r∈l,RlsSm r) :
 Sp 63 [spT sz,vRs l] [] (.tup [vQs (allA sz l).1,vI (allA sz l).2]) []:=by
 refine sIr qp0 fun e _ hst=>?_;unfold ya;refine sW ?_;refine C1.shut [] (ql7 sz l hl hll hr) ?_ rF rfl ?_
 ·all_goals (try exact clA)
 simp only[tZ,↓uU,simprocAttr,Bj,Aw];refine⟨fun h=>?_,fun h=>?_⟩
 ·rw[allA,Aj h];exact .oA [] []
 obtain⟨h1,h2,h3⟩:=jy3 h;rw[allA,Aq (fun e=>e h)];have hlen:∀ i,(qj4 sz (l.take i)).length≤24000000:=fun i=>by
  have:=zu6 (sz:=sz) (l:=l.take i) fun x hx=>hr x (EX hx);rw[Cz] at this;omega
 refine qk mixm (α:=Nat) [7,18] (fun i=>i≤l.length) (fun i=>[(7,.asl 1 (qj4 sz (l.take i)).length),(18,vI i)]) (fun i=>[aR 4096 1 [spT sz],aR 1 2 ((qj4 sz (l.take i)).map eqnT)]) (fun i=>l.length-i) 0 oM ?_ fun i hi=>?_
 ·exact .oA [uI 4096,(1,none)] []
 have hli:=hlen i;simp only[tZ,↓uU,simprocAttr,AZ,Ay];refine⟨fun h=>?_,fun h=>?_⟩
 ·have hsn:=zT9 (sz:=sz) (show i<l.length by omega);have hok:=h3 _ (AX (show i<l.length by omega));have hsm:=hr _ (AX (show i<l.length by omega));have hi2:i<l.length:=by omega
  have hwi:=qh (i:=i) oM;simp only[tZ,↓uU,simprocAttr,Ax,qd hi2,hwi];refine⟨oM,?_⟩;refine C1.shut [] (qr3 hok hsm) ?_ rF rfl ?_
  ·simp only[tL,simprocAttr]
  have hli2:=hlen (i+1);rw[hsn,AW] at hli2;simp only[tZ,↓uU,simprocAttr,BY];refine⟨oM,i+1,oM,oM,?_⟩;rw[hsn];exact .oA (U2 4096 1) []
 ·have hi2:i=l.length:=by omega
  subst hi2;rw[Bw];exact .oA [] [1]
set_option maxHeartbeats 4000000
theorem zQ2 {s:Sch} (hE:schE s=0) (hS:chkS (spSz s)=0) {ds:List Pk} (hD:DmsOk s ds) {k:Nat} (hk:(k:Int)<pubN (tabG s ds)) {a:Nat} (ha:a<ds.length):plD s ds a<(zB ((tabG s ds).map gN) k).length∧0≤(zB ((tabG s ds).map gN) k).getD (plD s ds a) 0∧((zB ((tabG s ds).map gN) k).getD (plD s ds a) 0).toNat<(ofD s ds a).length:=by
 have hok:=qU hE;have hV:=ze2 hE hS ds;have hin:=(kz (sz:=(tabG s ds).map gN) hV.gsz (show (0:Int)≤k by omega)).1;have hm:=hD.mem ha;obtain⟨b1,b2⟩:=Wb hm;have hj:plD s ds a<((tabG s ds).map gN).length:=by
  unfold plD tabG;rw[qg ha,BY,BY];exact b1
 have h1:=jX9 hin hj;have hG:∀ j (hj:j<(qK s 2).length),((tabG s ds).map gN).getD j 0=gN (vwG s ds ((qK s 2)[j])):=fun j hj=>by
  rw[qg (by unfold tabG;rw[BY,BY];exact hj)];unfold tabG;rw[Fj,Fj]
 have h2:((tabG s ds).map gN).getD (plD s ds a) 0=((ofD s ds a).length:Int):=by
  have e4:(qK s 2)[idxN ds[a].col (qK s 2)]=ds[a].col:=by rw[qg b1] at b2;exact b2
  have e5:=hG _ b1;rw[e4,jX6 hok ds (hD.cd ha),hD.at_ ha,Aj ha,qg ha] at e5;unfold ofD plD;rw[qg ha,e5]
 rw[h2] at h1;refine⟨?_,h1.1,oM⟩;rw[KV];exact hj
theorem jY4 (ds:List Pk) (c:Int):idxI (fun d:Pk=>d.col==c) ds=if dmAt ds c<ds.length then (dmAt ds c:Int) else -1:=by
 unfold idxI dmAt;by_cases h:(ds.any fun d=>d.col==c)=true
 ·have:ds.findIdx (fun d=>d.col==c)<ds.length:=List.findIdx_lt_length.2 (by simpa using h);rw[Aj h,Aj this]
 ·rw[Aq h,Aq (fun h2=>h (by have:=List.findIdx_lt_length.1 h2;simpa using this))]
theorem zf6 (s:Sch) (ds:List Pk):(tabG s ds).length=(qK s 2).length:=by unfold tabG;rw[BY]
theorem zu7 (s:Sch) (ds:List Pk) {i:Nat} (h:i<(qK s 2).length):(tabG s ds).take (i+1)=(tabG s ds).take i++[vwG s ds (qK s 2)[i]]:=by
 rw[qz (by rw[zf6];exact h)]
 congr 2
 unfold tabG;rw[Fj]
theorem qs8 (s:Sch):(spSz s).length=(qK s 2).length:=by unfold spSz;rw[BY]
theorem jC5 (s:Sch) {i:Nat} (h:i<(qK s 2).length):(spSz s)[i]'(by rw[qs8];exact h)=((qJ s (qK s 2)[i].toNat).length:Int):=by
 unfold spSz;rw[Fj]
def wrB (s:Sch) (t:Tbl) (n:Int) (k:Nat):Bool:=(decide (n<0)||decide (n≥24))||(List.range k).any fun j=>!okV (tabV s t j)
theorem zQ3 (s:Sch) (t:Tbl) (n:Int) (k:Nat):wrB s t n (k+1)=(wrB s t n k||!okV (tabV s t k)):=by
 unfold wrB;rw[List.range_succ,FW];simp [Bool.or_assoc]
theorem zQ4 (s:Sch) (t:Tbl) (n:Int):wrB s t n 0=(decide (n<0)||decide (24≤n)):=by
 unfold wrB;simp
theorem jJ6 {l:List TCl} {y:List Int} {m:Nat} (h:fndC l y=(m:Int)):m<l.length:=by
 unfold fndC at h;split at h
 ·rename_i h2;have:l.findIdx (fun c=>ZH c.codes y)<l.length:=List.findIdx_lt_length.2 (by
   obtain⟨a,b,c⟩:=DJ.1 h2;exact⟨a,b,c⟩)
  omega
 ·omega
theorem jr4 {s:Sch} {t:Tbl} {n:Int} (h:spcE s≠0):wtbE s t n=spcE s∧wtbR s t n=⟨0,[],[]⟩:=by
 have e:wtbE s t n=spcE s:=Aj h;exact⟨e,Aj (by rw[e];exact h)⟩
theorem jJ7 {s:Sch} {t:Tbl} {n:Int} (h:spcE s=0) (h2:qf4 s t.dims=false):wtbE s t n=23∧wtbR s t n=⟨0,[],[]⟩:=by
 have e:wtbE s t n=23:=by rw[wtbE,Aq (by rw[h];simp),Aj h2]
 exact⟨e,Aj (by rw[e];simp)⟩
theorem jJ8 {s:Sch} {t:Tbl} {n:Int} (h:spcE s=0) (h2:qf4 s t.dims=true) {k:Nat} (hk:k<tabN s t) (h3:tabK s t k<0):wtbE s t n=21∧wtbR s t n=⟨0,[],[]⟩:=by
 have e:wtbE s t n=21:=by rw[wtbE,Aq (by rw[h];simp),Aq (by rw[h2];simp),Aj (DJ.2 ⟨k,Dk.2 hk,by simpa using h3⟩)]
 exact⟨e,Aj (by rw[e];simp)⟩
theorem jr5 {s:Sch} {t:Tbl} {n:Int} (h:spcE s=0) (h2:qf4 s t.dims=true) (h3:∀ k,k<tabN s t→0≤tabK s t k):wtbE s t n=if wrB s t n (tabN s t)=true then 2 else 0:=by
 rw[wtbE,Aq (by rw[h];simp),Aq (by rw[h2];simp),Aq (by
  rw[Bool.not_eq_true,List.any_eq_false];intro k hk;have:=h3 k (Dk.1 hk);rw[AZ];omega)]
 congr 1
 unfold wrB;simp only[DZ,AZ,or_assoc]
theorem jr6 {s:Sch} {t:Tbl} {n:Int} (h:spcE s=0) (h2:qf4 s t.dims=true) (h3:∀ k,k<tabN s t→0≤tabK s t k) (h4:wrB s t n (tabN s t)=true):wtbE s t n=2∧wtbR s t n=⟨0,[],[]⟩:=by
 have e:wtbE s t n=2:=by rw[jr5 h h2 h3,Aj h4]
 exact⟨e,Aj (by rw[e];simp)⟩
theorem jJ9 {s:Sch} {t:Tbl} {n:Int} (h:spcE s=0) (h2:qf4 s t.dims=true) (h3:∀ k,k<tabN s t→0≤tabK s t k) (h4:wrB s t n (tabN s t)=false):wtbE s t n=0∧wtbR s t n=⟨n,tabG s t.dims,(List.range (tabN s t)).map (tabV s t)⟩:=by
 have e:wtbE s t n=0:=by rw[jr5 h h2 h3,Aq (by rw[h4];simp)]
 exact⟨e,Aq (by rw[e];simp)⟩
theorem jY5 {s:Sch} (hE:schE s=0) (t:Tbl) (n:Int):RlsSm (wtbR s t n):=by
 unfold wtbR;split
 ·exact⟨sMp,sMp,sMp⟩
 ·rename_i h;have h1:spcE s=0:=AQ fun e=>h (by rw[(jr4 (t:=t) (n:=n) e).1];exact e);have hS:chkS (spSz s)=0:=by unfold spcE at h1;rwa [Aq (by rw[hE];simp)] at h1
  have hV:=ze2 hE hS t.dims;have hl:=hV.len;have hp:=hV.pub;have hL:=hV.sp.len;refine⟨by dsimp only;omega,fun g hg=>?_,by dsimp only;rw[BY,List.length_range];unfold tabN;omega⟩;dsimp only at hg;obtain⟨i,hi,rfl⟩:=CX hg;have:=(hV.g (i:=i) oM).len;omega
set_option maxHeartbeats 8000000
theorem qg4 (s:Sch) (hok:SchOk s) (c:Nat) (hc:c<s.cols.length) (h2:(qj s c).kind=2) (lev:Int):Sp 53 [schT s,vI c,vI lev] [] (.tup [vIs (grpL s c lev).1,vIs (grpL s c lev).2]) []:=by
 have hat:qj s c=s.cols[c]:=by rw[qj,qg hc]
 obtain⟨d1,d2⟩:=hok.cdl hc h2;obtain⟨d3,d4⟩:=(zi (hok.cs c hc)).2.2.2.1 h2;have hcl:qQ s c=s.lists.getD s.cols[c].list.toNat default:=by rw[qQ,hat]
 rw[hat] at d1 d3 d4;have hgl:s.lists.getD s.cols[c].list.toNat default=s.lists[s.cols[c].list.toNat]:=qg d1;have hll:=jn hok hc h2;have sL:=QL s hok c hc h2;obtain⟨f,hf⟩:∃ f:Int→Int,f=fun v=>upC (qQ s c) v lev:=⟨_,rfl⟩;have hU:∀ v,Sp 101 [cdlT s.lists[s.cols[c].list.toNat],vI v,vI lev] [] (vI (f v)) []:=fun v=>by
  have:=zU5 s.lists[s.cols[c].list.toNat] v lev;rw[hf,hcl,hgl];exact this
 have hG:grpL s c lev=grpF f (qJ s c):=by rw[hf];rfl
 rw[hG];generalize qJ s c=L at sL hll;have hX:∀ i,i≤L.length→(grpF f (L.take i)).1.length=i∧(grpF f (L.take i)).2.length≤i:=fun i hi=>by
  have:=zs6 f (L.take i);have e:(L.take i).length=i:=by rw[Cz];omega
  have h1:=this.len;have h2:=this.le;omega
 refine sIr Yz fun e _ hst=>?_;unfold kr;refine sW ?_;refine C1.im sL rF rF ?_;refine sW ?_;refine qk mixm (α:=Nat) [8,9,18] (fun i=>i≤L.length) (fun i=>[(8,.asl 1 (grpF f (L.take i)).1.length),(9,.asl 2 (grpF f (L.take i)).2.length),(18,vI i)]) (fun i=>[aR 4096 2 [schT s],aR 1 1 ((grpF f (L.take i)).1.map vI),aR 2 1 ((grpF f (L.take i)).2.map vI)]) (fun i=>L.length-i) 0 oM ?_ fun i hi=>?_
 ·show Le _ _ ⟨_,[aR 4096 2 [schT s],aR 1 1 [],aR 2 1 []]⟩;exact .oA [uI 4096,(1,none),(2,none)] []
 obtain⟨x1,x2⟩:=hX i hi;refine sD ?_;refine⟨fun h3=>?_,fun h3=>?_⟩
 ·have hi2:i<L.length:=by omega
  have hwi:=qh (i:=i) oM;have hsn:=qf3 f hi2;generalize grpF f (L.take i)=x at x1 x2 hsn;have sU:=hU L[i];have sI:=QJ x.2 (f L[i]) oM;simp only[tZ,↓uU,simprocAttr,Ax,qd hi2,qd hc,qd d1];refine⟨oM,oM,oM,?_⟩;refine C1.im sU rF rF ?_;refine sW ?_;refine⟨kR,?_⟩;refine C1.lend [2] sI ?_ rF rfl ?_
  ·all_goals (try exact clA)
  refine sW ?_;by_cases hm:f L[i]∈x.2
  ·obtain⟨b1,b2⟩:=Wb hm;have e1:qo1 x.2 (f L[i])=(idxN (f L[i]) x.2:Int):=by rw[qo1,Aj hm]
   have hs2:grpF f (L.take (i+1))=(x.1++[(idxN (f L[i]) x.2:Int)],x.2):=by rw[hsn,YX,Aj hm]
   simp only[e1];simp only[tZ,↓uU,simprocAttr,tD,hwi];refine⟨fun h=>absurd h oM,fun _=>⟨oM,i+1,oM,oM,?_⟩⟩;rw[hs2];exact .oA (U3 4096 1 2) []
  ·have e1:qo1 x.2 (f L[i]) = -1:=by rw[qo1,Aq hm]
   have hs2:grpF f (L.take (i+1))=(x.1++[(x.2.length:Int)],x.2++[f L[i]]):=by rw[hsn,YX,Aq hm]
   simp only[e1];simp only[tZ,↓uU,simprocAttr,tD,hwi];refine⟨oM,oM,i+1,oM,oM,?_⟩;rw[hs2];exact .oA (U3 4096 1 2) []
 ·have hil:i=L.length:=by omega
  subst hil;rw[Bw];exact .oA [] [1,2]
theorem qg5 {sz0:List Int} {gs:List (List Int)} (hv:VwOk sz0 gs) (n:Int) (hn:0≤n∧n≤1000000):Sp 55 [vwT gs,vI n] [] (vIs (zB (gs.map gN) n)) []:=by
 have hgl:gs.length≤4:=by have:=hv.len;have:=hv.sp.len;omega
 have ha:=hv.gsz;obtain⟨sz,hsz⟩:∃ sz,sz=gs.map gN:=⟨_,rfl⟩;rw[← hsz] at ha ⊢
 have hsl:sz.length=gs.length:=by rw[hsz,BY]
 have hsg:∀ j (hj:j<gs.length),sz[j]'oM=gN gs[j]:=fun j hj=>by subst hsz;rw[Fj]
 have hw:IntKind.i64.wrap ((gs.length:Int)-1)=(gs.length:Int)-1:=AK _ oM;have ht:(gs.length:Int).toNat=gs.length:=Ax _;refine sIr YB fun e _ hst=>?_;unfold ku;simp only[tZ,↓uU,simprocAttr,ht,hw];refine⟨oM,?_⟩;simp only[tZ,↓uU,simprocAttr,ht,hw,List.length_replicate];refine qk mixm (α:=Nat) [1,6] (fun j=>j≤sz.length) (fun j=>[(1,vI (zy (sz.drop j) n).2),(6,vI ((j:Int)-1))]) (fun j=>[aR 4096 1 [vwT gs],aR 8204 1 ((plO sz n j).map vI)]) (fun j=>j) sz.length oM ?_ fun j hj=>?_
 ·have e1:plO sz n sz.length=List.replicate gs.length 0:=by
   rw[← hsl];unfold plO zB;rw[List.drop_length];simp [zy]
  have e2:(zy (sz.drop sz.length) n).2=n:=by rw[List.drop_length];rfl
  rw[e1,e2,hsl];refine .of (U2 4096 8204) [] rfl (by first | rfl | (rw[hst];rfl)) ?_ ?_
  all_goals (try simp only[tL,simprocAttr,By,List.map_cons,List.map_nil,BW,Cy,Ax,zD0])
  all_goals (try (exact clA))
 simp only[tZ,↓uU,simprocAttr,AZ,Ay];refine⟨fun h=>?_,fun h=>?_⟩
 ·obtain⟨j,rfl⟩:∃ c,j=c+1:=⟨j-1,oM⟩;have hj2:j<sz.length:=by omega
  have hjg:j<gs.length:=by omega
  have hk:1≤sz[j]∧sz[j]≤8:=by simpa [szOk] using Bk.1 ha sz[j] (AX hj2)
  have hj1:(((j+1:Nat):Int)-1)=(j:Int):=by omega
  have hw2:IntKind.i64.wrap ((j:Int)-1)=(j:Int)-1:=AK _ oM;have hn0:=Wf (n:=n) ha hn.1 (j+1);have hn1:=zf4 (n:=n) ha hn.1 (j+1);have hq:0≤(zy (sz.drop (j+1)) n).2 / sz[j]∧(zy (sz.drop (j+1)) n).2 / sz[j]≤n:=⟨Int.ediv_nonneg hn0 oM,Int.le_trans (Int.ediv_le_self _ hn0) hn1⟩;have hw3:IntKind.i64.wrap ((zy (sz.drop (j+1)) n).2 / sz[j])=(zy (sz.drop (j+1)) n).2 / sz[j]:=AK _ oM;have hg:=hv.g (i:=j) oM;have hm:=Ja gs[j] hg.len.1 (by have:=hg.len;omega);have hw4:IntKind.i64.wrap (1+maxF gs[j])=sz[j]:=by
   have:=hg.n;rw[hsg j hjg,hg.max,AK _ oM]
  simp only[hj1];simp only[tZ,↓uU,simprocAttr,Ax,qd hjg];refine⟨oM,?_⟩;refine C1.im hm rF rF ?_;simp only[tZ,↓uU,simprocAttr,hw4,Int.tmod_eq_emod_of_nonneg hn0,Int.tdiv_eq_ediv_of_nonneg hn0,hw2,hw3,Ax];have hpl:=jq7 (sz:=sz) (n:=n) (j:=j+1) oM;have hj3:j<(plO sz n (j+1)).length:=by omega
  simp only[qd hj3,show ∀ a b:Int,repl (vI a) 0 (vI b)=vI b from fun _ _=>rfl];rw[← List.map_set,jq8 hj2];refine⟨oM,⟨oM,oM,oM⟩,⟨oM,oM,rfl⟩,oM,j,oM,oM,?_⟩;rw[Wz hj2];exact .oA (U2 4096 8204) []
 ·have:j=0:=by omega
  subst this;have e1:plO sz n 0=zB sz n:=by simp [plO,List.replicate_zero]
  rw[e1];have hpn:=KV sz n;refine .of [] [8204] rfl (by first | rfl | (rw[hst];rfl)) ?_ ?_
  all_goals (try simp only[tL,simprocAttr,By,List.map_cons,List.map_nil,BW,Cy,Ax])
  all_goals (try (exact clA))
theorem Jc (x d:Pk):Sp 100 [pkT x,.ip [vI d.col,vI d.lev]] [] (vB (x.col==d.col)) []:=by
 refine sIr Zm fun e _ hst=>?_;unfold jg;refine sW ?_;exact .oA [] []
theorem qa2 (d:Pk) (c:Int):Sp 52 [pkT d,.ip [vI c]] [] (vB (d.col==c)) []:=by
 refine sIr WG fun e _ hst=>?_;unfold jT;refine sW ?_;exact .oA [] []
theorem jr7 {s:Sch} {l:List Pk} {i:Nat} (hi:i<l.length) (h:qk8 s l i=false):qf4 s l=false:=by
 unfold qf4;rw[List.all_eq_false];exact⟨i,Dk.2 hi,by rw[h];simp⟩
theorem Kp (s:Sch) (hs:jO s) (l:List Pk) (hl:l.length<4611686018427387904):Sp 50 [schT s,vPs l] [] (vB (qf4 s l)) []:=by
 have hno:=fun i (hi:i<l.length)=>jr7 (s:=s) hi;have hyes:(∀ j,j<l.length→qk8 s l j=true)→qf4 s l=true:=fun h=>Bk.2 fun j hj=>h j (Dk.1 hj);generalize qf4 s l=B at hno hyes ⊢
 refine sIr Jo fun e _ hst=>?_;unfold jo;refine sW ?_;refine qk mixm (α:=Nat) [9] (fun i=>i≤l.length∧∀ j,j<i→qk8 s l j=true) (fun i=>[(9,vI i)]) (fun i=>[aR 4096 2 [schT s]]) (fun i=>l.length-i) 0 ⟨oM,fun j h=>by omega⟩ ?_ fun i hi=>?_
 ·exact .oA (U1 4096) []
 refine sD ?_;refine⟨fun h2=>?_,fun h2=>?_⟩
 ·have hi2:i<l.length:=by omega
  have hwi:=qh (i:=i) oM;have sP:=zd8 s hs l[i];have hA:qk8 s l i=((jj s l[i]==0)&&((qj s l[i].col.toNat).kind==2)&&(l.take i).all fun x=>x.col != l[i].col):=by rw[qk8,qg hi2]
  have hnoi:=hno i hi2;simp only[tZ,↓uU,simprocAttr,Ax,qd hi2];refine⟨oM,?_⟩;by_cases h3:jj s l[i]=0
  ·have hpk:=jC h3;obtain⟨c,hc⟩:=AJ (show 0≤l[i].col by omega);have hc2:c<s.cols.length:=by omega
   have hat:qj s c=s.cols[c]:=by rw[qj,qg hc2]
   rw[h3] at sP hA;rw[hc,Ax,hat] at hA;refine C1.im sP rF rF ?_;simp only[tZ,↓uU,simprocAttr,hc,Ax,qd hc2,Bj,Aw];refine⟨oM,fun h4=>?_,fun h4=>?_⟩
   ·rw[hnoi (by rw[hA];simp;intro h5;exact absurd h5 h4)];exact .oA [] []
   have hCF:=QD (fun x=>x.col==l[i].col) 100 [.ip (pkT l[i]).cells] rfl (l.take i) (fun x _=>Jc x l[i]) (by rw[Cz];omega);rw[show (pkT l[i]).cells=[vI (c:Int),vI l[i].lev] from by rw[← hc];rfl] at hCF;refine⟨oM,?_⟩;rw[QO,qw5];refine C1.lend [16396] hCF ?_ rF rF ?_
   ·all_goals (try simp only[tL,simprocAttr,By,List.map_cons,List.map_nil,BW,Cy])
    all_goals (try (repeat' (first | exact qZ | (apply zk;intro _;exact⟨rfl,rfl⟩) | (apply qH;intro _;exact⟨rfl,rfl⟩) | with_reducible apply qV | with_reducible refine qW ⟨rfl,rfl⟩ ?_ | exact zd | with_reducible apply qR | with_reducible refine qY ⟨rfl,rfl,?_⟩ ?_ | with_reducible apply Az | exact qS rfl | exact qS (by assumption) | (refine⟨⟨?_,rfl,?_,rfl,?_⟩,trivial⟩ <;> first | (simp;done) | (apply qH;intro _;exact⟨rfl,rfl⟩)) | trivial | rfl | (rw[qh oM]) | omega)))
    simp only[ltP];exact⟨rfl,by decide,rfl,qW ⟨rfl,rfl⟩ zd⟩
   simp only[tZ,↓uU,simprocAttr,hwi];refine⟨fun h5=>?_,fun h5=>?_⟩
   ·rw[hnoi (by rw[hA];simp;intro _;simpa [hc] using h5)];exact .oA [] []
   ·refine⟨i+1,⟨oM,fun j hj=>?_⟩,oM,?_⟩
    ·by_cases e:j=i
     ·subst e;rw[hA];simp;refine⟨h4,?_⟩;simpa [hc] using h5
     ·exact hi.2 j oM
    ·exact .oA (U1 4096) []
  ·have q:(jj s l[i] != 0)=true:=Bj.2 h3;refine C1.im sP rF rF ?_;have hnn:=hnoi (by rw[hA,Ak.2 h3];rfl);rcases Nat.lt_or_ge l[i].col.toNat s.cols.length with hc | hc
   ·simp only[tZ,↓uU,simprocAttr,q,qd hc];rw[hnn];exact .oA [] []
   ·have hj:(s.cols.map colT).getD l[i].col.toNat .junk = .junk:=by
     rw[CY,List.getElem?_eq_none (by rw[BY];exact hc)];rfl
    simp only[tZ,↓uU,simprocAttr,q,hj,QN];rw[hnn];exact .oA [] []
 ·have hil:i=l.length:=by omega
  rw[hyes (fun j hj=>hi.2 j oM)];exact .oA [] []
theorem Jd (s:Sch) (hs:jO s):Sp 12 [schT s] [] (.tup [spT (spcS s),vIs (spcC s),vI (spcE s)]) []:=by
 have hV:=WZ s hs.2.1 hs.1;refine zU [12] qc3 mixm sMp fun e _ hst=>kL ?_;unfold kO;simp only[wV,List.contains_cons,List.contains_nil,Nat.reduceBEq,Bool.or_false,Bool.or_true,Bool.true_or,Bool.false_or,cond_true,cond_false];refine sW ?_;refine C1.im hV rF rF ?_;simp only[tZ,↓uU,simprocAttr,Bj,Aw];refine⟨fun h=>?_,fun h=>?_⟩
 ·have e:spcE s=schE s:=Aj h;have e1:spcS s=[]:=Aj (by rw[e];exact h);have e2:spcC s=[]:=Aj (by rw[e];exact h);rw[e,e1,e2];exact .oA [] []
 have hok:=qU h;have e:spcE s=chkS (spSz s):=Aq (by rw[h];simp);have hnc:=hok.nc;refine qk mixm (α:=Nat) [7,20] (fun i=>i≤s.cols.length) (fun i=>[(7,.asl 2 (wN s 2 i).length),(20,vI i)]) (fun i=>[aR 4096 2 [schT s],aR 4100 1 [spT []],aR 20480 1 [.agg [.asl 1 (wN s 2 i).length]],aR 1 1 ((szF s i).map vI),aR 2 1 ((wN s 2 i).map vI)]) (fun i=>s.cols.length-i) 0 oM ?_ fun i hi=>?_
 ·show Le _ _ ⟨_,[aR 4096 2 [schT s],aR 4100 1 [spT []],aR 20480 1 [.agg [.asl 1 0]],aR 1 1 [],aR 2 1 []]⟩;exact .oA [uI 4096,uI 4100,uI 20480,(1,none),(2,none)] []
 have hfl:=Qt s 2 i;have hzl:=jq6 s i;refine sD ?_;refine⟨fun h2=>?_,fun h2=>?_⟩
 ·have hi2:i<s.cols.length:=by omega
  have hwi:=qh (i:=i) oM;have hat:qj s i=s.cols[i]:=by rw[qj,qg hi2]
  have hsu:=jv s 2 i;have hzu:=zQ1 s i;simp only[tZ,↓uU,simprocAttr,Ax,qd hi2,hwi,AY,Ak];refine⟨oM,fun h3=>?_,fun h3=>?_⟩
  ·rw[← hat] at h3;have sL:=QL s hok i hi2 h3;rw[Aj h3] at hsu hzu;refine C1.im sL rF rF ?_;refine sW ?_;refine⟨oM,oM,oM,kR,i+1,oM,oM,?_⟩;rw[hsu,hzu];exact .oA (U5 4096 4100 20480 1 2) []
  ·rw[← hat] at h3;rw[Aq h3,CW] at hsu hzu;refine⟨i+1,oM,oM,?_⟩;rw[hsu,hzu];exact .oA (U5 4096 4100 20480 1 2) []
 ·have hil:i=s.cols.length:=by omega
  subst hil;have hz:szF s s.cols.length=spSz s:=rfl;rw[hz] at hzl ⊢
  have hcl:(wN s 2 s.cols.length)=qK s 2:=rfl;rw[hcl] at hzl hfl ⊢
  refine W_le [(2,.ptr 4100 1 0 0),(6,.ptr 20480 1 0 0),(7,vIs (qK s 2))] [aR 4100 1 [spT []],aR 20480 1 [spT (spSz s)]] ?_ ?_
  ·refine .of (U2 4100 20480) [1,2] rfl (by first | rfl | (rw[hst];rfl)) ?_ ?_
   all_goals (try simp only[tL,simprocAttr,By,List.map_cons,List.map_nil,BW,Cy,hzl])
   all_goals (try (repeat' (first | exact qZ | (apply zk;intro _;exact⟨rfl,rfl⟩) | (apply qH;intro _;exact⟨rfl,rfl⟩) | with_reducible apply qV | with_reducible refine qW ⟨rfl,rfl⟩ ?_ | exact zd | with_reducible apply qR | with_reducible refine qY ⟨rfl,rfl,?_⟩ ?_ | with_reducible apply Az | exact qS rfl | exact qS (by assumption) | (refine⟨⟨?_,rfl,?_,rfl,?_⟩,trivial⟩ <;> first | (simp;done) | (apply qH;intro _;exact⟨rfl,rfl⟩)) | trivial | rfl | (rw[qh oM]) | omega)))
   show ltCs _ _ _ [T.asl 1 (qK s 2).length] [vIs (spSz s)];simp only[tL,simprocAttr];exact⟨hzl,(by apply qH;intro _;exact⟨rfl,rfl⟩)⟩
  have sC:=JX (spSz s) oM;refine sW ?_;refine C1.im sC rF rF ?_;simp only[tZ,↓uU,simprocAttr,Bj,Aw];refine⟨fun h3=>?_,fun h3=>?_⟩
  ·have e1:spcS s=[]:=Aj (by rw[e];exact h3);have e2:spcC s=[]:=Aj (by rw[e];exact h3);rw[e,e1,e2];exact .oA [] []
  ·have e1:spcS s=spSz s:=Aq (by rw[e,h3];simp);have e2:spcC s=qK s 2:=Aq (by rw[e,h3];simp);rw[e,e1,e2,h3];exact .oA [] []
set_option maxHeartbeats 16000000
theorem jr8 {st:Sto} {ρ:Ren} {B:List Nat} (m:Nat):ltXs st ρ B 1 (List.replicate m (T.v (Value.slice none 0 0))) ((List.replicate m ([]:List Int)).map vIs):=by
 refine⟨sMp,fun i x y hx hy=>?_⟩;rw[DY,List.getElem?_replicate] at hy;rw[List.getElem?_replicate] at hx;split at hx
 ·rename_i h;rw[Aj h] at hy;obtain rfl:=Option.some.inj hx;obtain rfl:=Option.some.inj hy;refine⟨rfl,rfl,?_⟩;show ltCs _ _ _ [T.v _] [vIs []];simp [ltCs,ltC,ltC0]
 ·cases hx
theorem ql8 (s:Sch) (hs:jO s) (t:Tbl) (n:Int) (hd:t.dims.length<1000) (hcn:t.cells.length<4611686018427387904) (hcl:∀ c∈t.cells,c.codes.length<4611686018427387904):Sp 14 [schT s,tblT t,vI n] [] (.tup [rlsT (wtbR s t n),vI (wtbE s t n)]) []:=by
 have sSp:=Jd s hs;have sDm:=Kp s hs t.dims oM;have hsp:=jr4 (s:=s) (t:=t) (n:=n);have hdm:=jJ7 (s:=s) (t:=t) (n:=n);have hno:=fun h h2 k hk h3=>jJ8 (s:=s) (t:=t) (n:=n) h h2 (k:=k) hk h3;have hbd:=jr6 (s:=s) (t:=t) (n:=n);have hgd:=jJ9 (s:=s) (t:=t) (n:=n);generalize wtbE s t n=E at hsp hdm hno hbd hgd ⊢
 generalize wtbR s t n=Z at hsp hdm hno hbd hgd ⊢
 refine zU [18,19] qc5 mixm sMp fun e _ hst=>kL ?_;unfold kP;simp only[wV,List.contains_cons,List.contains_nil,Nat.reduceBEq,Bool.or_false,Bool.or_true,Bool.true_or,Bool.false_or,cond_true,cond_false];refine sW ?_;refine C1.im sSp rF rF ?_;simp only[tZ,↓uU,simprocAttr,Bj,Aw];refine⟨fun h=>?_,fun h=>?_⟩
 ·obtain⟨a1,a2⟩:=hsp h;rw[a1,a2];exact .oA [] []
 have hSp0:schE s=0∧chkS (spSz s)=0:=by
  unfold spcE at h;split at h
  ·rename_i h2;exact absurd h h2
  ·rename_i h2;exact⟨AQ h2,h⟩
 obtain⟨hE,hS⟩:=hSp0;have e1:spcS s=spSz s:=Aq (by rw[h];simp);have e2:spcC s=qK s 2:=Aq (by rw[h];simp);rw[e1,e2];refine C1.im sDm rF rF ?_;simp only[tZ,↓uU,simprocAttr,Bx,Bz];refine⟨fun h2=>?_,fun h2=>?_⟩
 ·obtain⟨a1,a2⟩:=hdm h h2;rw[a1,a2];exact .oA [] []
 have hD:=ze6 h2;have hok:=qU hE;have hV:=ze2 hE hS t.dims;have hSl:=qs8 s;have hcl4:(qK s 2).length≤4:=by have:=hV.sp.len;omega
 have htn:(t.dims.length:Int).toNat=t.dims.length:=Ax _;obtain⟨z1,z2⟩:=jC0 s t.dims;refine⟨oM,oM,?_⟩;refine qk mixm (α:=Nat) [53] (fun i=>i≤(qK s 2).length) (fun i=>[(53,vI i),(12,.asl 32780 t.dims.length),(13,.asl 36876 t.dims.length)]) (fun i=>[aR 4096 2 [schT s],aR 4100 3 [tblT t],aR 4104 3 [rlsT ⟨0,[],[]⟩],aR 8216 1 [spT (spSz s)],aR 28680 3 [.agg [vI n,.asl 1 i,.asl 2 0]],aR 32780 1 ((ofP s t.dims i).map vIs),aR 36876 1 ((plP s t.dims i).map vI),aR 1 1 (((tabG s t.dims).take i).map vIs),aR 2 1 []]) (fun i=>(qK s 2).length-i) 0 oM ?_ fun i hi=>?_
 ·rw[z1,z2];simp only[htn];refine .of [uI 4096,uI 4100,uI 4104,uI 8216,uI 28680,uI 32780,uI 36876,(1,none),(2,none)] [] rfl (by first | rfl | (rw[hst];rfl)) ?_ ?_
  all_goals (try simp only[tL,simprocAttr,By,List.map_cons,List.map_nil,BW,Cy,zD0])
  all_goals (try (repeat' (first | exact qZ | (apply zk;intro _;exact⟨rfl,rfl⟩) | (apply qH;intro _;exact⟨rfl,rfl⟩) | with_reducible apply qV | with_reducible refine qW ⟨rfl,rfl⟩ ?_ | exact zd | with_reducible apply qR | with_reducible refine qY ⟨rfl,rfl,?_⟩ ?_ | with_reducible apply Az | exact qS rfl | exact qS (by assumption) | (refine⟨⟨?_,rfl,?_,rfl,?_⟩,trivial⟩ <;> first | (simp;done) | (apply qH;intro _;exact⟨rfl,rfl⟩)) | trivial | rfl | (rw[qh oM]) | omega)))
  exact jr8 _
 have hgl:=zf6 s t.dims;have hgi:((tabG s t.dims).take i).length=i:=by rw[Cz];omega
 have hol:(ofP s t.dims i).length=t.dims.length:=by unfold ofP;simp
 have hpl:(plP s t.dims i).length=t.dims.length:=by unfold plP;simp
 refine sD ?_;refine⟨fun h3=>?_,fun h3=>?_⟩
 ·have hi2:i<(qK s 2).length:=by omega
  have hwi:=qh (i:=i) oM;have hcd:=jp3 (AX hi2);have hsg:=jC5 s hi2;have his:i<(spSz s).length:=by omega
  have hsn:=zu7 s t.dims hi2;have hvw:vwG s t.dims (qK s 2)[i]=if dmAt t.dims (qK s 2)[i]<t.dims.length then (grpL s (qK s 2)[i].toNat (t.dims.getD (dmAt t.dims (qK s 2)[i]) default).lev).1 else List.replicate (qJ s (qK s 2)[i].toNat).length 0:=rfl
  have hhit:=jQ4 hD hi2;have hnoh:=jY3 hD hi2;have hofd:∀ a,ofD s t.dims a=(grpL s (t.dims.getD a default).col.toNat (t.dims.getD a default).lev).2:=fun _=>rfl;have sI:=wd (fun d=>d.col==(qK s 2)[i]) 52 [.ip [vI (qK s 2)[i]]] rfl t.dims (fun d _=>qa2 d (qK s 2)[i]) oM;rw[jY4] at sI;have hdg:∀ h:dmAt t.dims (qK s 2)[i]<t.dims.length,(t.dims[dmAt t.dims (qK s 2)[i]]'h).col=(qK s 2)[i]:=fun h=>qs6 h;simp only[tZ,↓uU,simprocAttr,Ax,qd hi2];refine⟨oM,?_⟩;generalize (qK s 2)[i]=c at hcd hsg hsn hvw hhit hnoh sI hdg ⊢
  have hrg:=hcd.rng;have hkd:=hcd.kind;obtain⟨cn,rfl⟩:=AJ hrg.1;rw[Ax] at hkd hvw hsg;have hll:=jn hok (i:=cn) oM hkd;refine C1.lend [49164] sI ?_ rF rF ?_
  ·all_goals (try simp only[tL,simprocAttr,By,List.map_cons,List.map_nil,BW,Cy])
   all_goals (try (repeat' (first | exact qZ | (apply zk;intro _;exact⟨rfl,rfl⟩) | (apply qH;intro _;exact⟨rfl,rfl⟩) | with_reducible apply qV | with_reducible refine qW ⟨rfl,rfl⟩ ?_ | exact zd | with_reducible apply qR | with_reducible refine qY ⟨rfl,rfl,?_⟩ ?_ | with_reducible apply Az | exact qS rfl | exact qS (by assumption) | (refine⟨⟨?_,rfl,?_,rfl,?_⟩,trivial⟩ <;> first | (simp;done) | (apply qH;intro _;exact⟨rfl,rfl⟩)) | trivial | rfl | (rw[qh oM]) | omega)))
   simp only[ltP];exact⟨rfl,by decide,rfl,qW ⟨rfl,rfl⟩ zd⟩
  by_cases hm:dmAt t.dims (cn:Int)<t.dims.length
  ·simp only[Aj hm];obtain⟨q1,q2⟩:=hhit hm;have hdc:=hdg hm;rw[Aj hm,qg hm] at hvw;have hof:=hofd (dmAt t.dims (cn:Int));rw[qg hm,hdc,Ax] at hof;have sG:=qg4 s hok cn oM hkd t.dims[dmAt t.dims (cn:Int)].lev;rw[← hvw,← hof] at sG;clear hhit hnoh hdg hofd hvw hof sI;generalize dmAt t.dims (cn:Int)=m at hm q1 q2 hdc sG ⊢
   generalize ofD s t.dims m=O at q1 sG;generalize vwG s t.dims (cn:Int)=V at hsn sG;refine sD ?_;refine⟨fun h5=>absurd h5 oM,fun _=>?_⟩;simp only[tZ,↓uU,simprocAttr,Ax,qd hm];refine⟨oM,?_⟩;refine C1.im sG rF rF ?_;simp only[tZ,↓uU,simprocAttr,Ax];refine⟨kR,?_⟩;have hm1:m<(ofP s t.dims i).length:=by omega
   have hm2:m<(plP s t.dims i).length:=by omega
   simp only[qd hm1,qd hm2,show ∀ a b:Int,repl (vI a) 0 (vI b)=vI b from fun _ _=>rfl,show ∀ a b:List Int,repl (vIs a) 0 (vIs b)=vIs b from fun _ _=>rfl]
   repeat (first | refine⟨⟨oM,oM,rfl⟩,?_⟩ | refine⟨⟨oM,oM⟩,?_⟩ | refine⟨oM,?_⟩)
   rw[← List.map_set,← List.map_set,← q1,← q2];refine W_le [(2,vI n),(3,.ptr 4096 1 0 0),(4,.ptr 4100 1 0 0),(6,.ptr 4104 1 0 0),(8,.ptr 8216 1 0 0),(11,.ptr 28680 1 0 0),(12,.asl 32780 t.dims.length),(13,.asl 36876 t.dims.length),(51,vIs (qK s 2)),(52,vI (qK s 2).length),(53,vI i)] [aR 4096 2 [schT s],aR 4100 3 [tblT t],aR 4104 3 [rlsT ⟨0,[],[]⟩],aR 8216 1 [spT (spSz s)],aR 28680 3 [.agg [vI n,.asl 1 (i+1),.asl 2 0]],aR 32780 1 ((ofP s t.dims (i+1)).map vIs),aR 36876 1 ((plP s t.dims (i+1)).map vI),aR 1 1 (((tabG s t.dims).take (i+1)).map vIs),aR 2 1 []] ?_ ?_
   ·rw[hsn];exact .oA [uI 4096,uI 4100,uI 4104,uI 8216,uI 28680,uI 32780,uI 36876,uI 1,uI 2] []
   simp only[tZ,↓uU,simprocAttr,hwi];refine⟨i+1,oM,oM,?_⟩;exact .oA [uI 4096,uI 4100,uI 4104,uI 8216,uI 28680,uI 32780,uI 36876,uI 1,uI 2] []
  ·simp only[Aq hm];obtain⟨q1,q2⟩:=hnoh hm;rw[Aq hm] at hvw;clear hhit hnoh hdg hofd sI;generalize vwG s t.dims (cn:Int)=V at hsn hvw;simp only[tZ,↓uU,simprocAttr,tD,Ax,qd his,hsg];refine⟨oM,oM,sMp,oM,oM,kR,?_⟩;have hvl:V.length=(qJ s cn).length:=by rw[hvw,List.length_replicate]
   rw[zD0,← hvw,← hvl];refine W_le [(2,vI n),(3,.ptr 4096 1 0 0),(4,.ptr 4100 1 0 0),(6,.ptr 4104 1 0 0),(8,.ptr 8216 1 0 0),(11,.ptr 28680 1 0 0),(12,.asl 32780 t.dims.length),(13,.asl 36876 t.dims.length),(51,vIs (qK s 2)),(52,vI (qK s 2).length),(53,vI i)] [aR 4096 2 [schT s],aR 4100 3 [tblT t],aR 4104 3 [rlsT ⟨0,[],[]⟩],aR 8216 1 [spT (spSz s)],aR 28680 3 [.agg [vI n,.asl 1 (i+1),.asl 2 0]],aR 32780 1 ((ofP s t.dims (i+1)).map vIs),aR 36876 1 ((plP s t.dims (i+1)).map vI),aR 1 1 (((tabG s t.dims).take (i+1)).map vIs),aR 2 1 []] ?_ ?_
   ·rw[hsn,q1,q2];exact .oA [uI 4096,uI 4100,uI 4104,uI 8216,uI 28680,uI 32780,uI 36876,uI 1,uI 2] [61472]
   simp only[tZ,↓uU,simprocAttr,hwi];refine⟨i+1,oM,oM,?_⟩;exact .oA [uI 4096,uI 4100,uI 4104,uI 8216,uI 28680,uI 32780,uI 36876,uI 1,uI 2] []
 ·have hil:i=(qK s 2).length:=by omega
  subst hil;obtain⟨y1,y2⟩:=jQ5 hD;rw[y1,y2,List.take_of_length_le oM,← hgl];have hvG:∀ g∈tabG s t.dims,g.length<1000000:=fun g hg=>by
   obtain⟨j,hj,rfl⟩:=CX hg;have:=(hV.g (i:=j) oM).len;omega
  have sPb:=Jb (spSz s) (tabG s t.dims) oM oM hvG;have hpb:=hV.pub;rw[show Qp (spSz s) (tabG s t.dims)=(tabN s t:Int) by
   unfold Qp tabN;rw[Aj (Wr.2 hV)];omega] at sPb
  have hN:tabN s t≤48:=by unfold tabN;omega
  have hNp:∀ k:Nat,k<tabN s t→(k:Int)<pubN (tabG s t.dims):=fun k h=>by unfold tabN at h;omega
  obtain⟨O,hO⟩:∃ O,O=(List.range t.dims.length).map (ofD s t.dims):=⟨_,rfl⟩;obtain⟨Pl,hPl⟩:∃ Pl,Pl=(List.range t.dims.length).map fun a=>(plD s t.dims a:Int):=⟨_,rfl⟩;have hOl:O.length=t.dims.length:=by rw[hO];simp
  have hPll:Pl.length=t.dims.length:=by rw[hPl];simp
  have hOg:∀ a (h:a<t.dims.length),O[a]'oM=ofD s t.dims a:=fun a h=>by subst hO;rw[Fj,List.getElem_range]
  have hPg:∀ a (h:a<t.dims.length),Pl[a]'oM=(plD s t.dims a:Int):=fun a h=>by subst hPl;rw[Fj,List.getElem_range]
  rw[← hO,← hPl];clear hO hPl;refine W_le [(2,vI n),(4,.ptr 4100 1 0 0),(6,.ptr 4104 1 0 0),(8,.ptr 8216 1 0 0),(11,.ptr 28680 1 0 0),(12,vvIs O),(13,vIs Pl)] [aR 4100 3 [tblT t],aR 4104 3 [rlsT ⟨0,[],[]⟩],aR 8216 1 [spT (spSz s)],aR 28680 3 [.agg [vI n,vvIs (tabG s t.dims),.asl 2 0]],aR 2 1 []] ?_ ?_
  ·refine .of (U5 4100 4104 8216 28680 2) [1,32780,36876] rfl (by first | rfl | (rw[hst];rfl)) ?_ ?_
   all_goals (try simp only[tL,simprocAttr,By,List.map_cons,List.map_nil,BW,Cy])
   all_goals (try (repeat' (first | exact qZ | (apply zk;intro _;exact⟨rfl,rfl⟩) | (apply qH;intro _;exact⟨rfl,rfl⟩) | with_reducible apply qV | with_reducible refine qW ⟨rfl,rfl⟩ ?_ | exact zd | with_reducible apply qR | with_reducible refine qY ⟨rfl,rfl,?_⟩ ?_ | with_reducible apply Az | exact qS rfl | exact qS (by assumption) | (refine⟨⟨?_,rfl,?_,rfl,?_⟩,trivial⟩ <;> first | (simp;done) | (apply qH;intro _;exact⟨rfl,rfl⟩)) | trivial | rfl | (rw[qh oM]) | omega)))
   simp only[T.cells,tL,simprocAttr]
   all_goals (try exact clA)
  clear sSp sDm hsp hdm z1 z2 y1 y2;refine sW ?_;refine C1.im sPb rF rF ?_;refine sW ?_;refine qk mixm (α:=Nat) [19,116] (fun k=>k≤tabN s t∧∀ j,j<k→0≤tabK s t j) (fun k=>[(19,vB (wrB s t n k)),(116,vI k)]) (fun k=>[aR 4100 3 [tblT t],aR 4104 3 [rlsT ⟨0,[],[]⟩],aR 28680 3 [.agg [vI n,vvIs (tabG s t.dims),.asl 2 k]],aR 2 1 (((List.range k).map (tabV s t)).map vI)]) (fun k=>tabN s t-k) 0 ⟨oM,fun j h=>by omega⟩ ?_ fun k hk=>?_
  ·rw[zQ4];exact .oA (U4 4100 4104 28680 2) []
  have hvk:((List.range k).map (tabV s t)).length=k:=by simp
  refine sD ?_;refine⟨fun h3=>?_,fun h3=>?_⟩
  ·have hk2:k<tabN s t:=by omega
   have hwk:=qh (i:=k) oM;have hnk:=hNp k hk2;have sS:=qg5 hV k oM;have hrg:=fun a ha=>zQ2 hE hS hD hnk (a:=a) ha;have hck:=fun a ha=>zP4 (s:=s) (ds:=t.dims) (k:=k) (a:=a) ha;have hck2:=qg0 s t.dims k;have sF:=qE7 t (JS s t.dims k) hcn hcl;have hws:=zQ3 s t n k;have hvs:(List.range (k+1)).map (tabV s t)=(List.range k).map (tabV s t)++[tabV s t k]:=by rw[List.range_succ,By];rfl
   rw[show fndC t.cells (JS s t.dims k)=tabK s t k from rfl] at sF;have hfl:=fun m (h:tabK s t k=(m:Nat))=>jJ6 (l:=t.cells) (y:=JS s t.dims k) h;have htv:tabV s t k=(t.cells.getD (tabK s t k).toNat ⟨[],0,0,0,0,0,[]⟩).cnt:=rfl;have hnok:=hno h h2 k hk2;generalize JS s t.dims k=C at hck hck2 sF hfl;generalize zB ((tabG s t.dims).map gN) k=P at sS hrg hck;refine C1.im sS rF rF ?_;refine sW ?_;refine qk mixm (α:=Nat) [22,126] (fun a=>a≤t.dims.length) (fun a=>[(22,.asl 3 a),(126,vI a)]) (fun a=>[aR 4100 3 [tblT t],aR 4104 3 [rlsT ⟨0,[],[]⟩],aR 28680 3 [.agg [vI n,vvIs (tabG s t.dims),.asl 2 k]],aR 2 1 (((List.range k).map (tabV s t)).map vI),aR 3 1 ((C.take a).map vI)]) (fun a=>t.dims.length-a) 0 oM ?_ fun a ha=>?_
   ·show Le _ _ ⟨_,[aR 4100 3 [tblT t],aR 4104 3 [rlsT ⟨0,[],[]⟩],aR 28680 3 [.agg [vI n,vvIs (tabG s t.dims),.asl 2 k]],aR 2 1 (((List.range k).map (tabV s t)).map vI),aR 3 1 []]⟩;exact .oA [uI 4100,uI 4104,uI 28680,uI 2,(3,none)] []
   have hca:(C.take a).length=a:=by rw[Cz];omega
   refine sD ?_;refine⟨fun h5=>?_,fun h5=>?_⟩
   ·have ha2:a<t.dims.length:=by omega
    have hwa:=qh (i:=a) oM;obtain⟨r1,r2,r3⟩:=hrg a ha2;have hc:=hck a ha2;rw[qg r1] at r2 r3 hc;rw[qg r3,qg (show a<C.length by omega)] at hc;have hsc:C.take (a+1)=C.take a++[C[a]'oM]:=qz oM;rw[hc] at hsc;have hO2:a<O.length:=by omega
    have hP2:a<Pl.length:=by omega
    simp only[tZ,↓uU,simprocAttr,Ax,qd hO2,qd hP2,hOg a ha2,hPg a ha2,qd r1,qd r3];refine⟨oM,oM,oM,oM,oM,kR,?_⟩;simp only[tZ,↓uU,simprocAttr,hwa];refine⟨a+1,oM,oM,?_⟩;rw[hsc];exact .oA (U5 4100 4104 28680 2 3) []
   ·have hal:a=C.length:=by omega
    subst hal;rw[Bw];refine C1.lend [3] sF ?_ rF rfl ?_
    ·all_goals (try exact clA)
    refine sD ?_;refine⟨fun h6=>?_,fun h6=>?_⟩
    ·obtain⟨a1,a2⟩:=hnok h6;rw[a1,a2];exact .oA [] []
    obtain⟨m,hm⟩:=AJ (show 0≤tabK s t k by omega);have hml:=hfl m hm;rw[hm,Ax,qg hml] at htv;have sV:=wB t.cells[m].cnt;rw[← htv] at sV;rw[hm];simp only[tZ,↓uU,simprocAttr,Ax,qd hml];rw[← htv];refine⟨fun _=>by omega,?_⟩;refine C2.im (fun _=>sV) (fun _=>rfl) rF ?_;simp only[tZ,↓uU,simprocAttr,Ax,qd hml,← htv];have hvk2:(List.range k).length=k:=by simp
    refine⟨oM,oM,oM,kR,?_⟩;simp only[tZ,↓uU,simprocAttr,hwk];refine⟨k+1,⟨oM,fun j hj=>?_⟩,oM,?_⟩
    ·by_cases e:j=k
     ·subst e;omega
     ·exact hk.2 j oM
    rw[hws,hvs];exact .oA (U4 4100 4104 28680 2) []
  ·have hkl:k=tabN s t:=by omega
   subst hkl;refine⟨fun h4=>?_,fun h4=>⟨sMp,?_⟩⟩
   ·obtain⟨a1,a2⟩:=hbd h h2 hk.2 h4;rw[a1,a2];exact .oA [] []
   ·obtain⟨a1,a2⟩:=hgd h h2 hk.2 h4;rw[a1,a2];have hvk2:(List.range (tabN s t)).length=tabN s t:=by simp
    refine .of [] [2] rfl (by first | rfl | (rw[hst];rfl)) ?_ ?_
    all_goals (try simp only[tL,simprocAttr,By,List.map_cons,List.map_nil,BW,Cy,hvk,hvk2])
    all_goals (try (exact clA))
end Go.Proofs
