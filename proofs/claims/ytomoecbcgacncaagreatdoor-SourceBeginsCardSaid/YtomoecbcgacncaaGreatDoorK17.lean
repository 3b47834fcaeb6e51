/- A part of the proof: trees of Go values, short forms, contracts. -/
import Derived.Test.YtomoecbcgacncaaGreatDoorK16
namespace Go.Proofs
open Go Go.TL
def AscR (l:List (List Int)):Prop:=l.Pairwise fun a b=>hd a<hd b
theorem qD1 {row:List Int}:∀ (l acc:List (List Int)),(∀ r∈l,hd row<hd r)→l.foldl (putS row) (acc,true)=(acc++l,true)
 | [],acc,_=>by simp
 | r::l,acc,h=>by
   have h1:=h r sMp;have e:putS row (acc,true) r=(acc++[r],true):=by
    unfold putS;rw[Aq oM,Aq sMp]
   rw[Dw,e,qD1 l _ fun x hx=>h x (CQ _ hx)];simp
theorem Wy {row:List Int}:∀ (l acc:List (List Int)),AscR l→l.foldl (putS row) (acc,false) =
 if (l.any fun r=>decide (hd row<hd r))=true then (acc++l.filter (fun r=>decide (hd r<hd row))++row::l.filter (fun r=>decide (hd row<hd r)),true)
 else (acc++l.filter (fun r=>decide (hd r<hd row)),false)
 | [],acc,_=>by simp
 | r::l,acc,h=>by
   obtain⟨h1,h2⟩:=List.pairwise_cons.1 h;rw[Dw];by_cases e1:hd r=hd row
   ·have e:putS row (acc,false) r=(acc,false):=by unfold putS;rw[Aj e1]
    have d1:decide (hd row<hd r)=false:=by simp;omega
    have d2:decide (hd r<hd row)=false:=by simp;omega
    rw[e,Wy l acc h2,List.any_cons,List.filter_cons,List.filter_cons,d1,d2];simp
   ·by_cases e2:hd r>hd row
    ·have e:putS row (acc,false) r=(acc++[row]++[r],true):=by unfold putS;rw[Aq e1,Aj ⟨e2,rfl⟩]
     have hall:∀ x∈l,hd row<hd x:=fun x hx=>by have:=h1 x hx;omega
     have d1:decide (hd row<hd r)=true:=by simp;omega
     have d2:decide (hd r<hd row)=false:=by simp;omega
     have f1:l.filter (fun r=>decide (hd row<hd r))=l:=List.filter_eq_self.2 fun x hx=>by simpa using hall x hx
     have f2:l.filter (fun r=>decide (hd r<hd row))=[]:=List.filter_eq_nil_iff.2 fun x hx=>by have:=hall x hx;simp;omega
     rw[e,qD1 l _ hall,List.any_cons,List.filter_cons,List.filter_cons,d1,d2,f1,f2];simp
    ·have e:putS row (acc,false) r=(acc++[r],false):=by
      unfold putS;rw[Aq e1,Aq (fun k=>e2 k.1)]
     have d1:decide (hd row<hd r)=false:=by simp;omega
     have d2:decide (hd r<hd row)=true:=by simp;omega
     rw[e,Wy l _ h2,List.any_cons,List.filter_cons,List.filter_cons,d1,d2];simp
theorem qI5 {l:List (List Int)} {row:List Int} (h:AscR l):putR l row=l.filter (fun r=>decide (hd r<hd row))++row::l.filter (fun r=>decide (hd row<hd r)):=by
 unfold putR;rw[Wy l [] h];by_cases e:(l.any fun r=>decide (hd row<hd r))=true
 ·rw[Aj e];simp
 ·rw[Aq e];have f1:l.filter (fun r=>decide (hd row<hd r))=[]:=List.filter_eq_nil_iff.2 fun x hx=>by
   intro k;exact e (DQ.2 ⟨x,hx,k⟩)
  rw[f1];simp
theorem Yv {l:List (List Int)} {row:List Int} (h:AscR l):AscR (putR l row):=by
 rw[qI5 h];unfold AscR;rw[List.pairwise_append];refine⟨h.filter _,List.pairwise_cons.2 ⟨fun x hx=>?_,h.filter _⟩,fun a ha b hb=>?_⟩
 ·have:=(Fz.1 hx).2;simpa using this
 ·have h1:=(Fz.1 ha).2;rcases Ck.1 hb with rfl | hb
  ·simpa using h1
  ·have h2:=(Fz.1 hb).2;simp only[AZ] at h1 h2;omega
theorem Yw {l:List (List Int)} {row r:List Int} (h:AscR l):r∈putR l row↔r=row∨(r∈l∧hd r≠hd row):=by
 rw[qI5 h,Dz,Ck,Fz,Fz];simp only[AZ];constructor
 ·rintro (⟨a,b⟩ | a | ⟨a,b⟩)
  ·exact .inr ⟨a,oM⟩
  ·exact .inl a
  ·exact .inr ⟨a,oM⟩
 ·rintro (a | ⟨a,b⟩)
  ·exact .inr (.inl a)
  ·by_cases c:hd r<hd row
   ·exact .inl ⟨a,c⟩
   ·exact .inr (.inr ⟨a,oM⟩)
theorem qT8 (l:List (List Int)) (row:List Int):(putR l row).length≤l.length+1:=by
 have key:∀ (l:List (List Int)) (x:List (List Int)×Bool),(l.foldl (putS row) x).1.length+(if (l.foldl (putS row) x).2 then 0 else 1)≤x.1.length+(if x.2 then 0 else 1)+l.length:=by
  intro l
  induction l with
  | nil=>intro x;simp only[List.foldl_nil,Cw,Nat.add_zero];exact BZ _
  | cons r l ih=>
    intro x;have h1:=ih (putS row x r);have h2:(putS row x r).1.length+(if (putS row x r).2 then 0 else 1)≤x.1.length+(if x.2 then 0 else 1)+1:=by
     unfold putS;split
     ·omega
     ·split
      ·rename_i h;rw[h.2];simp
      ·simp;omega
    rw[Dw,CJ];omega
 have:=key l ([],false);unfold putR;simp only[Cw,EZ,if_false] at this;dsimp only;split
 ·rename_i h;rw[h] at this;simp at this;omega
 ·rename_i h;rw[Aq h] at this;rw[AW];simp;omega
theorem zq4 {α:Type} [Inhabited α] {f:α→Int} {l:List α} (h:∀ i,0<i→i<l.length→f (l.getD (i-1) default)<f (l.getD i default)):l.Pairwise fun a b=>f a<f b:=by
 rw[DZ];have key:∀ (d i:Nat) (hj:i+d+1<l.length),f (l[i]'oM)<f l[i+d+1]:=by
  intro d
  induction d with
  | zero=>
    intro i hj;have:=h (i+1) oM oM;rw[qt oM,qt oM] at this;simpa using this
  | succ d ih=>
    intro i hj;have h1:=ih i oM;have h2:=h (i+d+1+1) oM oM;rw[qt oM,qt oM] at h2;simp only[Nat.add_sub_cancel] at h2;have e:i+(d+1)+1=i+d+1+1:=by omega
    simp only[e];omega
 intro i j hi hj hij;have:=key (j-i-1) i oM;have e:i+(j-i-1)+1=j:=by omega
 simp only[e] at this;exact this
theorem zS4 {α:Type} [Inhabited α] {f:α→Int} {l:List α} (h:l.Pairwise fun a b=>f a<f b) {i:Nat} (h0:0<i) (hi:i<l.length):f (l.getD (i-1) default)<f (l.getD i default):=by
 rw[qt oM,qt hi];exact DZ.1 h (i-1) i oM hi oM
structure SrcOk (s:Src):Prop where
 sch:schE s.sch=0
 nr:s.rows.length≤200
 ng:s.gone.length≤300
 ver:0≤s.ver∧s.ver≤300
 rows:∀ r∈s.rows,rowE s.sch r=0
 asc:AscR s.rows
 gone:∀ g∈s.gone,1≤g∧g≤1048575∧Qa s g<0
 gasc:s.gone.Pairwise fun a b=>a<b
theorem kz {s:Sch} {r:List Int} (h:rowE s r=0):0<r.length:=by
 obtain⟨h1,h2,_⟩:=Jg h;have:=(jn h1).nc;omega
theorem KU {s:Src} {id:Int}:Qa s id<0↔∀ r∈s.rows,atR id r=false:=by
 unfold Qa;split
 ·rename_i h;obtain⟨r,h1,h2⟩:=DQ.1 h;constructor
  ·intro h3;omega
  ·intro h3;rw[h3 r h1] at h2;cases h2
 ·rename_i h;constructor
  ·intro _ r hr;cases e:atR id r with
   | false=>rfl
   | true=>exact absurd (DQ.2 ⟨r,hr,e⟩) h
  ·intro _;omega
theorem qe2 {s:Src}:srcB s=true↔SrcOk s:=by
 unfold srcB zq3 zH5 asc2;simp only[Bq,AY,AZ,Bk,Dk,Dy];constructor
 ·rintro ⟨⟨⟨⟨⟨⟨h1,h2⟩,h3⟩,h4⟩,h5⟩,h6⟩,h7⟩;refine⟨h1,h2,h3,⟨h4,h5⟩,fun r hr=>?_,?_,fun g hg=>?_,?_⟩
  ·obtain⟨i,hi,rfl⟩:=CX hr;have:=(h6 i hi).1;rw[qt hi] at this;exact this
  ·exact zq4 (f:=hd) fun i h0 hi=>((h6 i hi).2.resolve_left oM)
  ·obtain⟨i,hi,rfl⟩:=CX hg;obtain⟨⟨⟨a,b⟩,c⟩,d⟩:=h7 i hi;rw[qt hi] at a b d;exact⟨a,b,d⟩
  ·exact zq4 (f:=fun x:Int=>x) fun i h0 hi=>((h7 i hi).1.2.resolve_left oM)
 ·intro h;refine⟨⟨⟨⟨⟨⟨h.sch,h.nr⟩,h.ng⟩,h.ver.1⟩,h.ver.2⟩,fun i hi=>⟨?_,?_⟩⟩,fun i hi=>⟨⟨⟨?_,?_⟩,?_⟩,?_⟩⟩
  ·rw[qt hi];exact h.rows _ (AX hi)
  ·by_cases e:i=0
   ·exact .inl e
   ·exact .inr (zS4 (f:=hd) h.asc oM hi)
  ·rw[qt hi];exact (h.gone _ (AX hi)).1
  ·rw[qt hi];exact (h.gone _ (AX hi)).2.1
  ·by_cases e:i=0
   ·exact .inl e
   ·exact .inr (zS4 (f:=fun x:Int=>x) h.gasc oM hi)
  ·rw[qt hi];exact (h.gone _ (AX hi)).2.2
theorem qT9 {s:Sch} {r:List Int} (h:rowE s r=0) (id:Int):atR id r=(hd r==id):=by
 unfold atR;rw[Cx (kz h),Fq]
theorem zz7 {l:List Int} {n x:Int}:x∈putI l n↔x=n∨x∈l:=So.insU_mem So.eqI2_iff
theorem zS5 {l:List Int}:(l.Pairwise fun a b=>a<b)↔l.Pairwise fun a b=>So.ltI a b=true:=by
 constructor
 ·exact fun h=>h.imp fun k=>Cx k
 ·exact fun h=>h.imp fun k=>of_decide_eq_true k
theorem zz8 {l:List Int} {n:Int} (h:l.Pairwise fun a b=>a<b):(putI l n).Pairwise fun a b=>a<b:=zS5.2 (So.insU_srt So.ltI_ord So.ltI_tot So.ltI_trans So.eqI2_iff (zS5.1 h))
theorem zz9 {s:Sch} {r:List Int} (h:rowE s r=0):1≤hd r∧hd r≤1048575:=by
 obtain⟨h1,h2,h3⟩:=Jg h;have h4:=h3 0 (kz h);unfold jX at h4;rw[Aj (jn h1).c0] at h4;simp only[inB,Bq,AZ] at h4;exact h4
set_option maxHeartbeats 4000000
open So
theorem zJ {r:List Int} (h:0<r.length):(r.map vI).getD 0 .junk=vI (hd r):=by rw[qd h,hd,qt h]
theorem zA0 (row:List Int):∀ (l:List (List Int)) (x:List (List Int)×Bool),(l.foldl (putS row) x).1.length≤x.1.length+l.length+1
 | l,x=>by
   have key:∀ (l:List (List Int)) (x:List (List Int)×Bool),(l.foldl (putS row) x).1.length+(if (l.foldl (putS row) x).2 then 0 else 1)≤x.1.length+(if x.2 then 0 else 1)+l.length:=by
    intro l
    induction l with
    | nil=>intro x;simp only[List.foldl_nil,Cw,Nat.add_zero];exact BZ _
    | cons r l ih=>
      intro x;have h1:=ih (putS row x r);have h2:(putS row x r).1.length+(if (putS row x r).2 then 0 else 1)≤x.1.length+(if x.2 then 0 else 1)+1:=by
       unfold putS;split
       ·omega
       ·split
        ·rename_i h;rw[h.2];simp
        ·simp;omega
      rw[Dw,CJ];omega
   have:=key l x;split at this <;> split at this <;> omega
theorem qe3 (l:List (List Int)) (row:List Int) (hl:l.length<1000000000) (hr:∀ r∈l,0<r.length) (h0:0<row.length):Sp 20 [vRw l,vIs row] [] (vRw (putR l row)) []:=by
 have hP:putR l row=if (l.foldl (putS row) ([],false)).2 then (l.foldl (putS row) ([],false)).1 else (l.foldl (putS row) ([],false)).1++[row]:=rfl
 have hS:=fun i=>zA0 row (l.take i) ([],false);have hg0:=zJ h0;refine sIr qB8 fun e _ hst=>?_;unfold ZQ;refine sW ?_;refine qy mixm (α:=Nat×List (List Int)×Bool) [5,6,7] (fun x=>x.1≤l.length∧x.2=(l.take x.1).foldl (putS row) ([],false)) (fun x=>[(5,.asl 1 x.2.1.length),(6,vB x.2.2),(7,vI x.1)]) (fun x=>[aR 1 1 (x.2.1.map vIs)]) (fun x=>l.length-x.1) (0,[],false) ⟨sMp,sMp⟩ ?_ fun x hx=>?_
 ·exact .oA [(1,none)] []
 obtain⟨i,a,b⟩:=x;obtain⟨x1,x2⟩:=hx;dsimp only at x1 x2;have hSi:=hS i;rw[← x2] at hSi;simp only[Cw,Cz] at hSi;refine sD ?_;refine⟨fun h=>?_,fun h=>?_⟩
 ·have hi2:i<l.length:=by omega
  have hwi:=qg (i:=i) oM;have hs:(l.take (i+1)).foldl (putS row) ([],false)=putS row (a,b) l[i]:=by rw[jd hi2,Gx,← x2];rfl
  have hrp:=hr _ (AX hi2);have hgi:=zJ hrp;have hr2:putS row (a,b) l[i]=if hd l[i]=hd row then (a,b) else if hd l[i]>hd row∧b=false then (a++[row]++[l[i]],true) else (a++[l[i]],b):=rfl
  rw[hr2] at hs;simp only[tZ,↓uU,simprocAttr,Ax,qd hi2,hgi,hg0,tD,AY,Ak,Bx,Bz,hwi];refine⟨oM,oM,oM,kR,fun h2=>?_,fun h2=>⟨oM,oM,oM,kR,fun h3=>?_,fun h3=>?_⟩⟩
  ·rw[Aj h2] at hs;refine⟨(i+1,a,b),⟨by dsimp only;omega,hs.symm⟩,by dsimp only;omega,?_⟩;exact .oA (U1 1) []
  ·rw[Aq h2,Aj h3] at hs;refine⟨oM,oM,oM,(i+1,a++[row]++[l[i]],true),⟨by dsimp only;omega,hs.symm⟩,by dsimp only;omega,?_⟩;exact .oA (U1 1) []
  ·rw[Aq h2,Aq (by grind)] at hs;refine⟨oM,oM,(i+1,a++[l[i]],b),⟨by dsimp only;omega,hs.symm⟩,by dsimp only;omega,?_⟩;exact .oA (U1 1) []
 ·have hil:i=l.length:=by omega
  subst hil;rw[Bw] at x2;rw[← x2] at hP;dsimp only at hP;simp only[tZ,↓uU,simprocAttr,Bx,Bz];refine⟨fun h2=>?_,fun h2=>?_⟩
  ·rw[hP,h2,Aq sMp];refine⟨oM,?_⟩;show yU [] _ _ (.sl 1 ((a++[row]).map vIs)) [];rw[By];exact .oA [] [1]
  ·rw[hP,Aj h2];exact .oA [] [1]
theorem Qg (s:Src) (id:Int) (hl:s.rows.length<4611686018427387904):Sp 16 [srcT s,vI id] [] (vI (Qa s id)) []:=by
 refine sIr qp6 fun e _ hst=>?_;unfold QW;refine sW ?_;refine qy mixm (α:=Nat) [5] (fun i=>i≤s.rows.length∧(s.rows.take i).any (atR id)=false) (fun i=>[(5,vI i)]) (fun i=>[aR 4096 5 [srcT s]]) (fun i=>s.rows.length-i) 0 ⟨oM,rfl⟩ ?_ fun i hi=>?_
 ·exact .oA (U1 4096) []
 refine sD ?_;refine⟨fun h=>?_,fun h=>?_⟩
 ·have hi2:i<s.rows.length:=by omega
  have hwi:=qg (i:=i) oM;have hno:atR id s.rows[i]=false→∃ y,(y≤s.rows.length∧(s.rows.take y).any (atR id)=false)∧s.rows.length-y<s.rows.length-i∧Le e ⟨[(1,vI id),(2,.ptr 4096 1 0 0),(5,vI ((i+1:Nat):Int))],[aR 4096 5 [srcT s]]⟩ ⟨[(5,vI y),(1,vI id),(2,.ptr 4096 1 0 0)],[aR 4096 5 [srcT s]]⟩:=fun h3=>by
   refine⟨i+1,⟨oM,jz hi2 hi.2 h3⟩,oM,?_⟩;exact .oA (U1 4096) []
  have hat:atR id s.rows[i]=(decide (0<s.rows[i].length)&&(hd s.rows[i]==id)):=rfl;rcases DX s.rows[i].length with h0 | h0
  ·have e0:decide ((s.rows[i].length:Int)>0)=false:=Cq oM;have hgj:(s.rows[i].map vI).getD 0 .junk = .junk:=qr7 oM;simp only[tZ,↓uU,simprocAttr,Ax,qd hi2,e0,hgj,hwi];exact⟨oM,hno (by rw[hat,Cq oM];rfl)⟩
  ·have e0:decide ((s.rows[i].length:Int)>0)=true:=Cx oM;rw[Cx h0,Fq] at hat;simp only[tZ,↓uU,simprocAttr,Ax,qd hi2,e0,zJ h0,hwi];refine⟨oM,oM,oM,fun h3=>?_,fun h3=>hno (by rw[hat];exact h3)⟩;rw[Qa,Aj (WO hi2 (by rw[hat];exact h3)),kC hi2 hi.2 (by rw[hat];exact h3)];exact .oA [] []
 ·have hil:i=s.rows.length:=by omega
  subst hil;have h2:=hi.2;rw[Bw] at h2;rw[Qa,Aq (by rw[h2];simp)];exact .oA [] []
def zq5 (s:Src):Prop:=qC5 s.sch∧∀ r∈s.rows,r.length<4611686018427387904
def rowP (s:Src) (i:Nat):Bool:=(rowE s.sch (s.rows.getD i [])==0)&&(decide (i=0)||decide (hd (s.rows.getD (i-1) [])<hd (s.rows.getD i [])))
def qD2 (s:Src) (i:Nat):Bool:=decide (1≤s.gone.getD i 0)&&decide (s.gone.getD i 0≤1048575)&&asc2 s.gone i&&decide (Qa s (s.gone.getD i 0)<0)
theorem qr8 (s:Src) (hs:zq5 s):Sp 14 [srcT s] [] (vB (srcB s)) []:=by
 obtain⟨hs1,hs2⟩:=hs;have hB:srcB s=((schE s.sch==0)&&decide (s.rows.length≤200)&&decide (s.gone.length≤300)&&decide (0≤s.ver)&&decide (s.ver≤300)&&(List.range s.rows.length).all (rowP s)&&(List.range s.gone.length).all (qD2 s)):=rfl;refine sIr qf8 fun e _ hst=>?_;unfold Qk;refine sW ?_;refine C1.im (Zl s.sch hs1) rF rF ?_;simp only[tZ,↓uU,simprocAttr,tD,Bj,Aw];refine⟨fun h=>?_,fun h=>?_⟩
 ·rw[show srcB s=false by rw[hB];grind];exact .oA [] []
 have hB2:srcB s=((List.range s.rows.length).all (rowP s)&&(List.range s.gone.length).all (qD2 s)):=by rw[hB];grind
 clear hB;refine qy mixm (α:=Nat) [3,30] (fun i=>i≤s.rows.length∧(List.range i).all (rowP s)=true) (fun i=>[(3,vI i)]) (fun i=>[aR 4096 5 [srcT s]]) (fun i=>s.rows.length-i) 0 ⟨oM,rfl⟩ ?_ fun i hi=>?_
 ·exact .oA (U1 4096) []
 obtain⟨i1,i2⟩:=hi;refine sD ?_;refine⟨fun h2=>?_,fun h2=>?_⟩
 ·have hi2:i<s.rows.length:=by omega
  have hwi:=qg (i:=i) oM;have hpi:s.rows.getD i []=s.rows[i]:=qt hi2;have hbad:rowP s i=false→srcB s=false:=fun k=>by rw[hB2,zH0 hi2 k];rfl
  have hgd:rowP s i=true→(List.range (i+1)).all (rowP s)=true:=fun k=>by rw[qT7,i2,k];rfl
  have hP:rowP s i=((rowE s.sch s.rows[i]==0)&&(decide (i=0)||decide (hd (s.rows.getD (i-1) [])<hd s.rows[i]))):=by rw[rowP,hpi]
  simp only[tZ,↓uU,simprocAttr,Ax,qd hi2];refine⟨oM,?_⟩;refine C1.im (qd9 s.sch hs1 s.rows[i] (hs2 _ (AX hi2))) rF rF ?_;by_cases hR:rowE s.sch s.rows[i]=0
  case neg=>
   have e0:(rowE s.sch s.rows[i] != 0)=true:=Bj.2 hR;rw[hbad (by rw[hP,Ak.2 hR];rfl)];rcases DX i with hi0 | hi0
   ·subst hi0;have hz:((0:Nat):Int)=0:=rfl;have hz2:(IntKind.i64.wrap (-1)).toNat=0:=by decide
    rcases DX s.rows[0].length with h0 | h0
    ·have hgj:(s.rows[0].map vI).getD 0 .junk = .junk:=qr7 oM;simp only[tZ,↓uU,simprocAttr,e0,Ax,hz,beq_self_eq_true,gt_iff_lt,Int.lt_irrefl,Fq,hz2,qd hi2,hgj];refine⟨kR,?_⟩;exact .oA [] []
    ·simp only[tZ,↓uU,simprocAttr,e0,Ax,hz,beq_self_eq_true,gt_iff_lt,Int.lt_irrefl,Fq,hz2,qd hi2,zJ h0];refine⟨kR,?_⟩;exact .oA [] []
   ·obtain⟨k,rfl⟩:∃ k,i=k+1:=⟨i-1,oM⟩;have hk3:k<s.rows.length:=by omega
    have e2:decide (((k+1:Nat):Int)>0)=true:=Cx oM;have e3:=jM (i:=k+1) oM oM;rw[Nat.add_sub_cancel] at e3;have hkp:0<s.rows[k].length:=by
     have:=Bk.1 i2 k (Dk.2 oM);rw[rowP,qt hk3,Bq,AY] at this;exact kz this.1
    rcases DX s.rows[k+1].length with h0 | h0
    ·have hgj:(s.rows[k+1].map vI).getD 0 .junk = .junk:=qr7 oM;simp only[tZ,↓uU,simprocAttr,e0,Ax,qd hi2,qd hk3,e2,e3,hgj,zJ hkp];refine⟨kR,?_⟩;exact .oA [] []
    ·simp only[tZ,↓uU,simprocAttr,e0,Ax,qd hi2,qd hk3,e2,e3,zJ h0,zJ hkp];refine⟨kR,?_⟩;exact .oA [] []
  have e0:(rowE s.sch s.rows[i] != 0)=false:=Aw.2 hR;rw[AY.2 hR,Fq] at hP;have hrp:=kz hR;rcases DX i with hi0 | hi0
  ·subst hi0;have hz:((0:Nat):Int)=0:=rfl;have hz2:(IntKind.i64.wrap (-1)).toNat=0:=by decide
   have hz3:=qg (i:=0) oM;rw[hz] at hz3;simp only[tZ,↓uU,simprocAttr,e0,Ax,hz,beq_self_eq_true,gt_iff_lt,Int.lt_irrefl,Fq,hz2,qd hi2,hz3,zJ hrp];refine⟨kR,1,⟨oM,hgd (by rw[hP];rfl)⟩,oM,?_⟩;exact .oA (U1 4096) []
  ·obtain⟨k,rfl⟩:∃ k,i=k+1:=⟨i-1,oM⟩;have hk3:k<s.rows.length:=by omega
   have e2:decide (((k+1:Nat):Int)>0)=true:=Cx oM;have e3:=jM (i:=k+1) oM oM;rw[Nat.add_sub_cancel] at e3 hP;rw[qt hk3,Cq oM,Bool.false_or] at hP;have hkp:0<s.rows[k].length:=by
    have:=Bk.1 i2 k (Dk.2 oM);rw[rowP,qt hk3,Bq,AY] at this;exact kz this.1
   simp only[tZ,↓uU,simprocAttr,e0,Ax,qd hi2,qd hk3,e2,e3,hwi,zJ hrp,zJ hkp,tD];refine⟨oM,oM,oM,oM,kR,fun h4=>?_,fun h4=>?_⟩
   ·rw[hbad (by rw[hP];exact Cq oM)];exact .oA [] []
   ·refine⟨k+2,⟨oM,hgd (by rw[hP];exact Cx oM)⟩,oM,?_⟩;exact .oA (U1 4096) []
 ·have hil:i=s.rows.length:=by omega
  subst hil;rw[i2,Fq] at hB2;have hrl:s.rows.length<4611686018427387904:=by omega
  refine qy mixm (α:=Nat) [4] (fun i=>i≤s.gone.length∧(List.range i).all (qD2 s)=true) (fun i=>[(4,vI i)]) (fun i=>[aR 4096 5 [srcT s]]) (fun i=>s.gone.length-i) 0 ⟨oM,rfl⟩ ?_ fun i hi=>?_
  ·exact .oA (U1 4096) []
  obtain⟨j1,j2⟩:=hi;refine sD ?_;refine⟨fun h2=>?_,fun h2=>?_⟩
  ·have hi2:i<s.gone.length:=by omega
   have hwi:=qg (i:=i) oM;have hpi:s.gone.getD i 0=s.gone[i]:=qt hi2;have hbad:qD2 s i=false→srcB s=false:=fun k=>by rw[hB2,zH0 hi2 k]
   have hgd:qD2 s i=true→(List.range (i+1)).all (qD2 s)=true:=fun k=>by rw[qT7,j2,k];rfl
   have hP:qD2 s i=(decide (1≤s.gone[i])&&decide (s.gone[i]≤1048575)&&asc2 s.gone i&&decide (Qa s s.gone[i]<0)):=by rw[qD2,hpi]
   have hF:=Qg s s.gone[i] hrl;rcases DX i with hi0 | hi0
   ·subst hi0;have hz:((0:Nat):Int)=0:=rfl;have hz2:(IntKind.i64.wrap (-1)).toNat=0:=by decide
    have hz3:=qg (i:=0) oM;rw[hz] at hz3;have hA:asc2 s.gone 0=true:=rfl;rw[hA,Bool.and_true] at hP;simp only[tZ,↓uU,simprocAttr,Ax,hz,beq_self_eq_true,gt_iff_lt,Int.lt_irrefl,Fq,hz2,qd hi2,hz3,Bool.or_false];refine⟨oM,fun _=>by omega,fun _=>by omega,?_⟩;refine C2.im (fun _=>hF) (fun _=>rfl) rF ?_;simp only[tZ,↓uU,simprocAttr,tD,hz3];refine⟨kR,fun h4=>?_,fun h4=>?_⟩
    ·rw[hbad (by rw[hP];grind)];exact .oA [] []
    ·refine⟨1,⟨oM,hgd (by rw[hP];grind)⟩,oM,?_⟩;exact .oA (U1 4096) []
   ·obtain⟨k,rfl⟩:∃ k,i=k+1:=⟨i-1,oM⟩;have hk3:k<s.gone.length:=by omega
    have e2:decide (((k+1:Nat):Int)>0)=true:=Cx oM;have e3:=jM (i:=k+1) oM oM;rw[Nat.add_sub_cancel] at e3;have hA:asc2 s.gone (k+1)=decide (s.gone[k]<s.gone[k+1]):=by
     rw[asc2,Nat.add_sub_cancel,qt hk3,hpi,Cq oM];rfl
    rw[hA] at hP;simp only[tZ,↓uU,simprocAttr,Ax,qd hi2,qd hk3,e2,e3];refine⟨oM,fun _=>by omega,fun _=>by omega,fun _=>by omega,fun _=>by omega,?_⟩;refine C2.im (fun _=>hF) (fun _=>rfl) rF ?_;simp only[tZ,↓uU,simprocAttr,tD,hwi];refine⟨kR,fun h4=>?_,fun h4=>?_⟩
    ·rw[hbad (by rw[hP];grind)];exact .oA [] []
    ·refine⟨k+2,⟨oM,hgd (by rw[hP];grind)⟩,oM,?_⟩;exact .oA (U1 4096) []
  ·have hil:i=s.gone.length:=by omega
   subst hil;rw[hB2,j2];exact .oA [] []
def ordB (l:List (List Int)):Bool:=(List.range l.length).all fun i=>decide (0<(l.getD i []).length)&&(decide (i=0)||decide (hd (l.getD (i-1) [])<hd (l.getD i [])))
def hasK (l:List (List Int)) (k:Int):Bool:=l.any fun r=>hd r==k
def rowK (l:List (List Int)) (k:Int):Option (List Int):=l.find? fun r=>hd r==k
def appR (a:List (List Int)) (g:List Int) (rs:List (List Int)):List (List Int):=rs.foldl putR (a.filter fun r=>!g.contains (hd r))
theorem KV {a b:List (List Int)} (ha:AscR a) (hb:AscR b) (h:∀ r,r∈a↔r∈b):a=b:=by
 refine So.srt_uniq (lt:=fun x y=>decide (hd x<hd y)) ⟨fun x y h=>?_,fun x y z h1 h2=>?_⟩ (ha.imp fun h=>Cx h) (hb.imp fun h=>Cx h) h
 ·simp only[AZ] at h;exact Cq oM
 ·simp only[Ay] at h1 h2 ⊢
  omega
theorem zM2 {l:List (List Int)} (h:AscR l) {r s:List Int} (hr:r∈l) (hs:s∈l) (e:hd r=hd s):r=s:=by
 obtain⟨i,hi,rfl⟩:=CX hr;obtain⟨j,hj,rfl⟩:=CX hs;have hp:=DZ.1 h;by_cases h1:i<j
 ·have:=hp i j hi hj h1;omega
 ·by_cases h2:j<i
  ·have:=hp j i hj hi h2;omega
  ·have:i=j:=by omega
   subst this;rfl
theorem zq6 {l:List (List Int)} (h:AscR l) {r:List Int}:rowK l (hd r)=some r↔r∈l:=by
 constructor
 ·intro e;exact List.mem_of_find?_eq_some e
 ·intro hr;unfold rowK;cases e:l.find? (fun s=>hd s==hd r) with
  | none=>
    have:=List.find?_eq_none.1 e r hr;simp at this
  | some s=>
    have h1:=List.mem_of_find?_eq_some e;have h2:=List.find?_some e;rw[zM2 h h1 hr (by simpa using h2)]
def ascI (l:List Int):Bool:=(List.range l.length).all fun i=>asc2 l i
def appE (a:Ext) (c:Chg):Int:=
 if ordB a.rows=false∨ordB c.rows=false∨ascI c.gone=false∨(c.rows.any fun r=>decide (r.length≠a.picks.length+1))=true then 11
 else if (c.gone.any fun k=>!hasK a.rows k)=true then 21 else if (c.gone.any fun k=>hasK c.rows k)=true then 10 else 0
structure ExtOk (x:Ext):Prop where
 ord:ordB x.rows=true
 len:∀ r∈x.rows,r.length=x.picks.length+1
set_option maxRecDepth 4000
set_option maxHeartbeats 8000000
def RwSm (l:List (List Int)):Prop:=l.length≤1000000∧∀ r∈l,r.length*8≤140737488355328
structure ExtSm (x:Ext):Prop where
 rows:RwSm x.rows
 picks:x.picks.length*16≤140737488355328
structure ChgSm (c:Chg):Prop where
 rows:RwSm c.rows
 gone:c.gone.length≤1000000
theorem kW (l:List Int) (hl:l.length*8≤140737488355328):Sp 36 [vIs l] [] (vIs l) []:=by
 refine sIr yF fun e _ hst=>?_;unfold jk;refine sW ?_;refine⟨fun h=>?_,?_⟩
 ·have:l=[]:=by
   simpa using h
  subst this;exact .oA [] []
 ·refine⟨oM,?_⟩;exact .oA [] [16384]
theorem Zn (p:(List Int)→Bool) (f:FuncId) (caps:List T) (hcap:imL caps=true) (l:List (List Int)) (hf:∀ y∈l,Sp f (vIs y::caps) [] (vB (p y)) []) (hl:l.length<4611686018427387904) :
 Sp 34 [.sl 1 (l.map vIs),.clo f caps] [] (vI (idxI p l)) []:=by
 refine sIr QE fun e _ hst=>?_;unfold jf;refine sW ?_;refine qy mixm (α:=Nat) [8] (fun i=>i≤l.length∧((l.take i).any p=false)) (fun i=>[(8,vI i)]) (fun i=>[]) (fun i=>l.length-i) 0 ⟨oM,?_⟩ ?_ fun i hi=>?_
 ·simp
 ·exact .oA [] []
 simp only[tZ,↓uU,simprocAttr,AZ,Ay];refine⟨fun h=>?_,fun h=>?_⟩
 ·have hi2:i<l.length:=by omega
  have hwi:=qg (i:=i) oM;simp only[tZ,↓uU,simprocAttr,Ax,qd hi2,hwi,Wk];refine⟨oM,?_⟩;refine C1.im (hf l[i] (AX hi2)) (KE rfl hcap) rfl ?_;refine sW ?_;refine⟨fun h3=>?_,fun h3=>⟨i+1,⟨oM,jz hi2 hi.2 h3⟩,oM,?_⟩⟩
  ·rw[idxI,Aj (WO hi2 h3),kC hi2 hi.2 h3];exact .imR rfl rfl
  ·exact .oA [] []
 ·have h2:i=l.length:=by omega
  have h3:=hi.2;rw[h2,Bw] at h3;rw[idxI,Aq (by rw[h3];simp)];exact .imR rfl rfl
def idxN (n:Int):List Int→Nat
 | []=>0
 | x::r=>if x=n then 0 else idxN n r+1
theorem zq7 {n:Int}:∀ {l:List Int} {i:Nat} (h:i<l.length),n∉l.take i→l[i]=n→idxN n l=i
 | [],i,h,_,_=>by simp at h
 | x::r,0,h,_,hp=>by simp at hp;simp [idxN,hp]
 | x::r,i+1,h,h1,hp=>by
   simp only[List.take_succ_cons,Ck,not_or] at h1;simp only[idxN];rw[Aq (fun e=>h1.1 e.symm),zq7 (l:=r) (i:=i) (by simpa using h) h1.2 (by simpa using hp)]
def qU0 (l:List Int) (n:Int):Int:=if n∈l then idxN n l else -1
theorem KW (l:List Int) (n:Int) (hl:l.length<4611686018427387904):Sp 105 [vIs l,vI n] [] (vI (qU0 l n)) []:=by
 refine sIr Ki fun e _ hst=>?_;unfold ky;refine sW ?_;refine qy mixm (α:=Nat) [8] (fun i=>i≤l.length∧(n∉l.take i)) (fun i=>[(8,vI i)]) (fun i=>[]) (fun i=>l.length-i) 0 ⟨oM,?_⟩ ?_ fun i hi=>?_
 ·simp
 ·exact .oA [] []
 simp only[tZ,↓uU,simprocAttr,AZ,Ay];refine⟨fun h=>?_,fun h=>?_⟩
 ·have hi2:i<l.length:=by omega
  have hwi:=qg (i:=i) oM;simp only[tZ,↓uU,simprocAttr,Ax,qd hi2,hwi,AY,Ak];refine⟨oM,fun h3=>?_,fun h3=>⟨i+1,⟨oM,?_⟩,oM,?_⟩⟩
  ·have hm:n∈l:=by rw[h3];exact AX hi2
   rw[qU0,Aj hm,zq7 hi2 hi.2 h3.symm];exact .imR rfl rfl
  ·rw[jd hi2,Dz];rintro (h4 | h4)
   ·exact hi.2 h4
   ·simp at h4;exact h3 h4
  ·exact .oA [] []
 ·have h2:i=l.length:=by omega
  have h3:=hi.2;rw[h2,Bw] at h3;rw[qU0,Aq h3];exact .imR rfl rfl
theorem Jh (l:List Int) (n:Int) (hl:l.length<4611686018427387904):Sp 92 [vIs l,vI n] [] (vB (l.contains n)) []:=by
 refine sIr Zw fun e _ hst=>?_;unfold jv;refine sW ?_;refine C1.im (KW l n hl) rfl rF ?_;refine sW ?_;refine .imR ?_ rfl;unfold qU0;by_cases h:n∈l
 ·rw[Aj h,FQ.2 h];simp
 ·rw[Aq h];cases hc:l.contains n
  ·simp
  ·exact absurd (FQ.1 hc) h
def cmpK (k:Int) (r:List Int):Int:=if hd r<k then -1 else if hd r>k then 1 else 0
def fndN (l:List (List Int)) (k:Int):Nat:=l.findIdx fun y=>decide (cmpK k y≥0)
theorem zq8 (l:List (List Int)) (k:Int):fndN l k≤l.length:=List.findIdx_le_length
theorem Ji {l:List (List Int)} {k:Int} (ha:AscR l) (h:hasK l k=true):∃ hj:fndN l k<l.length,rowK l k=some l[fndN l k]:=by
 obtain⟨x,hx,e⟩:=DQ.1 h;have e:hd x=k:=by simpa using e
 have h1:fndN l k<l.length:=List.findIdx_lt_length_of_exists ⟨x,hx,by unfold cmpK;grind⟩;refine⟨h1,?_⟩;have h2:=List.findIdx_getElem (p:=fun y=>decide (cmpK k y≥0)) (xs:=l) (w:=h1);have h3:¬ hd l[fndN l k]<k:=by
  have:cmpK k l[fndN l k]≥0:=of_decide_eq_true h2;unfold cmpK at this
  grind
 obtain⟨i,hi,rfl⟩:=CX hx;have hp:=DZ.1 ha;have h4:fndN l k=i:=by
  by_cases c1:fndN l k<i
  ·have:=hp _ i h1 hi c1;omega
  ·by_cases c2:i<fndN l k
   ·have:=List.not_of_lt_findIdx c2;simp [cmpK] at this
    grind
   ·omega
 have h5:l[fndN l k]=l[i]:=by simp only[h4]
 rw[h5];have h6:=(zq6 ha).2 (AX hi);rw[e] at h6;exact h6
def bsN (p:List Int→Bool) (l:List (List Int)):Nat→Nat→Nat→Nat
 | 0,i,_=>i
 | f+1,i,j=>if i<j then (if p (l.getD ((i+j) / 2) [])=true then bsN p l f ((i+j) / 2+1) j else bsN p l f i ((i+j) / 2)) else i
theorem KX {p:List Int→Bool} {l:List (List Int)}:∀ (f g i j:Nat),j-i<f→j-i<g→bsN p l f i j=bsN p l g i j
 | 0,_,_,_,h,_=>by omega
 | _+1,0,_,_,_,h=>by omega
 | f+1,g+1,i,j,h1,h2=>by
   simp only[bsN];split
   ·split
    ·exact KX f g _ _ oM oM
    ·exact KX f g _ _ oM oM
   ·rfl
theorem zq9 {p:List Int→Bool} {l:List (List Int)}:∀ (f i j:Nat),i≤j→i≤bsN p l f i j∧bsN p l f i j≤j
 | 0,i,j,h=>⟨BZ _,h⟩
 | f+1,i,j,h=>by
   simp only[bsN];split
   ·split
    ·have:=zq9 (p:=p) (l:=l) f ((i+j) / 2+1) j oM;omega
    ·have:=zq9 (p:=p) (l:=l) f i ((i+j) / 2) oM;omega
   ·omega
theorem qr9 {p:List Int→Bool} {l:List (List Int)} (hm:∀ (i j:Nat) (hi:i<l.length) (hj:j<l.length),i<j→p l[j]=true→p l[i]=true):∀ (f i j:Nat),j-i<f→i≤j→j≤l.length→
 (∀ (m:Nat) (h:m<l.length),m<i→p l[m]=true)→(∀ (m:Nat) (h:m<l.length),j≤m→p l[m]=false)→bsN p l f i j=l.findIdx fun y=>!p y
 | 0,_,_,h,_,_,_,_=>by omega
 | f+1,i,j,h,h1,h2,h3,h4=>by
   simp only[bsN];split
   ·rename_i hij;have hh:(i+j) / 2<l.length:=by omega
    rw[show l.getD ((i+j) / 2) []=l[(i+j) / 2] from qt hh];split
    ·rename_i hp;refine qr9 hm f _ _ oM oM h2 (fun m hm1 hm2=>?_) h4;by_cases e:m=(i+j) / 2
     ·subst e;exact hp
     ·exact hm m _ hm1 hh oM hp
    ·rename_i hp;refine qr9 hm f _ _ oM oM oM h3 fun m hm1 hm2=>?_;cases e2:p l[m] with
     | false=>rfl
     | true=>
       by_cases e:m=(i+j) / 2
       ·subst e;exact absurd e2 hp
       ·exact absurd (hm _ m hh hm1 oM e2) hp
   ·have hij:i=j:=by omega
    subst hij;by_cases hil:i<l.length
    ·refine (kC hil ?_ ?_).symm
     ·rw[List.any_eq_false];intro y hy;obtain⟨m,hm1,rfl⟩:=CX hy;rw[Cz] at hm1;rw[Fy,h3 m oM oM];simp
     ·rw[h4 i hil (BZ _)];rfl
    ·have:i=l.length:=by omega
     subst this
     symm
     rw[List.findIdx_eq_length];intro y hy;obtain⟨m,hm1,rfl⟩:=CX hy;rw[h3 m hm1 hm1];rfl
def hitB (c:List Int→Int) (o:Option (List Int)):Bool:=match o with | some y=>c y==0 | none=>false
theorem zA1 (c:List Int→Int) (x:Int) (f:FuncId) (l:List (List Int)) (hf:∀ y∈l,Sp f [vIs y,vI x] [] (vI (c y)) []) (hl:l.length<4611686018427387904) :
 Sp 90 [.sl 1 (l.map vIs),vI x,.clo f []] [] (.tup [vI (bsN (fun y=>decide (c y<0)) l (l.length+1) 0 l.length),vB (hitB c l[bsN (fun y=>decide (c y<0)) l (l.length+1) 0 l.length]?)]) []:=by
 have hB:=zq9 (p:=fun y=>decide (c y<0)) (l:=l) (l.length+1) 0 l.length oM;have hB0:=(rfl:bsN (fun y=>decide (c y<0)) l (l.length+1) 0 l.length=bsN (fun y=>decide (c y<0)) l (l.length+1) 0 l.length);generalize hR:bsN (fun y=>decide (c y<0)) l (l.length+1) 0 l.length=R at hB ⊢
 rw[hR] at hB0;refine sIr ju fun e _ hst=>?_;unfold qW;refine sW ?_;refine qy mixm (α:=Nat×Nat) [9,10] (fun p=>p.1≤p.2∧p.2≤l.length∧bsN (fun y=>decide (c y<0)) l (l.length+1) p.1 p.2=R) (fun p=>[(9,vI p.1),(10,vI p.2)]) (fun p=>[]) (fun p=>p.2-p.1) (0,l.length) ?_ ?_ fun p hp=>?_
 ·exact⟨sMp,sMp,hR⟩
 ·exact .oA [] []
 obtain⟨i,j⟩:=p;obtain⟨h1,h2,h3⟩:=hp;dsimp only at h1 h2 h3;rw[KX (l.length+1) (j-i+1) i j oM oM,bsN] at h3;simp only[tZ,↓uU,simprocAttr,AZ,Ay];refine⟨fun h5=>?_,fun h5=>?_⟩
 ·have hij:i<j:=by omega
  rw[Aj hij] at h3;obtain⟨h,hh,hhi,hhj⟩:∃ h:Nat,h=(i+j) / 2∧i≤h∧h<j:=⟨(i+j) / 2,rfl,oM,oM⟩;rw[← hh] at h3;have hw1:IntKind.i64.wrap ((i:Int)+(j:Int))=((i+j:Nat):Int):=by rw[AK _ oM];omega
  have hw2:IntKind.u64.wrap ((i+j:Nat):Int)=((i+j:Nat):Int):=IntWalk.u64_in _ oM;have hw3:shrI .u64 ((i+j:Nat):Int) 1=(h:Int):=by
   simp only[shrI];rw[show (min (1:Int).toNat IntKind.u64.bits)=1 from rfl,DK _ (by decide)];omega
  have hw4:IntKind.i64.wrap (h:Int)=(h:Int):=AK _ oM;have hlt:h<l.length:=by omega
  have hws:=qg (i:=h) oM;have hcall:=hf l[h] (AX hlt);rw[show l.getD h []=l[h] from qt hlt] at h3;simp only[tZ,↓uU,simprocAttr,hw1,hw2,hw3,hw4,Ax,qd hlt];refine⟨oM,?_⟩;refine C1.im hcall rfl rfl ?_;simp only[tZ,↓uU,simprocAttr,AZ,Ay,hws];refine⟨fun h6=>?_,fun h6=>?_⟩
  ·rw[Aj (Cx h6),KX (j-i) (l.length+1) (h+1) j oM oM] at h3;refine⟨(h+1,j),⟨by simp only;omega,h2,h3⟩,by simp only;omega,?_⟩;exact .oA [] []
  ·rw[Aq (fun k=>h6 (of_decide_eq_true k)),KX (j-i) (l.length+1) i h oM oM] at h3;refine⟨(i,h),⟨by simp only;omega,by simp only;omega,h3⟩,by simp only;omega,?_⟩;exact .oA [] []
 ·have hij:i=j:=by omega
  subst hij;rw[Aq oM] at h3;subst h3;by_cases hil:i<l.length
  ·have hg:decide ((i:Int)<(l.length:Int))=true:=by simp;omega
   have hcall:=hf l[i] (AX hil);rw[CK hil,hitB];simp only[tZ,↓uU,simprocAttr,hg,Ax,qd hil];refine⟨oM,C2.one (by first | trivial | omega) (C1.im hcall rfl rfl ?_)⟩;refine sW ?_;exact .oA [] []
  ·have hg:decide ((i:Int)<(l.length:Int))=false:=by simp;omega
   rw[List.getElem?_eq_none oM,hitB];simp only[tZ,↓uU,simprocAttr,hg];refine⟨fun h=>by omega,fun h=>by omega,C2.no oM ?_⟩;simp only[tZ,↓uU,simprocAttr,hg,Wj,not_false_eq_true];exact .oA [] []
theorem Ym (r:List Int) (k:Int) (hr:0<r.length):Sp 91 [vIs r,vI k] [] (vI (IntKind.i64.wrap (hd r-k))) []:=by
 have hg:=zJ hr;refine sIr Ww fun e _ hst=>?_;unfold wu;simp only[tZ,↓uU,simprocAttr,hg,tD];refine⟨oM,?_⟩;exact .oA [] []
def plcN (l:List (List Int)) (id:Int):Nat:=bsN (fun y=>decide (IntKind.i64.wrap (hd y-id)<0)) l (l.length+1) 0 l.length
theorem zr0 (n:Int):Sp 89 [vI n] [] (vB false) []:=by
 refine sIr Yk fun e _ hst=>?_;unfold wT;simp only[tZ,↓uU,simprocAttr,bne_self_eq_false];exact .oA [] []
theorem qi1 (a b:Int):Sp 55 [vI a,vI b] [] (vB (ltI a b)) []:=by
 refine sIr qc1 fun e _ hst=>?_;unfold yI;refine sW ?_;refine C1.im (zr0 a) rF rF ?_;refine sW ?_;refine C2.no sMp ?_;refine sW ?_;exact .oA [] []
def idOk (n:Int):Prop:=-9223372036854775808≤n∧n<9223372036854775808
structure RwId (l:List (List Int)):Prop where
 asc:AscR l
 pos:∀ r∈l,0<r.length
 ids:∀ r∈l,1≤hd r∧hd r≤1048575
 len:l.length≤1000
theorem qU1 {a k:Int} (ha:1≤a∧a≤1048575) (hk:idOk k):(IntKind.i64.wrap (a-k)=0↔a=k)∧(1≤k→k≤1048575→IntKind.i64.wrap (a-k)=a-k):=by
 unfold idOk at hk;constructor
 ·rw[IntKind.wrap_i64];omega
 ·intro h1 h2;exact AK _ oM
theorem qs0 {l:List (List Int)} {k:Int} (h:RwId l) (hk:1≤k∧k≤1048575):plcN l k=fndN l k:=by
 have hw:∀ r∈l,IntKind.i64.wrap (hd r-k)=hd r-k:=fun r hr=>(qU1 (h.ids r hr) ⟨oM,oM⟩).2 hk.1 hk.2;have hp:=DZ.1 h.asc;unfold plcN;rw[qr9 (fun i j hi hj hij e=>?_) _ 0 l.length oM oM (BZ _) (fun m _ h2=>by omega) (fun m _ h2=>by omega)]
 ·unfold fndN;have e:∀ {a b:List Int→Bool} {m:List (List Int)},(∀ y∈m,a y=b y)→m.findIdx a=m.findIdx b:=by
   intro a b m
   induction m with
   | nil=>intro _;rfl
   | cons x m ih=>
     intro h;rw[List.findIdx_cons,List.findIdx_cons,h x sMp,ih fun y hy=>h y (CQ _ hy)]
  refine e fun y hy=>?_;rw[hw y hy];unfold cmpK;by_cases c:hd y-k<0
  ·rw[Cx c,Aj oM];rfl
  ·rw[Cq c,Aq oM];split <;> rfl
 ·have h1:=hp i j hi hj hij;rw[hw _ (AX hj)] at e;rw[hw _ (AX hi)];have:=of_decide_eq_true e;exact Cx oM
theorem qs1 {l:List (List Int)} {k:Int} (h:∀ r∈l,1≤hd r∧hd r≤1048575) (hk:hasK l k=true):1≤k∧k≤1048575:=by
 obtain⟨r,hr,e⟩:=DQ.1 hk;have:=h r hr;have e:hd r=k:=by simpa using e
 omega
theorem zM3 {l:List (List Int)} {k:Int} (h:RwId l) (hk:idOk k):hitB (fun y=>IntKind.i64.wrap (hd y-k)) l[plcN l k]?=hasK l k:=by
 have hq:∀ y,l[plcN l k]?=some y→(IntKind.i64.wrap (hd y-k)==0)=(hd y==k):=fun y hy=>by
  have:=(qU1 (h.ids y (BX hy)) hk).1;rw[Bool.eq_iff_iff,AY,AY];exact this
 cases hh:hasK l k with
 | true=>
   have hr:=qs1 h.ids hh;have hf:=qs0 h hr;obtain⟨hj,e⟩:=Ji h.asc hh;rw[← hf] at hj;rw[CK hj];have h2:=hq _ (CK hj);dsimp only[hitB];rw[h2];have:=List.find?_some e;simp only[← hf,AY] at this;rw[this];simp
 | false=>
   cases e:l[plcN l k]? with
   | none=>rfl
   | some y=>
     dsimp only[hitB];rw[hq y e];have:=List.any_eq_false.1 hh y (BX e);simpa using this
theorem JN (s:Src) (k:Int) (h:RwId s.rows) (hk:idOk k):Sp 57 [srcT s,vI k] [] (.tup [vI (plcN s.rows k),vB (hasK s.rows k)]) []:=by
 have hl:=h.len;have hb:=zA1 (fun y=>IntKind.i64.wrap (hd y-k)) k 91 s.rows (fun y hy=>Ym y k (h.pos y hy)) oM;have e:=zM3 h hk;unfold plcN at e;rw[e] at hb;refine sIr qc3 fun e _ hst=>?_;unfold yJ;refine sW ?_;refine C1.im hb rF rF ?_;refine sW ?_;exact .oA [] []
theorem Qh (n:Int):Sp 56 [vI n] [] (vB false) []:=by
 refine sIr Ke fun e _ hst=>?_;unfold kr;simp only[tZ,↓uU,simprocAttr,bne_self_eq_false];exact .oA [] []
theorem qI6 {x y:T}:zx2 (some (.v undef)) (some x) (some y)=none:=iR
def insN (l:List Int) (n:Int):Nat:=l.findIdx fun y=>decide (n≤y)
theorem jY (l:List Int) (n:Int) (h:l.Pairwise fun a b=>a<b) (hl:l.length<4611686018427387904):Sp 33 [vIs l,vI n] [] (.tup [vI (insN l n),vB (l.contains n)]) []:=by
 have hp:=DZ.1 h;refine sIr yW fun e _ hst=>?_;unfold zT;refine sW ?_;refine qy mixm (α:=Nat×Nat) [7,8] (fun p=>p.1≤p.2∧p.2≤l.length∧(∀ (m:Nat) (h:m<l.length),m<p.1→l[m]<n)∧(∀ (m:Nat) (h:m<l.length),p.2≤m→¬ l[m]<n)) (fun p=>[(7,vI p.1),(8,vI p.2)]) (fun p=>[]) (fun p=>p.2-p.1) (0,l.length) ?_ ?_ fun p hp=>?_
 ·exact⟨sMp,sMp,fun m h h2=>absurd h2 sMp,fun m h h2=>absurd h2 (by simp only;omega)⟩
 ·exact .oA [] []
 obtain⟨i,j⟩:=p;obtain⟨h1,h2,h3,h4⟩:=hp;dsimp only at h1 h2 h3 h4;simp only[tZ,↓uU,simprocAttr,AZ,Ay];refine⟨fun h5=>?_,fun h5=>?_⟩
 ·have hij:i<j:=by omega
  obtain⟨h,hh,hhi,hhj⟩:∃ h:Nat,h=(i+j) / 2∧i≤h∧h<j:=⟨(i+j) / 2,rfl,oM,oM⟩;have hw1:IntKind.i64.wrap ((i:Int)+(j:Int))=((i+j:Nat):Int):=by rw[AK _ oM];omega
  have hw2:IntKind.u64.wrap ((i+j:Nat):Int)=((i+j:Nat):Int):=IntWalk.u64_in _ oM;have hw3:shrI .u64 ((i+j:Nat):Int) 1=(h:Int):=by
   simp only[shrI];rw[show (min (1:Int).toNat IntKind.u64.bits)=1 from rfl,DK _ (by decide)];omega
  have hw4:IntKind.i64.wrap (h:Int)=(h:Int):=AK _ oM;have hlt:h<l.length:=by omega
  have hws:=qg (i:=h) oM;have hcall:=qi1 l[h] n;simp only[tZ,↓uU,simprocAttr,hw1,hw2,hw3,hw4,Ax,qd hlt];refine⟨oM,?_⟩;refine C1.im hcall rF rF ?_;simp only[tZ,↓uU,simprocAttr,AZ,Ay,hws,ltI];refine⟨fun h6=>?_,fun h6=>?_⟩
  ·refine⟨(h+1,j),⟨by simp only;omega,h2,fun m hm1 hm2=>?_,h4⟩,by simp only;omega,?_⟩
   ·by_cases hmh:m=h
    ·subst hmh;exact h6
    ·have:=hp m h hm1 hlt (by simp only at hm2;omega);omega
   ·exact .oA [] []
  ·refine⟨(i,h),⟨by simp only;omega,by simp only;omega,h3,fun m hm1 hm2 hm3=>?_⟩,by simp only;omega,?_⟩
   ·by_cases hmh:m=h
    ·subst hmh;exact h6 hm3
    ·have:=hp h m hlt hm1 (by simp only at hm2;omega);omega
   ·exact .oA [] []
 ·have hij:i=j:=by omega
  subst hij;have hfi:insN l n=i:=by
   unfold insN;by_cases hil:i<l.length
   ·refine kC hil ?_ (by have:=h4 i hil (BZ _);simp;omega);rw[List.any_eq_false];intro y hy;obtain⟨m,hm1,rfl⟩:=CX hy;rw[Cz] at hm1;rw[Fy];have:=h3 m oM oM;simp;omega
   ·have:i=l.length:=by omega
    subst this;rw[List.findIdx_eq_length];intro y hy;obtain⟨m,hm1,rfl⟩:=CX hy;have:=h3 m hm1 hm1;simp;omega
  rw[hfi];by_cases hil:i<l.length
  ·have hg:decide ((i:Int)<(l.length:Int))=true:=by simp;omega
   have hct:l.contains n=(l[i]==n):=by
    rw[Bool.eq_iff_iff,FQ,AY];constructor
    ·intro hm;obtain⟨m,hm1,rfl⟩:=CX hm;by_cases c1:m<i
     ·have:=h3 m hm1 c1;omega
     ·by_cases c2:i<m
      ·have:=hp i m hil hm1 c2;have:=h4 i hil (BZ _);omega
      ·have:i=m:=by omega
       subst this;rfl
    ·intro e;rw[← e];exact AX hil
   rw[hct];have hnn:=Qh l[i];simp only[tZ,↓uU,simprocAttr,hg,Ax,qd hil];refine⟨fun _=>by omega,fun _=>by omega,?_⟩;refine C2.im (fun _=>hnn) (fun _=>rfl) rF ?_;refine sW ?_;refine C2.im (fun _=>Qh n) (fun _=>rfl) rF ?_;refine sW ?_;exact .oA [] []
  ·have hg:decide ((i:Int)<(l.length:Int))=false:=by simp;omega
   have hct:l.contains n=false:=by
    cases e:l.contains n with
    | false=>rfl
    | true=>
      obtain⟨m,hm1,rfl⟩:=CX (FQ.1 e);have:=h3 m hm1 oM;omega
   rw[hct];have hj:(l.map vI).getD i T.junk=T.junk:=by rw[CY,List.getElem?_eq_none (by rw[BY];omega)];rfl
   simp only[tZ,↓uU,simprocAttr,hg,Ax,hj];refine⟨fun h=>by omega,oM,?_⟩;simp only[tZ,↓uU,simprocAttr,hg,qv8];refine C2.no (fun h=>h) ?_;simp only[tZ,↓uU,simprocAttr,hg,qv8];refine C2.no (fun h=>h) ?_;simp only[tZ,↓uU,simprocAttr,hg,qv8,qI6,Wj,not_false_eq_true,true_and];exact .oA [] []
theorem qe4 {s:Src} (h:SrcOk s→False):srcB s=false:=by
 cases e:srcB s with
 | false=>rfl
 | true=>exact (h (qe2.1 e)).elim
theorem wz (s:Src) (hn:s.sch.cols.length<4611686018427387904) (hl:s.sch.lists.length<4611686018427387904) (hr:∀ r∈s.rows,r.length<4611686018427387904):Sp 13 [srcT s] [] (vB (srcB s)) []:=by
 have hC:=Qx s.sch hn hl;refine sIr qb1 fun e _ hst=>?_;unfold yC;refine sW ?_;refine C1.im hC rF rF ?_;simp only[tZ,↓uU,simprocAttr,tD,Bj,Aw];refine⟨fun h=>?_,fun h=>?_⟩
 ·rw[qe4 fun k=>by have h1:=k.sch;have h2:=k.nr;have h3:=k.ng;have h4:=k.ver;omega];exact .oA [] []
 refine qy mixm (α:=Nat) [38] (fun i=>i≤s.gone.length∧∀ j,j<i→(1≤s.gone.getD j 0∧s.gone.getD j 0≤1048575)∧asc2 s.gone j=true) (fun i=>[(38,vI i)]) (fun i=>[aR 4096 5 [srcT s]]) (fun i=>s.gone.length-i) 0 ⟨oM,fun j h=>by omega⟩ ?_ fun i hi=>?_
 ·exact .oA (U1 4096) []
 obtain⟨i1,i2⟩:=hi;refine sD ?_;refine⟨fun h2=>?_,fun h2=>?_⟩
 ·have hi2:i<s.gone.length:=by omega
  have hwi:=qg (i:=i) oM;have hg:s.gone.getD i 0=s.gone[i]:=qt hi2;obtain⟨k,hk1,hk2,hk3⟩:∃ k:Nat,(IntKind.i64.wrap ((i:Int)-1)).toNat=k∧k<s.gone.length∧(i=0∧k=0∨0<i∧k+1=i∧IntKind.i64.wrap ((i:Int)-1)=k):=by
   rcases DX i with h0 | h0
   ·subst h0;exact⟨0,by decide,hi2,.inl ⟨rfl,rfl⟩⟩
   ·have e:=jM h0 (show i<4611686018427387904 by omega);exact⟨i-1,by rw[e];omega,oM,.inr ⟨h0,oM,e⟩⟩
  have hgq:s.gone.getD k 0=s.gone[k]:=qt hk2;simp only[tZ,↓uU,simprocAttr,Ax,qd hi2,hk1,qd hk2,hwi,gt_iff_lt,tD];refine⟨oM,fun _=>by omega,fun h3=>?_,fun h3=>?_⟩
  ·rw[qe4 fun w=>by
    have h4:=w.gone _ (AX hi2);rcases hk3 with⟨h5,_⟩ | ⟨h5,h6,_⟩
    ·omega
    ·have h7:=DZ.1 w.gasc k i hk2 hi2 oM;omega]
   exact .oA [] []
  ·refine⟨i+1,⟨oM,fun j hj=>?_⟩,oM,?_⟩
   ·by_cases e:j=i
    ·subst e;rw[hg];refine⟨oM,?_⟩;unfold asc2;rw[Dy,AZ,AZ];rcases hk3 with⟨h5,_⟩ | ⟨h5,h6,_⟩
     ·exact .inl h5
     ·rw[hg,show j-1=k by omega,hgq];omega
    ·exact i2 j oM
   ·exact .oA (U1 4096) []
 have hil:i=s.gone.length:=by omega
 subst hil;have hgasc:s.gone.Pairwise fun a b=>a<b:=by
  refine zq4 (f:=fun x:Int=>x) fun i h0 hi=>?_;have:=(i2 i hi).2;unfold asc2 at this;simp only[Dy,AZ] at this;exact this.resolve_left oM
 have hgin:∀ g∈s.gone,1≤g∧g≤1048575:=fun g hg=>by
  obtain⟨j,hj,rfl⟩:=CX hg;have:=(i2 j hj).1
  rwa [show s.gone.getD j 0=s.gone[j] from qt hj] at this
 have h0:schE s.sch=0:=by omega
 have hok:=jn h0;have hnc:=hok.nc;refine qy mixm (α:=Nat) [67] (fun i=>i≤s.rows.length∧∀ j,j<i→rowE s.sch (s.rows.getD j default)=0∧(0<j→hd (s.rows.getD (j-1) default)<hd (s.rows.getD j default))∧s.gone.contains (hd (s.rows.getD j default))=false) (fun i=>[(67,vI i)]) (fun i=>[aR 4096 5 [srcT s]]) (fun i=>s.rows.length-i) 0 ⟨oM,fun j h=>by omega⟩ ?_ fun i hi=>?_
 ·exact .oA (U1 4096) []
 obtain⟨j1,j2⟩:=hi;refine sD ?_;refine⟨fun h2=>?_,fun h2=>?_⟩
 ·have hi2:i<s.rows.length:=by omega
  have hwi:=qg (i:=i) oM;have hg:s.rows.getD i default=s.rows[i]:=qt hi2;have hF:=yo s.sch h0 s.rows[i] (hr _ (AX hi2));have hB:=jY s.gone (hd s.rows[i]) hgasc oM;simp only[tZ,↓uU,simprocAttr,Ax,qd hi2];refine⟨oM,?_⟩;obtain⟨k,hk1,hk2,hk3⟩:∃ k:Nat,(IntKind.i64.wrap ((i:Int)-1)).toNat=k∧k<s.rows.length∧(i=0∧k=0∨0<i∧k+1=i∧IntKind.i64.wrap ((i:Int)-1)=k):=by
   rcases DX i with h0 | h0
   ·subst h0;exact⟨0,by decide,hi2,.inl ⟨rfl,rfl⟩⟩
   ·have e:=jM h0 (show i<4611686018427387904 by omega);exact⟨i-1,by rw[e];omega,oM,.inr ⟨h0,oM,e⟩⟩
  by_cases hp:0<s.rows[i].length
  ·have hgi:=zJ hp;have hgk:s.rows.getD k default=s.rows[k]:=qt hk2;have hpk:0<s.rows[k].length:=by
    rcases hk3 with⟨rfl,rfl⟩ | ⟨h5,h6,_⟩
    ·exact hp
    ·have:=(j2 k oM).1;rw[hgk] at this;exact kz this
   have hgi2:=zJ hpk;refine C1.im hF rF rF ?_;simp only[tZ,↓uU,simprocAttr,Ax,hk1,qd hk2,hgi,hgi2,tD,gt_iff_lt,Bx,Bz,AY,Ak];refine⟨fun _=>by omega,fun _=>by omega,fun _=>by omega,kR,fun h3=>?_,fun h3=>?_⟩
   ·rw[qe4 fun w=>by
     have h4:=w.rows _ (AX hi2);rcases hk3 with⟨h5,_⟩ | ⟨h5,h6,_⟩
     ·omega
     ·have h7:=DZ.1 w.asc k i hk2 hi2 oM;omega]
    exact .oA [] []
   have hE:rowE s.sch s.rows[i]=0:=h3.1;refine⟨oM,?_⟩;refine C1.im hB rF rF ?_;refine sW ?_;refine⟨kR,fun h8=>?_,fun h8=>?_⟩
   ·rw[qe4 fun w=>by
     have h4:=(w.gone _ (FQ.1 h8)).2.2;have h5:=KU.1 h4 _ (AX hi2);rw[qT9 hE] at h5;simp at h5]
    exact .oA [] []
   ·simp only[tZ,↓uU,simprocAttr,hwi];refine⟨i+1,⟨oM,fun j hj=>?_⟩,oM,?_⟩
    ·by_cases e:j=i
     ·subst e;rw[hg];refine⟨hE,fun h0=>?_,h8⟩;rcases hk3 with⟨h5,_⟩ | ⟨h5,h6,_⟩
      ·omega
      ·rw[show j-1=k by omega,hgk];omega
     ·exact j2 j oM
    ·exact .oA (U1 4096) []
  ·have hv:(rowE s.sch s.rows[i]==0)=false:=Ak.2 fun e=>hp (kz e);have hn:s.rows[i]=[]:=List.length_eq_zero_iff.1 oM;rw[hv,hn] at hF;rw[hn];refine C1.im hF rF rF ?_;simp only[tZ,↓uU,simprocAttr,Ax,hk1,qd hk2,qv8,qI6,Wj,not_false_eq_true,true_and];refine⟨kR,?_⟩;rw[qe4 fun w=>hp (kz (w.rows _ (AX hi2)))];exact .oA [] []
 ·have hil:i=s.rows.length:=by omega
  subst hil;have hk:SrcOk s:=by
   refine⟨h0,oM,oM,oM,fun r hr=>?_,?_,fun g hg=>?_,hgasc⟩
   ·obtain⟨j,hj,rfl⟩:=CX hr;have:=(j2 j hj).1
    rwa [show s.rows.getD j default=s.rows[j] from qt hj] at this
   ·exact zq4 (f:=hd) fun i h0 hi=>(j2 i hi).2.1 h0
   ·obtain⟨g1,g2⟩:=hgin g hg;refine⟨g1,g2,KU.2 fun r hr=>?_⟩;obtain⟨j,hj,rfl⟩:=CX hr;have h4:=j2 j hj;rw[show s.rows.getD j default=s.rows[j] from qt hj] at h4;rw[qT9 h4.1];cases e:hd s.rows[j]==g with
    | false=>rfl
    | true=>
      rw[AY] at e;rw[e,FQ.2 hg] at h4;cases h4.2.2
  rw[qe2.2 hk];exact .oA [] []
def pinR (l:List (List Int)) (r:List Int):List (List Int):=if hasK l (hd r)=true then l else l.take (fndN l (hd r))++r::l.drop (fndN l (hd r))
theorem zr1 {l:List (List Int)} {k:Int} {r:List Int} (h:rowK l k=some r):hd r=k∧r∈l:=by
 have h1:=List.find?_some h;exact⟨by simpa using h1,List.mem_of_find?_eq_some h⟩
theorem qs2 {l:List (List Int)} {k:Int}:hasK l k=true↔∃ r∈l,hd r=k:=by
 unfold hasK;rw[DQ];simp
theorem zr2 {l:List (List Int)} {k:Int} {x:List Int} (h:x∈l.take (fndN l k)):hd x<k:=by
 obtain⟨i,hi,rfl⟩:=CX h;rw[Cz] at hi;rw[Fy];have:=List.not_of_lt_findIdx (show i<fndN l k by omega);simp [cmpK] at this
 grind
theorem zr3 {l:List (List Int)} {k:Int} {x:List Int} (ha:AscR l) (h:x∈l.drop (fndN l k)):k≤hd x:=by
 obtain⟨i,hi,rfl⟩:=CX h;rw[List.length_drop] at hi;rw[List.getElem_drop];have h1:fndN l k<l.length:=by omega
 have h2:=List.findIdx_getElem (p:=fun y=>decide (cmpK k y≥0)) (xs:=l) (w:=h1);have h3:cmpK k l[fndN l k]≥0:=of_decide_eq_true h2;have h4:k≤hd l[fndN l k]:=by
  unfold cmpK at h3
  grind
 rcases DX i with h5 | h5
 ·subst h5;exact h4
 ·have:=DZ.1 ha (fndN l k) (fndN l k+i) h1 oM oM;omega
theorem zM4 {l:List (List Int)} {r:List Int} (ha:AscR l):AscR (pinR l r)∧∀ x,x∈pinR l r↔x∈l∨(x=r∧hasK l (hd r)=false):=by
 unfold pinR;cases h:hasK l (hd r) with
 | true=>exact⟨by rw[Aj rfl];exact ha,fun x=>by simp⟩
 | false=>
   rw[Aq sMp];have hlt:∀ x∈l.drop (fndN l (hd r)),hd r<hd x:=fun x hx=>by
    have h1:=zr3 ha hx;have h2:hd x≠hd r:=fun e=>by
     rw[qs2.2 ⟨x,EW hx,e⟩] at h;cases h
    omega
   have ha2:=ha;rw[← List.take_append_drop (fndN l (hd r)) l] at ha2;obtain⟨p1,p2,p3⟩:=List.pairwise_append.1 ha2;refine⟨List.pairwise_append.2 ⟨p1,List.pairwise_cons.2 ⟨fun x hx=>hlt x hx,p2⟩,fun x hx y hy=>?_⟩,fun x=>?_⟩
   ·rcases Ck.1 hy with rfl | hy
    ·exact zr2 hx
    ·exact p3 x hx y hy
   ·have:=Dz (s:=l.take (fndN l (hd r))) (t:=l.drop (fndN l (hd r))) (a:=x);rw[List.take_append_drop] at this;rw[Dz,Ck,this];simp
    grind
theorem JB (l:List (List Int)) (x:(List Int)) (i:Nat) (hi:i≤l.length) (hl:l.length<1000000000000) :
 Sp 93 [.vw 0 l.length 0 l.length,vI i,.sl 1 [vIs x]] [aR 0 1 (l.map vIs)] (.asl 1 (l.length+1)) [(0,.dead),aR 1 1 ((l.take i++x::l.drop i).map vIs)]:=by
 refine jj [7,8,10] Jb mixm sMp fun e _ hst=>QR ?_;unfold jI;simp only[yA,List.contains_cons,List.contains_nil,Nat.reduceBEq,Bool.or_false,Bool.or_true,Bool.true_or,Bool.false_or,cond_true,cond_false];simp only[tl,tl2,tl4,↓uU,qY,entX,kh,ret,retI,retB,intT,unT,endR,wB,resR,tupT,bslR,boxR,jy,↓reduceIte,Nat.reduceEqDiff,Nat.reduceAdd,Nat.reduceMul,Nat.reduceLT,Nat.reduceLeDiff,reduceCtorEq,Int.reduceLE,Int.reduceLT,ne_eq,Int.reduceEq,not_false_eq_true,decide_true,decide_false,Int.reduceToNat,tl3,Int.reduceBNe,Int.reduceBEq,rmK,rm1,not_true_eq_false,List.drop_zero,List.take_of_length_le (show (l.map vIs).length≤l.length by simp),show (((1:Nat):Int)==0)=false from rfl];have e1:(i:Int).toNat=i:=Ax _;refine⟨oM,fun h=>?_,fun h=>?_⟩
 ·have h2:i=l.length:=by have:=AY.1 h;omega
  subst h2;refine W_le _ _ (Le.cut 0 5 l.length rF rF sMp) ?_;simp only[zc0,yd,cut2,cut1,cut0];simp only[tl,tl2,tl4,↓uU,qY,entX,kh,ret,retI,retB,intT,unT,endR,wB,resR,tupT,bslR,boxR,jy,↓reduceIte,Nat.reduceEqDiff,Nat.reduceAdd,Nat.reduceMul,Nat.reduceLT,Nat.reduceLeDiff,reduceCtorEq,Int.reduceLE,Int.reduceLT,ne_eq,Int.reduceEq,not_false_eq_true,decide_true,decide_false,Int.reduceToNat,tl3,Int.reduceBNe,Int.reduceBEq,rmK,rm1,not_true_eq_false,BY,List.take_of_length_le (show (l.map vIs).length≤l.length by simp)];refine⟨oM,?_⟩;refine .of [uI 0,(1,some 5)] [] rfl (by first | rfl | (rw[hst];rfl)) ?_ ?_
  all_goals (try simp only[jL,ltO2,ltO1,ltAs,ltA,ltC,ltC0,QS,ltCs,ltT,ltFr,ltS,wrOk,wrO,TL.get,Kz,↓reduceIte,Nat.reduceEqDiff,reduceCtorEq,Option.getD_some,Option.isSome_some,BY,AW,CJ,Cw,CW,Ey,Ck,List.not_mem_nil,and_true,true_and,and_self,imp_self,forall_const,false_implies,implies_true,true_implies,or_false,EZ,Bool.true_eq_false,kO,true_or,or_true,false_or,false_and,and_false,rmK,rm1,By,List.map_cons,List.map_nil,BW,Cy,Bw,List.drop_length])
  all_goals (try (exact clA))
 have h2:i<l.length:=by have:=Ak.1 h;omega
 refine zK0 0 rF rF fun c hc1 hc2=>?_;simp only[qu9,JS,qX5];rw[BY] at hc1;have hw:IntKind.i64.wrap ((l.length:Int)+((1:Nat):Int))=((l.length+1:Nat):Int):=by rw[AK _ oM];omega
 have hw2:IntKind.i64.wrap (((l.length+1:Nat):Int)-(i:Int))=((l.length+1-i:Nat):Int):=by rw[AK _ oM];omega
 have hw3:IntKind.i64.wrap ((i:Int)+((1:Nat):Int))=((i+1:Nat):Int):=by rw[AK _ oM];omega
 have e2:((l.length+1:Nat):Int).toNat=l.length+1:=Ax _;have e3:((i+1:Nat):Int).toNat=i+1:=Ax _;have e4:((l.length+1-i:Nat):Int).toNat=l.length+1-i:=Ax _;have e5:((c:Nat):Int).toNat=c:=Ax _;obtain⟨J,hJ⟩:∃ J,J=List.replicate (c-l.length) (Wi 1):=⟨_,rfl⟩;have hJl:J.length=c-l.length:=by rw[hJ,List.length_replicate]
 simp only[BY,← hJ];simp only[tl,tl2,tl4,↓uU,qY,entX,kh,ret,retI,retB,intT,unT,endR,wB,resR,tupT,bslR,boxR,jy,↓reduceIte,Nat.reduceEqDiff,Nat.reduceAdd,Nat.reduceMul,Nat.reduceLT,Nat.reduceLeDiff,reduceCtorEq,Int.reduceLE,Int.reduceLT,ne_eq,Int.reduceEq,not_false_eq_true,decide_true,decide_false,Int.reduceToNat,tl3,Int.reduceBNe,Int.reduceBEq,rmK,rm1,not_true_eq_false,BY,e1,e2,e3,e4,e5,hw,hw2,hw3,hJl,Nat.sub_zero,Nat.zero_add,List.drop_zero,AZ,Ay];refine⟨oM,fun h3=>⟨oM,oM,?_⟩,fun h3=>⟨oM,?_⟩⟩
 ·have h4:c=l.length:=by omega
  subst h4;have hJ0:J=[]:=DJ (by rw[hJl];omega);clear hJ;subst hJ0;have e6:i+(l.length+1-i)=l.length+1:=by omega
  simp only[CW,← List.map_take,e6];have hz:∀ m,ImXs 1 (List.replicate m (.v (.slice none 0 0))):=fun m y hy=>by rw[(List.mem_replicate.1 hy).2];exact⟨rfl,rfl⟩
  refine W_le [(0,.vw 0 l.length 0 l.length),(1,vI i),(2,.sl 1 [vIs x]),(7,vI (1:Nat)),(9,.vw 40992 (l.length+1) 0 (l.length+1))] [aR 0 1 (l.map vIs),aR 40992 1 ((l.take i).map vIs++List.replicate (l.length+1-i) (.v (.slice none 0 0)))] ?_ ?_
  ·refine .of (U2 0 40992) [] rfl (by first | rfl | (rw[hst];rfl)) ?_ ?_
   all_goals (try simp only[jL,ltO2,ltO1,ltAs,ltA,ltC,ltC0,QS,ltCs,ltT,ltFr,ltS,wrOk,wrO,TL.get,Kz,↓reduceIte,Nat.reduceEqDiff,reduceCtorEq,Option.getD_some,Option.isSome_some,BY,AW,CJ,Cw,CW,Ey,Ck,List.not_mem_nil,and_true,true_and,and_self,imp_self,forall_const,false_implies,implies_true,true_implies,or_false,EZ,Bool.true_eq_false,kO,true_or,or_true,false_or,false_and,and_false,rmK,rm1,By,List.map_cons,List.map_nil,BW,Cy])
   all_goals (try (repeat' (first | exact zl | (apply zC;intro _;exact⟨rfl,rfl⟩) | (apply qh;intro _;exact⟨rfl,rfl⟩) | with_reducible apply zh | with_reducible refine qE ⟨rfl,rfl⟩ ?_ | exact qK | with_reducible apply zb | with_reducible refine za ⟨rfl,rfl,?_⟩ ?_ | with_reducible apply Az | exact zc rfl | exact zc (by assumption) | (refine⟨⟨?_,rfl,?_,rfl,?_⟩,trivial⟩ <;> first | (simp;done) | (apply qh;intro _;exact⟨rfl,rfl⟩)) | trivial | rfl | (rw[qg oM]) | omega)))
   exact zt (hz _)
  have k1:min 1 (l.length+1-i)=1:=by omega
  have k2:min i l.length=i:=by omega
  have k3:min (l.length-i) (l.length+1-(i+1))=l.length-i:=by omega
  have k4:(1:Nat)+(l.length+1-i-1)=l.length+1-i:=by omega
  simp only[tl,tl2,tl4,↓uU,qY,entX,kh,ret,retI,retB,intT,unT,endR,wB,resR,tupT,bslR,boxR,jy,↓reduceIte,Nat.reduceEqDiff,Nat.reduceAdd,Nat.reduceMul,Nat.reduceLT,Nat.reduceLeDiff,reduceCtorEq,Int.reduceLE,Int.reduceLT,ne_eq,Int.reduceEq,not_false_eq_true,decide_true,decide_false,Int.reduceToNat,tl3,Int.reduceBNe,Int.reduceBEq,rmK,rm1,not_true_eq_false,BY,AW,List.length_replicate,Cz,List.length_drop,e1,e2,e3,e4,e5,hw,hw2,hw3,Nat.sub_zero,Nat.zero_add,List.drop_zero,k1,k2,k3,Nat.min_self,e6];refine⟨oM,oM,oM,oM,oM,kR,?_⟩;rw[qR5 (l.map vIs) ((l.take i).map vIs) (List.replicate (l.length+1-i) (.v (.slice none 0 0))) (vIs x) i l.length sMp (by simp;omega) sMp h2];refine .cutv 1 rfl ?_ rfl ?_ ?_
  ·simp only[AW,List.length_drop,BY,CJ,Cz];omega
  ·simp only[AW,List.length_drop,BY,CJ,Cz];omega
  simp only[yd];rw[List.take_of_length_le (by simp only[AW,List.length_drop,BY,CJ,Cz];omega)];simp only[By,List.map_cons,List.map_drop];refine .of (U2 0 1) [] rfl (by first | rfl | (rw[hst];rfl)) ?_ ?_
  all_goals (try simp only[jL,ltO2,ltO1,ltAs,ltA,ltC,ltC0,QS,ltCs,ltT,ltFr,ltS,wrOk,wrO,TL.get,Kz,↓reduceIte,Nat.reduceEqDiff,reduceCtorEq,Option.getD_some,Option.isSome_some,BY,AW,CJ,Cw,CW,Ey,Ck,List.not_mem_nil,and_true,true_and,and_self,imp_self,forall_const,false_implies,implies_true,true_implies,or_false,EZ,Bool.true_eq_false,kO,true_or,or_true,false_or,false_and,and_false,rmK,rm1,By,List.map_cons,List.map_nil,BW,Cy])
  all_goals (try (repeat' (first | exact zl | (apply zC;intro _;exact⟨rfl,rfl⟩) | (apply qh;intro _;exact⟨rfl,rfl⟩) | with_reducible apply zh | with_reducible refine qE ⟨rfl,rfl⟩ ?_ | exact qK | with_reducible apply zb | with_reducible refine za ⟨rfl,rfl,?_⟩ ?_ | with_reducible apply Az | exact zc rfl | exact zc (by assumption) | (refine⟨⟨?_,rfl,?_,rfl,?_⟩,trivial⟩ <;> first | (simp;done) | (apply qh;intro _;exact⟨rfl,rfl⟩)) | trivial | rfl | (rw[qg oM]) | omega)))
  all_goals (simp only[← List.map_drop,← List.map_take];apply zC;intro _;exact⟨rfl,rfl⟩)
 refine⟨oM,?_⟩;refine C1.ovl QL (by decide) rfl rfl (by rw[AW,BY,hJl];omega) ?_;have k1:min 1 (l.length+1-i)=1:=by omega
 have k2:l.length+(c-l.length)=c:=by omega
 have k3:min (min (l.length+1-i) (c-i)) (l.length+1-(i+1))=l.length-i:=by omega
 have k4:min (i+1) c=i+1:=by omega
 simp only[tl,tl2,tl4,↓uU,qY,entX,kh,ret,retI,retB,intT,unT,endR,wB,resR,tupT,bslR,boxR,jy,↓reduceIte,Nat.reduceEqDiff,Nat.reduceAdd,Nat.reduceMul,Nat.reduceLT,Nat.reduceLeDiff,reduceCtorEq,Int.reduceLE,Int.reduceLT,ne_eq,Int.reduceEq,not_false_eq_true,decide_true,decide_false,Int.reduceToNat,tl3,Int.reduceBNe,Int.reduceBEq,rmK,rm1,not_true_eq_false,BY,AW,Cz,List.length_drop,hJl,e1,e2,e3,e4,e5,hw,hw2,hw3,Nat.sub_zero,Nat.zero_add,List.drop_zero,k1,k2,k3,k4,Nat.min_self];refine⟨oM,oM,oM,kR,oM,oM,?_⟩;rw[qR4 (l.map vIs) J (vIs x) i l.length sMp h2];have hfl:(List.take i (List.map vIs l)++vIs x::List.drop i (List.map vIs l)).length=l.length+1:=by
  simp only[AW,List.length_drop,BY,CJ,Cz];omega
 refine .cutv 1 rfl ?_ rfl ?_ ?_
 ·rw[AW,hfl,List.length_drop,hJl];omega
 ·rw[AW,hfl,List.length_drop,hJl];omega
 simp only[yd];rw[List.take_append_of_le_length (by rw[hfl];exact BZ _),List.take_of_length_le (by rw[hfl];exact BZ _)];simp only[By,List.map_cons,List.map_drop,List.map_take];refine .of (U2 0 1) [] rfl (by first | rfl | (rw[hst];rfl)) ?_ ?_
 all_goals (try simp only[jL,ltO2,ltO1,ltAs,ltA,ltC,ltC0,QS,ltCs,ltT,ltFr,ltS,wrOk,wrO,TL.get,Kz,↓reduceIte,Nat.reduceEqDiff,reduceCtorEq,Option.getD_some,Option.isSome_some,BY,AW,CJ,Cw,CW,Ey,Ck,List.not_mem_nil,and_true,true_and,and_self,imp_self,forall_const,false_implies,implies_true,true_implies,or_false,EZ,Bool.true_eq_false,kO,true_or,or_true,false_or,false_and,and_false,rmK,rm1,By,List.map_cons,List.map_nil,BW,Cy])
 all_goals (try (repeat' (first | exact zl | (apply zC;intro _;exact⟨rfl,rfl⟩) | (apply qh;intro _;exact⟨rfl,rfl⟩) | with_reducible apply zh | with_reducible refine qE ⟨rfl,rfl⟩ ?_ | exact qK | with_reducible apply zb | with_reducible refine za ⟨rfl,rfl,?_⟩ ?_ | with_reducible apply Az | exact zc rfl | exact zc (by assumption) | (refine⟨⟨?_,rfl,?_,rfl,?_⟩,trivial⟩ <;> first | (simp;done) | (apply qh;intro _;exact⟨rfl,rfl⟩)) | trivial | rfl | (rw[qg oM]) | omega)))
 all_goals (simp only[← List.map_drop,← List.map_take];apply zC;intro _;exact⟨rfl,rfl⟩)
section
variable {P:Program} {st:Sto} {e:Env} {kss:List (Nat×List Nat)} {Q:Ex→St→Prop} {K:List KF} {rows:Option (List Nat)} {ks:List Nat} {nid:Nat} {ops:List ROp} {F:XF} {acc:Acc}
theorem C1.cutbackF {fid:FuncId} {caps xs ts':List T} {d:Option Nat} {ys zs bs:List T} {m kj:Nat} {fz:Bool} (id nid' k j:Nat) (hs:Spc P fid ts' [(0,.arr k zs false)] (.asl 1 m) [(0,.dead),(1,.arr k ys false)]) (hg:TL.get st id=some (.arr k zs false)) (hj:TL.get st j=some (.arr kj bs fz)) (hz:ImXs k zs) (hy:ImXs k ys)
 (hn:TL.get st nid'=none) (hne2:id≠j) (ha:ltAs st [(0,some id)] [j] (xs++caps) ts')
 (h:R P e kss Q rows ks K nid ops (putX F d (.p (.asl nid' m))) (stUp st [(id,.dead),(nid',.arr k ys false),(j,.arr kj bs true)]) (acc++[([j]++[id,nid',j],[id,nid',j])])):C1 P e kss Q rows ks K (.clo fid caps) xs d nid ops F st acc:=by
 have hne:id≠nid':=fun e=>by subst e;rw[hg] at hn;cases hn
 have hne3:nid'≠j:=fun e=>by subst e;rw[hj] at hn;cases hn
 refine C1.of [(0,some id)] [(nid',some 1)] [j] [(id,.dead),(nid',.arr k ys false),(j,.arr kj bs true)] hs ha (by simp [ki,TL.get]) ?_ (by simp;exact fun e=>hne2 e.symm) (by simp [TL.get]) ?_ ?_ rF ?_ (.inl ?_) h
 ·refine⟨?_,trivial⟩;simp only[TL.get,if_true,ltO2,hg,ltO1];refine⟨trivial,sMp,zt hz,fun hb=>?_⟩;simp at hb;exact absurd hb hne2
 ·refine⟨?_,?_,trivial⟩
  ·simp only[TL.get,if_true,wrO,ltO1,Nat.reduceEqDiff,↓reduceIte,reduceCtorEq];exact⟨⟨trivial,sMp,zt hy,sMp⟩,.inl hn⟩
  ·rw[show TL.get [(nid',some 1)] j=none by simp [TL.get,hne3]];refine⟨rfl,?_,?_⟩
   ·rw[hj];exact⟨rfl,rfl⟩
   ·intro p hp;simp at hp;subst hp;simp;exact hne2
 ·simp [ki,TL.get,hne]
 ·exact⟨by simp [TL.get],rfl⟩
 ·simp [fzOk,TL.get,hne2,hne3]
theorem C1.cut0 {fid:FuncId} {caps xs ts':List T} {d:Option Nat} {ys zs:List T} {m:Nat} (id nid' k:Nat) (hs:Spc P fid ts' [(0,.arr k zs false)] (.asl 1 m) [(0,.dead),(1,.arr k ys false)]) (hg:TL.get st id=some (.arr k zs false)) (hz:ImXs k zs) (hy:ImXs k ys)
 (hn:TL.get st nid'=none) (ha:ltAs st [(0,some id)] [] (xs++caps) ts')
 (h:R P e kss Q rows ks K nid ops (putX F d (.p (.asl nid' m))) (stUp st [(id,.dead),(nid',.arr k ys false)]) (acc++[([]++[id,nid'],[id,nid'])])):C1 P e kss Q rows ks K (.clo fid caps) xs d nid ops F st acc:=by
 have hne:id≠nid':=fun e=>by subst e;rw[hg] at hn;cases hn
 refine C1.of [(0,some id)] [(nid',some 1)] [] [(id,.dead),(nid',.arr k ys false)] hs ha (by simp [ki,TL.get]) ?_ rF (by simp [TL.get]) ?_ ?_ rF ?_ (.inl rF) h
 ·refine⟨?_,trivial⟩;simp only[TL.get,if_true,ltO2,hg,ltO1];exact⟨trivial,sMp,zt hz,sMp⟩
 ·refine⟨?_,trivial⟩;simp only[TL.get,if_true,wrO,ltO1,Nat.reduceEqDiff,↓reduceIte,reduceCtorEq];exact⟨⟨trivial,sMp,zt hy,sMp⟩,.inl hn⟩
 ·simp [ki,TL.get,hne]
 ·exact⟨by simp [TL.get],rfl⟩
end
end Go.Proofs
