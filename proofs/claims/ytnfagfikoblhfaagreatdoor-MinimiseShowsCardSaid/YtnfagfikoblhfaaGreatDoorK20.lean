/- A part of the proof: trees of Go values, short forms, contracts. -/
import Derived.Test.YtnfagfikoblhfaaGreatDoorK19
set_option linter.unusedSimpArgs false
set_option linter.unusedVariables false
namespace Go.Proofs
open Go Go.TL
set_option maxRecDepth 4000
set_option maxHeartbeats 8000000
def canF (f:Nat→Int):Nat→List Pk
 | 0=>[]
 | n+1=>canF f n++(if 0<f n then [⟨n,f n⟩] else [])
theorem Ky {f g:Nat→Int}:∀ {n:Nat},(∀ k,k<n→f k=g k)→canF f n=canF g n
 | 0,_=>rfl
 | n+1,h=>by rw[canF,canF,Ky fun k hk=>h k oM,h n oM]
theorem zc8 (f:Nat→Int):∀ n,(canF f n).length≤n
 | 0=>BZ _
 | n+1=>by
   have:=zc8 f n;rw[canF,AW];split <;> simp <;> omega
theorem qL1 {f:Nat→Int}:∀ {n:Nat},(∀ k,k<n→f k≤0)→canF f n=[]
 | 0,_=>rfl
 | n+1,h=>by
   have:=h n oM;rw[canF,qL1 fun k hk=>h k oM,Aq oM];rfl
theorem zq4 {f:Nat→Int} {n:Nat}:∀ d,(∀ k,n≤k→k<n+d→f k≤0)→canF f (n+d)=canF f n
 | 0,_=>rfl
 | d+1,h=>by
   have:=h (n+d) oM oM;rw[show n+(d+1)=n+d+1 from rfl,canF,Aq oM,CW,zq4 d fun k h1 h2=>h k h1 oM]
theorem yr {f:Nat→Int} {p:Pk}:∀ {n:Nat},p∈canF f n↔∃ k,k<n∧0<f k∧p=⟨k,f k⟩
 | 0=>by simp [canF]
 | n+1=>by
   rw[canF,Dz,yr];constructor
   ·rintro (⟨k,h1,h2,h3⟩ | h)
    ·exact⟨k,oM,h2,h3⟩
    ·split at h
     ·rename_i h2;exact⟨n,oM,h2,by simpa using h⟩
     ·simp at h
   ·rintro ⟨k,h1,h2,h3⟩;by_cases e:k=n
    ·subst e;right;rw[Aj h2];simpa using h3
    ·exact .inl ⟨k,oM,h2,h3⟩
def upd (f:Nat→Int) (c:Nat) (v:Int):Nat→Int:=fun k=>if k=c then max (f k) v else f k
theorem qV5 {f:Nat→Int} (hf:∀ k,0≤f k) (c:Nat) (v:Int):∀ m,∀ x,(canF f m).foldl (qR0 c v) ([],decide (v≤0))=x→
 (m≤c→x.2=decide (v≤0))∧(x.2=true→x.1=canF (upd f c v) m)∧(x.2=false→0<v∧x.1++(if c<m then [⟨c,v⟩] else [])=canF (upd f c v) m)
 | 0,x,h=>by
   subst h;refine⟨fun _=>rfl,fun _=>rfl,fun h=>⟨?_,by rw[Aq oM];rfl⟩⟩;have:=of_decide_eq_false h;omega
 | m+1,x,h=>by
   rw[canF,Gq] at h;obtain⟨i1,i2,i3⟩:=qV5 hf c v m _ rfl;generalize (canF f m).foldl (qR0 c v) ([],decide (v≤0))=y at h i1 i2 i3;obtain⟨l,b⟩:=y;dsimp only at i1 i2 i3;have hm:=hf m;by_cases h0:0<f m
   ·rw[Aj h0,Dw,List.foldl_nil] at h;unfold qR0 at h;dsimp only at h;rcases Nat.lt_trichotomy m c with q | q | q
    ·rw[Aq oM,Aq oM] at h;subst h;have hu:upd f c v m=f m:=by rw[upd,Aq oM]
     refine⟨fun _=>i1 oM,fun e=>?_,fun e=>⟨(i3 e).1,?_⟩⟩
     ·dsimp only at e ⊢
      rw[i2 e,canF,hu,Aj h0]
     ·dsimp only at e ⊢
      have:=(i3 e).2;rw[Aq oM,CW] at this;rw[Aq oM,CW,this,canF,hu,Aj h0]
    ·subst q;rw[Aj rfl,Aq (show ¬ ((m:Int)>m∧b=false) from fun h=>by omega)] at h;subst h;have hu:upd f m v m=max (f m) v:=by rw[upd,Aj rfl]
     refine⟨fun e=>by omega,fun _=>?_,fun e=>by simp at e⟩;dsimp only;have:l=canF (upd f m v) m:=by
      cases b with
      | true=>exact i2 rfl
      | false=>
        have:=(i3 rfl).2;rw[Aq oM,CW] at this;exact this
     rw[this,canF,hu,Aj oM]
    ·have hu:upd f c v m=f m:=by rw[upd,Aq oM]
     have hc:((m:Int)>(c:Int)):=by omega
     cases b with
     | true=>
       rw[Aq (show ¬ ((m:Int)=c) by omega),Aq (show ¬ ((m:Int)>c∧true=false) from fun h=>by simp at h)] at h;subst h;refine⟨fun e=>by omega,fun _=>?_,fun e=>by simp at e⟩;dsimp only;rw[i2 rfl,canF,hu,Aj h0]
     | false=>
       rw[Aq (show ¬ ((m:Int)=c) by omega),Aj ⟨hc,rfl⟩] at h;subst h;refine⟨fun e=>by omega,fun _=>?_,fun e=>by simp at e⟩;dsimp only;have:=(i3 rfl).2;rw[Aj q] at this;rw[this,canF,hu,Aj h0]
   ·rw[Aq h0,List.foldl_nil] at h;subst h;dsimp only;have f0:f m=0:=by omega
    by_cases q:m=c
    ·subst q;have hu:upd f m v m=max 0 v:=by rw[upd,Aj rfl,f0]
     refine⟨fun e=>by omega,fun e=>?_,fun e=>⟨(i3 e).1,?_⟩⟩
     ·have hv:v≤0:=by
       have:=i1 (BZ _);rw[e] at this;exact of_decide_eq_true this.symm
      rw[i2 e,canF,hu,Aq oM,CW]
     ·have:=(i3 e).2;rw[Aq oM,CW] at this;have hv:=(i3 e).1;rw[this,canF,hu,Aj oM,Aj oM,show max 0 v=v by omega]
    ·have hu:upd f c v m=f m:=by rw[upd,Aq q]
     refine⟨fun e=>i1 oM,fun e=>?_,fun e=>⟨(i3 e).1,?_⟩⟩
     ·rw[i2 e,canF,hu,Aq h0,CW]
     ·have:=(i3 e).2;rw[canF,hu,Aq h0,CW,← this];by_cases q2:c<m
      ·rw[Aj q2,Aj oM]
      ·rw[Aq q2,Aq oM]
theorem qV6 {f:Nat→Int} (hf:∀ k,0≤f k) {c n:Nat} (hc:c<n) (v:Int):qc4 (canF f n) c v=canF (upd f c v) n:=by
 obtain⟨_,i2,i3⟩:=qV5 hf c v n _ rfl;unfold qc4;dsimp only;split
 ·rename_i h;exact i2 h
 ·rename_i h;have:=(i3 (by simpa using h)).2;rw[Aj hc] at this;exact this
abbrev lvF (lv:List Int):Nat→Int:=fun k=>lv.getD k 0
theorem jC7 {lv:List Int} {c:Nat} (hc:c<lv.length) (v:Int):lvF (lv.set c (max lv[c] v))=upd (lvF lv) c v:=by
 funext k
 unfold lvF upd;simp only[CY,List.getElem?_set];by_cases e:c=k
 ·subst e;simp [hc]
 ·rw[Aq e,Aq (fun h=>e h.symm)]
theorem jC8 {lv:List Int} (h:∀ x∈lv,0≤x) (k:Nat):0≤lvF lv k:=by
 unfold lvF;by_cases hk:k<lv.length
 ·rw[qk hk];exact h _ (AX hk)
 ·simp [List.getD,List.getElem?_eq_none (show lv.length≤k by omega)]
theorem jo8 (n:Nat):canF (lvF (List.replicate n 0)) n=[]:=qL1 fun k hk=>by
 unfold lvF;rw[qk (by simpa using hk),List.getElem_replicate];omega
theorem qv2 (s:Sch) (hs:yZ s) (c:Cnd):Sp 138 [schT s,cnT c] [] (vPs (jR s c)) []:=by
 refine sIr qm2 fun e _ hst=>?_;unfold yf;refine sW ?_;refine C1.im (kO s hs c) rF rF ?_;simp only[tZ,↓un_u,simprocAttr,Bj,Aw];refine⟨fun h=>?_,fun h=>?_⟩
 ·rw[jR,Aj h];exact .oA [] []
 obtain⟨hE,k2,k3,k4⟩:=Wp h;have hok:=zc hE;have hnc:=hok.nc;have hal:=QV c 41 oM k2;have hao:=qx2 c k4;have hN:jR s c=(atsC c).foldl (zp2 s) []:=by rw[jR,Aq (by rw[h];simp)];rfl
 rw[hN];refine⟨oM,?_⟩;refine C1.im (kP c 41 oM oM k2) rF rF ?_;generalize atsC c=L at hal hao ⊢
 refine sW ?_;refine qy mixm (α:=Nat×List Int) [23] (fun y=>y.1≤L.length∧y.2.length=s.cols.length∧(∀ x∈y.2,0≤x)∧canF (lvF y.2) s.cols.length=(L.take y.1).foldl (zp2 s) []) (fun y=>[(23,vI y.1)]) (fun y=>[aR 4096 2 [schT s],aR 16396 1 (y.2.map vI)]) (fun y=>L.length-y.1) (0,List.replicate s.cols.length 0) ⟨sMp,sMp,fun x hx=>by rw[(List.mem_replicate.1 hx).2];omega,jo8 _⟩ ?_ fun y hy=>?_
 ·rw[List.map_replicate];refine .of (U2 4096 16396) [] rfl (by first | rfl | (rw[hst];rfl)) ?_ ?_
  all_goals (try simp only[tL,simprocAttr,By,List.map_cons,List.map_nil,BW,Cy,Ax,jw8])
  all_goals (try (repeat' (first | exact qY | (apply zf;intro _;exact⟨rfl,rfl⟩) | (apply qj;intro _;exact⟨rfl,rfl⟩) | with_reducible apply qS | with_reducible refine qz ⟨rfl,rfl⟩ ?_ | exact qK | with_reducible apply qR | with_reducible refine qT ⟨rfl,rfl,?_⟩ ?_ | with_reducible apply Az | exact qO rfl | exact qO (by assumption) | (refine⟨⟨?_,rfl,?_,rfl,?_⟩,trivial⟩ <;> first | (simp;done) | (apply qj;intro _;exact⟨rfl,rfl⟩)) | trivial | rfl | (rw[qh oM]) | omega)))
 obtain⟨i,lv⟩:=y;obtain⟨y1,y2,y3,y4⟩:=hy;dsimp only at y1 y2 y3 y4;refine sD ?_;refine⟨fun h3=>?_,fun h3=>?_⟩
 ·have hi2:i<L.length:=by omega
  have hwi:=qh (i:=i) oM;obtain⟨hnd,ha⟩:=hao _ (AX hi2);obtain⟨n1,n2,n3⟩:=qo4 hE hnd ha;have h59:=YN (c:=L[i].col) hE;obtain⟨_,c1,c2,_⟩:=ZT (s:=s) (c:=L[i].col) oM;have hstep:(L.take (i+1)).foldl (zp2 s) []=qc4 ((L.take i).foldl (zp2 s) []) L[i].col (decN s L[i]):=by
   rw[qZ hi2,Gq];rfl
  simp only[tZ,↓un_u,simprocAttr,Ax,qd hi2,zp];refine⟨oM,?_⟩;generalize L[i]=a at hnd ha n1 n2 n3 h59 c1 c2 hstep ⊢
  refine qy mixm (α:=Nat) [8] (fun n=>n≤decN s a) (fun n=>[(8,vI n)]) (fun n=>[aR 4096 2 [schT s],aR 16396 1 (lv.map vI),aR 28680 6 [cnT a]]) (fun n=>decN s a-n) 0 oM ?_ fun n hn=>?_
  ·exact .oA (U3 4096 16396 28680) []
  have hwn:=qh (i:=n) oM;refine sW ?_;refine C1.im (qc8 s hE a hnd ha n oM) rF rF ?_;simp only[tZ,↓un_u,simprocAttr,Bx,Bz,hwn];refine⟨fun h4=>?_,fun h4=>?_⟩
  ·have:n≠decN s a:=fun e=>by rw[e,n2] at h4;cases h4
   refine⟨n+1,oM,oM,?_⟩;exact .oA (U3 4096 16396 28680) []
  ·have:n=decN s a:=by
    refine Nat.le_antisymm hn (Nat.le_of_not_lt fun e=>?_);rw[n3 n e] at h4;cases h4
   subst this;obtain⟨q,hq⟩:=AJ (show 0≤a.col by omega);have hq2:q<lv.length:=by omega
   simp only[tZ,↓un_u,simprocAttr,hq,Ax,qd hq2,zH7,hwi,show ∀ a b:Int,repl (vI a) 0 (vI b)=vI b from fun _ _=>rfl]
   repeat (first | refine⟨oM,?_⟩ | refine⟨kR,?_⟩)
   refine⟨(i+1,lv.set q (max lv[q] (decN s a))),⟨by dsimp only;omega,by rw[Fy];exact y2,fun x hx=>?_,?_⟩,by dsimp only;omega,?_⟩
   ·rcases List.mem_or_eq_of_mem_set hx with h5 | h5
    ·exact y3 x h5
    ·rw[h5];omega
   ·dsimp only;rw[hstep,← y4,hq,qV6 (jC8 y3) oM,jC7 hq2]
   ·rw[← List.map_set];exact .oA (U2 4096 16396) []
 ·have hil:i=L.length:=by omega
  subst hil;rw[Bw] at y4;rw[← y4];simp only[Ax];refine⟨y2,?_⟩;rw[← y2];refine qy mixm (α:=Nat) [48,9] (fun i=>i≤lv.length) (fun i=>[(9,.asl 1 (canF (lvF lv) i).length),(48,vI i)]) (fun i=>[aR 16396 1 (lv.map vI),aR 1 2 ((canF (lvF lv) i).map pkT)]) (fun i=>lv.length-i) 0 oM ?_ fun j hj=>?_
  ·exact .oA [uI 16396,(1,none)] []
  have hcl:=zc8 (lvF lv) j;refine sD ?_;refine⟨fun h5=>?_,fun h5=>?_⟩
  ·have hj2:j<lv.length:=by omega
   have hwj:=qh (i:=j) oM;have hg:lvF lv j=lv[j]:=qk hj2;have hc:canF (lvF lv) (j+1)=canF (lvF lv) j++(if 0<lv[j] then [⟨(j:Nat),lv[j]⟩] else []):=by rw[canF,hg]
   simp only[tZ,↓un_u,simprocAttr,Ax,qd hj2,hwj,gt_iff_lt,tD];refine⟨oM,oM,fun h6=>?_,fun h6=>?_⟩
   ·rw[Aj h6] at hc;refine⟨oM,j+1,oM,oM,?_⟩;rw[hc,By,AW];exact .oA (U2 16396 1) []
   ·rw[Aq h6,CW] at hc;refine⟨j+1,oM,oM,?_⟩;rw[hc];exact .oA (U2 16396 1) []
  ·rw[show lv.length=j by omega];exact .oA [] [1]
theorem Yb (p n:Pk):Sp 131 [pkT p,.ip (pkT n).cells] [] (vB ((p.col==n.col)&&decide (p.lev≥n.lev))) []:=by
 refine sIr Wb fun e _ hst=>?_;unfold jN;refine sW ?_;exact .oA [] []
theorem yu (p:Pk→Bool) (f:FuncId) (caps:List T) (hcap:imL caps=true) (l:List Pk) (hf:∀ y∈l,Sp f (pkT y::caps) [] (vB (p y)) []) (hl:l.length<4611686018427387904) :
 Sp 70 [.sl 2 (l.map pkT),.clo f caps] [] (vI (idxI p l)) []:=by
 refine sIr Kl fun e _ hst=>?_;unfold jC;refine sW ?_;refine qy mixm (α:=Nat) [8] (fun i=>i≤l.length∧((l.take i).any p=false)) (fun i=>[(8,vI i)]) (fun i=>[]) (fun i=>l.length-i) 0 ⟨oM,?_⟩ ?_ fun i hi=>?_
 ·simp
 ·exact .oA [] []
 simp only[tZ,↓un_u,simprocAttr,AZ,Ay];refine⟨fun h=>?_,fun h=>?_⟩
 ·have hi2:i<l.length:=by omega
  have hwi:=qh (i:=i) oM;simp only[tZ,↓un_u,simprocAttr,Ax,qd hi2,hwi,Yp];refine⟨oM,?_⟩;refine C1.im (hf l[i] (AX hi2)) (Zu rfl hcap) rfl ?_;refine sW ?_;refine⟨fun h3=>?_,fun h3=>⟨i+1,⟨oM,zR hi2 hi.2 h3⟩,oM,?_⟩⟩
  ·rw[idxI,Aj (WC hi2 h3),wJ hi2 hi.2 h3];exact .imR rfl rfl
  ·exact .oA [] []
 ·have h2:i=l.length:=by omega
  have h3:=hi.2;rw[h2,Bw] at h3;rw[idxI,Aq (by rw[h3];simp)];exact .imR rfl rfl
theorem jm (p:Pk→Bool) (f:FuncId) (caps:List T) (hcap:imL caps=true) (l:List Pk) (hf:∀ y∈l,Sp f (pkT y::caps) [] (vB (p y)) []) (hl:l.length<4611686018427387904) :
 Sp 129 [.sl 2 (l.map pkT),.clo f caps] [] (vB (l.any p)) []:=by
 refine sIr ZC fun e _ hst=>?_;unfold je;refine sW ?_;refine C1.im (yu p f caps hcap l hf hl) (qk0 rfl hcap) rfl ?_;refine sW ?_;rw[show decide (idxI p l≥0)=l.any p from qe8 p l];exact .imR rfl rfl
theorem qc9 (n:Pk) (a:List Pk) (ha:a.length<4611686018427387904):Sp 130 [pkT n,.ip [vPs a]] [] (vB (!(a.any fun y=>(y.col==n.col)&&decide (y.lev≥n.lev)))) []:=by
 refine sIr Yz fun e _ hst=>?_;unfold kE;refine sW ?_;have hCF:=jm (fun y=>(y.col==n.col)&&decide (y.lev≥n.lev)) 131 [.ip (pkT n).cells] rfl a (fun y _=>Yb y n) ha;refine C1.lend [4096] hCF ?_ rF rF ?_
 ·all_goals (try simp only[tL,simprocAttr,By,List.map_cons,List.map_nil,BW,Cy])
  all_goals (try (repeat' (first | exact qY | (apply zf;intro _;exact⟨rfl,rfl⟩) | (apply qj;intro _;exact⟨rfl,rfl⟩) | with_reducible apply qS | with_reducible refine qz ⟨rfl,rfl⟩ ?_ | exact qK | with_reducible apply qR | with_reducible refine qT ⟨rfl,rfl,?_⟩ ?_ | with_reducible apply Az | exact qO rfl | exact qO (by assumption) | (refine⟨⟨?_,rfl,?_,rfl,?_⟩,trivial⟩ <;> first | (simp;done) | (apply qj;intro _;exact⟨rfl,rfl⟩)) | trivial | rfl | (rw[qh oM]) | omega)))
  simp only[ltP];exact⟨rfl,by decide,rfl,qz ⟨rfl,rfl⟩ qK⟩
 refine sW ?_;exact .oA [] []
theorem qp5 (a b:List Pk) (ha:a.length<4611686018427387904) (hb:b.length<4611686018427387904):Sp 67 [vPs a,vPs b] [] (vB (covB b a)) []:=by
 refine sIr qf8 fun e _ hst=>?_;unfold ww;refine sW ?_;have hCF:=jm (fun n=>!(a.any fun y=>(y.col==n.col)&&decide (y.lev≥n.lev))) 130 [.ip [vPs a]] rfl b (fun n _=>qc9 n a ha) hb;refine C1.lend [4096] hCF ?_ rF rF ?_
 ·all_goals (try simp only[tL,simprocAttr,By,List.map_cons,List.map_nil,BW,Cy])
  all_goals (try (repeat' (first | exact qY | (apply zf;intro _;exact⟨rfl,rfl⟩) | (apply qj;intro _;exact⟨rfl,rfl⟩) | with_reducible apply qS | with_reducible refine qz ⟨rfl,rfl⟩ ?_ | exact qK | with_reducible apply qR | with_reducible refine qT ⟨rfl,rfl,?_⟩ ?_ | with_reducible apply Az | exact qO rfl | exact qO (by assumption) | (refine⟨⟨?_,rfl,?_,rfl,?_⟩,trivial⟩ <;> first | (simp;done) | (apply qj;intro _;exact⟨rfl,rfl⟩)) | trivial | rfl | (rw[qh oM]) | omega)))
  simp only[ltP];exact⟨rfl,by decide,rfl,qz ⟨rfl,rfl⟩ qK⟩
 refine sW ?_;rw[show (!(b.any fun n=>!(a.any fun y=>(y.col==n.col)&&decide (y.lev≥n.lev))))=covB b a by rw[covB,List.not_any_eq_all_not];simp];exact .oA [] []
def ordB (l:List (List Int)):Bool:=(List.range l.length).all fun i=>decide (0<(l.getD i []).length)&&(decide (i=0)||decide (hd (l.getD (i-1) [])<hd (l.getD i [])))
def hasK (l:List (List Int)) (k:Int):Bool:=l.any fun r=>hd r==k
def appR (a:List (List Int)) (g:List Int) (rs:List (List Int)):List (List Int):=rs.foldl putR (a.filter fun r=>!g.contains (hd r))
def ascI (l:List Int):Bool:=(List.range l.length).all fun i=>asc2 l i
def appE (a:Ext) (c:Chg):Int:=
 if ordB a.rows=false∨ordB c.rows=false∨ascI c.gone=false∨(c.rows.any fun r=>decide (r.length≠a.picks.length+1))=true then 11
 else if (c.gone.any fun k=>!hasK a.rows k)=true then 21 else if (c.gone.any fun k=>hasK c.rows k)=true then 10 else 0
structure ExtOk (x:Ext):Prop where
 ord:ordB x.rows=true
 len:∀ r∈x.rows,r.length=x.picks.length+1
open So
def RwSm (l:List (List Int)):Prop:=l.length≤1000000∧∀ r∈l,r.length*8≤140737488355328
structure ExtSm (x:Ext):Prop where
 rows:RwSm x.rows
 picks:x.picks.length*16≤140737488355328
structure ChgSm (c:Chg):Prop where
 rows:RwSm c.rows
 gone:c.gone.length≤1000000
theorem Yc (p:Int→Bool) (f:FuncId) (caps:List T) (hcap:imL caps=true) (l:List Int) (hf:∀ y∈l,Sp f (vI y::caps) [] (vB (p y)) []) (hl:l.length<4611686018427387904) :
 Sp 251 [.sl 1 (l.map vI),.clo f caps] [] (vI (idxI p l)) []:=by
 refine sIr Wj fun e _ hst=>?_;unfold jP;refine sW ?_;refine qy mixm (α:=Nat) [8] (fun i=>i≤l.length∧((l.take i).any p=false)) (fun i=>[(8,vI i)]) (fun i=>[]) (fun i=>l.length-i) 0 ⟨oM,?_⟩ ?_ fun i hi=>?_
 ·simp
 ·exact .oA [] []
 simp only[tZ,↓un_u,simprocAttr,AZ,Ay];refine⟨fun h=>?_,fun h=>?_⟩
 ·have hi2:i<l.length:=by omega
  have hwi:=qh (i:=i) oM;simp only[tZ,↓un_u,simprocAttr,Ax,qd hi2,hwi,Yp];refine⟨oM,?_⟩;refine C1.im (hf l[i] (AX hi2)) (Zu rfl hcap) rfl ?_;refine sW ?_;refine⟨fun h3=>?_,fun h3=>⟨i+1,⟨oM,zR hi2 hi.2 h3⟩,oM,?_⟩⟩
  ·rw[idxI,Aj (WC hi2 h3),wJ hi2 hi.2 h3];exact .imR rfl rfl
  ·exact .oA [] []
 ·have h2:i=l.length:=by omega
  have h3:=hi.2;rw[h2,Bw] at h3;rw[idxI,Aq (by rw[h3];simp)];exact .imR rfl rfl
def idxN (n:Int):List Int→Nat
 | []=>0
 | x::r=>if x=n then 0 else idxN n r+1
theorem je8 {n:Int}:∀ {l:List Int} {i:Nat} (h:i<l.length),n∉l.take i→l[i]=n→idxN n l=i
 | [],i,h,_,_=>by simp at h
 | x::r,0,h,_,hp=>by simp at hp;simp [idxN,hp]
 | x::r,i+1,h,h1,hp=>by
   simp only[List.take_succ_cons,Ck,not_or] at h1;simp only[idxN];rw[Aq (fun e=>h1.1 e.symm),je8 (l:=r) (i:=i) (by simpa using h) h1.2 (by simpa using hp)]
def zH9 (l:List Int) (n:Int):Int:=if n∈l then idxN n l else -1
theorem qp6 (l:List Int) (n:Int) (hl:l.length<4611686018427387904):Sp 174 [vIs l,vI n] [] (vI (zH9 l n)) []:=by
 refine sIr qg7 fun e _ hst=>?_;unfold wz;refine sW ?_;refine qy mixm (α:=Nat) [8] (fun i=>i≤l.length∧(n∉l.take i)) (fun i=>[(8,vI i)]) (fun i=>[]) (fun i=>l.length-i) 0 ⟨oM,?_⟩ ?_ fun i hi=>?_
 ·simp
 ·exact .oA [] []
 simp only[tZ,↓un_u,simprocAttr,AZ,Ay];refine⟨fun h=>?_,fun h=>?_⟩
 ·have hi2:i<l.length:=by omega
  have hwi:=qh (i:=i) oM;simp only[tZ,↓un_u,simprocAttr,Ax,qd hi2,hwi,AY,Ak];refine⟨oM,fun h3=>?_,fun h3=>⟨i+1,⟨oM,?_⟩,oM,?_⟩⟩
  ·have hm:n∈l:=by rw[h3];exact AX hi2
   rw[zH9,Aj hm,je8 hi2 hi.2 h3.symm];exact .imR rfl rfl
  ·rw[qZ hi2,Dz];rintro (h4 | h4)
   ·exact hi.2 h4
   ·simp at h4;exact h3 h4
  ·exact .oA [] []
 ·have h2:i=l.length:=by omega
  have h3:=hi.2;rw[h2,Bw] at h3;rw[zH9,Aq h3];exact .imR rfl rfl
theorem Qu (l:List Int) (n:Int) (hl:l.length<4611686018427387904):Sp 105 [vIs l,vI n] [] (vB (l.contains n)) []:=by
 refine sIr WQ fun e _ hst=>?_;unfold ke;refine sW ?_;refine C1.im (qp6 l n hl) rfl rF ?_;refine sW ?_;refine .imR ?_ rfl;unfold zH9;by_cases h:n∈l
 ·rw[Aj h,FJ.2 h];simp
 ·rw[Aq h];cases hc:l.contains n
  ·simp
  ·exact absurd (FJ.1 hc) h
def kiI (s:Sch) (c:Int):Int:=if c<0∨c≥s.cols.length then 0 else (qg s c.toNat).kind
theorem jx2 {s:Sch} {c k:Int} (hk:k≠0):(kiI s c==k)=isB s c k:=by
 rw[Bool.eq_iff_iff,AY,zF,kiI];split
 ·constructor
  ·intro h;omega
  ·intro h;omega
 ·constructor
  ·intro h;exact⟨oM,oM,h⟩
  ·intro h;exact h.2.2
theorem zq5 {s:Sch} {c k:Int} (hk:k≠0):isB s c k=false↔kiI s c≠k:=by rw[← jx2 hk,Ak]
theorem jC9 {s:Sch} {c k:Int} (hk:k≠0):isB s c k=true↔kiI s c=k:=by rw[← jx2 hk,AY]
theorem zW (s:Sch) (c:Int):Sp 243 [schT s,vI c] [] (vI (kiI s c)) []:=by
 refine sIr YK fun e _ hst=>?_;unfold kJ;refine sD ?_;refine⟨fun h=>?_,fun h=>?_⟩
 ·rw[kiI,Aj oM];exact .oA [] []
 obtain⟨i,rfl⟩:=AJ (show 0≤c by omega);have hi:i<s.cols.length:=by omega
 rw[kiI,Aq oM,Ax,qg,qk hi];simp only[tZ,↓un_u,simprocAttr,Ax,qd hi];refine⟨oM,?_⟩;exact .oA [] []
theorem empC (c:Cnd):((c.op==0)&&(c.col==0)&&(c.code==0)&&(c.lo==0)&&(c.hi==0)&&((c.kids.length:Int)==0))=JX c cnd0:=by
 rw[zb2];show _=((c.op==0)&&(c.col==0)&&(c.code==0)&&(c.lo==0)&&(c.hi==0)&&wi c.kids [])
 congr 1
 cases c.kids with
 | nil=>rfl
 | cons x r=>
   rw[wi];exact Ak.2 (by simp;omega)
theorem Jb (c:Cnd):Sp 245 [cnT c] [] (vB (JX c cnd0)) []:=by
 refine sIr qc3 fun e _ hst=>?_;unfold wh;refine sW ?_;rw[← empC];exact .oA [] []
theorem YR (x y:Pk):Sp 244 [pkT x,.ip (pkT y).cells] [] (vB (x.col==y.col)) []:=by
 refine sIr WY fun e _ hst=>?_;unfold ki;refine sW ?_;exact .oA [] []
def tabE (s:Sch) (q:Qst):Int:=if ZS s q.dims≠0 then ZS s q.dims else if q.meas≠-1∧isB s q.meas 3=false then 7 else if 0<q.terms.length∨JX q.event cnd0=false then 11 else 0
theorem qi1 (s:Sch) (hs:yZ s) (q:Qst):Sp 184 [schT s,qstT q] [] (vI (tabE s q)) []:=by
 have hT:tabE s q=if ZS s q.dims≠0 then ZS s q.dims else if q.meas≠-1∧isB s q.meas 3=false then 7 else if 0<q.terms.length∨JX q.event cnd0=false then 11 else 0:=rfl
 have hTD:ZS s q.dims≠0→tabE s q=ZS s q.dims:=fun h=>by rw[hT,Aj h]
 refine sIr qb7 fun e _ hst=>?_;unfold kY;refine sD ?_;refine⟨fun h=>?_,fun h=>?_⟩
 ·have:ZS s q.dims=1:=by rw[ZS,Aj oM]
  rw[hTD (by rw[this];simp),this];exact .oA [] []
 have hD:ZS s q.dims=jb (dimE s q.dims) q.dims.length:=by rw[ZS,Aq oM]
 generalize tabE s q=E at hT hTD ⊢
 refine qy mixm (α:=Nat) [21] (fun i=>i≤q.dims.length∧(jb (dimE s q.dims) i=0)) (fun i=>[(21,vI i)]) (fun i=>[aR 4096 2 [schT s],aR 4100 17 [qstT q]]) (fun i=>q.dims.length-i) 0 ⟨oM,?_⟩ ?_ fun i hi=>?_
 ·rfl
 ·exact .oA (U2 4096 4100) []
 simp only[tZ,↓un_u,simprocAttr,AZ,Ay];refine⟨fun h=>?_,fun h=>?_⟩
 ·have hi2:i<q.dims.length:=by omega
  have hpi:pkAt q.dims i=q.dims[i]:=by rw[pkAt,qk hi2]
  have hstep:=Zp hi.2 hi2;have hnext:=kK hi.2;have hA:dimE s q.dims i=if Qq s q.dims[i]≠0 then Qq s q.dims[i] else if isB s q.dims[i].col 2=false then 7 else if ((q.dims.take i).any fun x=>x.col==q.dims[i].col)=true then 10 else 0:=by rw[dimE,hpi]
  rw[← hD] at hstep;have hbad:dimE s q.dims i≠0→E=dimE s q.dims i:=fun h=>by rw[hTD (by rw[hstep h];exact h),hstep h]
  have hi2:i<q.dims.length:=by omega
  have hwi:=qh (i:=i) oM;simp only[tZ,↓un_u,simprocAttr,Ax,qd hi2,hwi];refine⟨oM,?_⟩;refine C1.im (zc5 s hs q.dims[i]) rF rF ?_;simp only[tZ,↓un_u,simprocAttr,Bj,Aw];refine⟨fun h3=>?_,fun h3=>?_⟩
  ·rw[Aj h3] at hA;rw[hbad (by rw[hA];exact h3),hA];exact .oA [] []
  rw[Aq (by rw[h3];simp)] at hA;refine C1.im (zW s q.dims[i].col) rF rF ?_;have hki:=zq5 (s:=s) (c:=q.dims[i].col) (k:=2) (by decide);simp only[tZ,↓un_u,simprocAttr,Bj,Aw];refine⟨fun h4=>?_,fun h4=>?_⟩
  ·rw[Aj (hki.2 h4)] at hA;rw[hbad (by rw[hA];simp),hA];exact .oA [] []
  rw[Aq (fun h=>hki.1 h h4)] at hA;have hCF:=jm (fun x=>x.col==q.dims[i].col) 244 [.ip (pkT q.dims[i]).cells] rfl (q.dims.take i) (fun x _=>YR x q.dims[i]) (by rw[Cz];omega);refine⟨oM,?_⟩;rw[Yq,qG2];refine C1.lend [24588] hCF ?_ rF rF ?_
  ·all_goals (try simp only[tL,simprocAttr,By,List.map_cons,List.map_nil,BW,Cy])
   all_goals (try (repeat' (first | exact qY | (apply zf;intro _;exact⟨rfl,rfl⟩) | (apply qj;intro _;exact⟨rfl,rfl⟩) | with_reducible apply qS | with_reducible refine qz ⟨rfl,rfl⟩ ?_ | exact qK | with_reducible apply qR | with_reducible refine qT ⟨rfl,rfl,?_⟩ ?_ | with_reducible apply Az | exact qO rfl | exact qO (by assumption) | (refine⟨⟨?_,rfl,?_,rfl,?_⟩,trivial⟩ <;> first | (simp;done) | (apply qj;intro _;exact⟨rfl,rfl⟩)) | trivial | rfl | (rw[qh oM]) | omega)))
   simp only[ltP];exact⟨rfl,by decide,rfl,qz ⟨rfl,rfl⟩ qK⟩
  simp only[tZ,↓un_u,simprocAttr,hwi];refine⟨fun h5=>?_,fun h5=>?_⟩
  ·rw[Aj h5] at hA;rw[hbad (by rw[hA];simp),hA];exact .oA [] []
  ·rw[Aq (by rw[h5];simp)] at hA;refine⟨i+1,⟨oM,by rw[hnext,hA]⟩,oM,?_⟩;exact .oA (U2 4096 4100) []
 ·have hi2:i=q.dims.length:=by omega
  subst hi2;rw[← hD] at hi;rw[Aq (by rw[hi.2];simp)] at hT;have hk:=zW s q.meas;refine C2.im (fun _=>hk) (fun _=>rfl) rF ?_;have hki:=zq5 (s:=s) (c:=q.meas) (k:=3) (by decide);simp only[tZ,↓un_u,simprocAttr,tD,Bj,Aw];refine⟨fun h5=>?_,fun h5=>?_⟩
  ·rw[Aj (by grind)] at hT;rw[hT];exact .oA [] []
  rw[Aq (by grind)] at hT;refine C2.im (fun _=>Jb q.event) (fun _=>rfl) rF ?_;simp only[tZ,↓un_u,simprocAttr,tD,gt_iff_lt,Bx,Bz];refine⟨fun h6=>?_,fun h6=>?_⟩
  ·rw[Aj (by grind)] at hT;rw[hT];exact .oA [] []
  ·rw[Aq (by grind)] at hT;rw[hT];exact .oA [] []
def modE (s:Sch) (q:Qst):Int:=if isB s q.meas 3=false then 7 else if wj s q.meas q.terms≠0 then wj s q.meas q.terms else if 0<q.dims.length∨JX q.event cnd0=false then 11 else 0
theorem qi2 (s:Sch) (q:Qst):Sp 185 [schT s,qstT q] [] (vI (modE s q)) []:=by
 have hT:modE s q=if isB s q.meas 3=false then 7 else if wj s q.meas q.terms≠0 then wj s q.meas q.terms else if 0<q.dims.length∨JX q.event cnd0=false then 11 else 0:=rfl
 generalize modE s q=E at hT ⊢
 have hki:=zq5 (s:=s) (c:=q.meas) (k:=3) (by decide);refine sIr qb9 fun e _ hst=>?_;unfold kZ;refine sW ?_;refine C1.im (zW s q.meas) rF rF ?_;simp only[tZ,↓un_u,simprocAttr,tD,Bj,Aw];refine⟨fun h=>?_,fun h=>?_⟩
 ·rw[Aj (hki.2 h)] at hT;rw[hT];exact .oA [] []
 rw[Aq (fun k=>hki.1 k h)] at hT;refine⟨fun h2=>?_,fun h2=>?_⟩
 ·have:wj s q.meas q.terms=1:=by rw[wj,Aj oM]
  rw[this,Aj sMp] at hT;rw[hT];exact .oA [] []
 have hD:wj s q.meas q.terms=jb (qJ9 s q.meas q.terms) q.terms.length:=by rw[wj,Aq oM]
 have hTD:wj s q.meas q.terms≠0→E=wj s q.meas q.terms:=fun h=>by rw[hT,Aj h]
 refine qy mixm (α:=Nat) [27] (fun i=>i≤q.terms.length∧(jb (qJ9 s q.meas q.terms) i=0)) (fun i=>[(27,vI i)]) (fun i=>[aR 4096 2 [schT s],aR 4100 17 [qstT q]]) (fun i=>q.terms.length-i) 0 ⟨oM,?_⟩ ?_ fun i hi=>?_
 ·rfl
 ·exact .oA (U2 4096 4100) []
 simp only[tZ,↓un_u,simprocAttr,AZ,Ay];refine⟨fun h=>?_,fun h=>?_⟩
 ·have hi2:i<q.terms.length:=by omega
  have hpi:q.terms.getD i 0=q.terms[i]:=qk hi2;have hstep:=Zp hi.2 hi2;have hnext:=kK hi.2;have hA:qJ9 s q.meas q.terms i=if isB s q.terms[i] 3=false then 7 else if q.terms[i]=q.meas∨(q.terms.take i).contains q.terms[i]=true then 10 else 0:=by rw[qJ9,hpi]
  rw[← hD] at hstep;have hbad:qJ9 s q.meas q.terms i≠0→E=qJ9 s q.meas q.terms i:=fun h=>by rw[hTD (by rw[hstep h];exact h),hstep h]
  have hi2:i<q.terms.length:=by omega
  have hwi:=qh (i:=i) oM;simp only[tZ,↓un_u,simprocAttr,Ax,qd hi2,hwi];refine⟨oM,?_⟩;refine C1.im (zW s q.terms[i]) rF rF ?_;have hki:=zq5 (s:=s) (c:=q.terms[i]) (k:=3) (by decide);simp only[tZ,↓un_u,simprocAttr,Bj,Aw];refine⟨fun h4=>?_,fun h4=>?_⟩
  ·rw[Aj (hki.2 h4)] at hA;rw[hbad (by rw[hA];simp),hA];exact .oA [] []
  rw[Aq (fun h=>hki.1 h h4)] at hA;have hCF:=Qu (q.terms.take i) q.terms[i] (by rw[Cz];omega);refine⟨fun _=>by omega,?_⟩;rw[Yq,qG2];refine C2.im (fun _=>hCF) (fun _=>rfl) rF ?_;simp only[tZ,↓un_u,simprocAttr,hwi,tD,AY,Ak];refine⟨fun h5=>?_,fun h5=>?_⟩
  ·rw[Aj h5] at hA;rw[hbad (by rw[hA];simp),hA];exact .oA [] []
  ·rw[Aq (by grind)] at hA;refine⟨i+1,⟨oM,by rw[hnext,hA]⟩,oM,?_⟩;exact .oA (U2 4096 4100) []
 ·have hi2:i=q.terms.length:=by omega
  subst hi2;rw[← hD] at hi;rw[Aq (by rw[hi.2];simp)] at hT;refine C2.im (fun _=>Jb q.event) (fun _=>rfl) rF ?_;simp only[tZ,↓un_u,simprocAttr,tD,gt_iff_lt,Bx,Bz];refine⟨fun h6=>?_,fun h6=>?_⟩
  ·rw[Aj (by grind)] at hT;rw[hT];exact .oA [] []
  ·rw[Aq (by grind)] at hT;rw[hT];exact .oA [] []
def curE (s:Sch) (q:Qst):Int:=if isB s q.meas 3=false then 7 else if (qg s q.meas.toNat).low<0 then 2 else if chkC s q.event≠0 then chkC s q.event else if 0<q.dims.length∨0<q.terms.length then 11 else 0
theorem qi3 (s:Sch) (hs:yZ s) (q:Qst):Sp 186 [schT s,qstT q] [] (vI (curE s q)) []:=by
 have hki:=zq5 (s:=s) (c:=q.meas) (k:=3) (by decide);refine sIr qc1 fun e _ hst=>?_;unfold wg;refine sW ?_;refine C1.im (zW s q.meas) rF rF ?_;simp only[tZ,↓un_u,simprocAttr,tD,Bj,Aw];refine⟨fun h=>?_,fun h=>?_⟩
 ·rw[curE,Aj (hki.2 h)];exact .oA [] []
 rw[curE,Aq (fun k=>hki.1 k h)];obtain⟨b1,b2,b3⟩:=zF.1 ((jC9 (by decide)).2 h);have hil:q.meas.toNat<s.cols.length:=by omega
 rw[qg,qk hil];simp only[tZ,↓un_u,simprocAttr,qd hil,tD];refine⟨oM,fun h4=>?_,fun h4=>?_⟩
 ·rw[Aj h4];exact .oA [] []
 rw[Aq h4];refine C1.im (kO s hs q.event) rF rF ?_;simp only[tZ,↓un_u,simprocAttr,Bj,Aw];refine⟨fun h5=>?_,fun h5=>?_⟩
 ·rw[Aj h5];exact .oA [] []
 rw[Aq (by rw[h5];simp)];simp only[tZ,↓un_u,simprocAttr,tD,gt_iff_lt];refine⟨fun h6=>?_,fun h6=>?_⟩
 ·rw[Aj oM];exact .oA [] []
 ·rw[Aq oM];exact .oA [] []
theorem yE (s:Sch) (hs:yZ s) (q:Qst):Sp 121 [schT s,qstT q] [] (vI (qstE s q)) []:=by
 refine sIr KY fun e _ hst=>?_;unfold jM;refine sW ?_;refine C1.im (jX s hs.2.1 hs.1) rF rF ?_;simp only[tZ,↓un_u,simprocAttr,Bj,Aw];refine⟨fun h=>?_,fun h=>?_⟩
 ·rw[qstE,Aj h];exact .oA [] []
 rw[qstE,Aq (by rw[h];simp)];refine C1.im (wK q.name) rF rF ?_;simp only[tZ,↓un_u,simprocAttr,tD,Bx,Bz];refine⟨fun h2=>?_,fun h2=>?_⟩
 ·rw[Aj h2];exact .oA [] []
 rw[Aq (by rw[h2];simp)];refine⟨fun h3=>?_,fun h3=>?_⟩
 ·rw[Aj oM];exact .oA [] []
 rw[Aq oM];refine C1.im (kO s hs q.filt) rF rF ?_;simp only[tZ,↓un_u,simprocAttr,Bj,Aw,AY,Ak];refine⟨fun h4=>?_,fun h4=>?_⟩
 ·rw[Aj h4];exact .oA [] []
 rw[Aq (by rw[h4];simp)];refine⟨fun h5=>?_,fun h5=>⟨fun h6=>?_,fun h6=>?_⟩⟩
 ·refine C1.im (qi1 s hs q) rF rF ?_;rw[show (if kU s q≠0 then kU s q else if (q.kind≠1∧0<q.dims.length)∨(q.kind≠2∧0<q.terms.length)∨(q.kind≠3∧JX q.event cnd0=false) then 11 else 0)=tabE s q by
   rw[kU,Aj h5,tabE]
   grind]
  refine sW ?_;exact .oA [] []
 ·refine C1.im (qi2 s q) rF rF ?_;rw[show (if kU s q≠0 then kU s q else if (q.kind≠1∧0<q.dims.length)∨(q.kind≠2∧0<q.terms.length)∨(q.kind≠3∧JX q.event cnd0=false) then 11 else 0)=modE s q by
   rw[kU,Aq h5,Aj h6,modE]
   grind]
  refine sW ?_;exact .oA [] []
 ·refine C1.im (qi3 s hs q) rF rF ?_;rw[show (if kU s q≠0 then kU s q else if (q.kind≠1∧0<q.dims.length)∨(q.kind≠2∧0<q.terms.length)∨(q.kind≠3∧JX q.event cnd0=false) then 11 else 0)=curE s q by
   rw[kU,Aq h5,Aq h6,curE]
   grind]
  refine sW ?_;exact .oA [] []
def usB (q:Qst) (k:Int):Bool:=decide (k>0)&&zo4 q k
theorem wq (q:Qst) (k:Int) (ht:q.terms.length<4611686018427387904):Sp 135 [qstT q,vI k] [] (vB (usB q k)) []:=by
 refine sIr qs4 fun e _ hst=>?_;unfold yO;refine sW ?_;refine C2.im (fun _=>Qu q.terms k ht) (fun _=>rfl) rF ?_;refine sW ?_;rw[show (decide (k>0)&&((q.meas==k)||q.terms.contains k))=usB q k from rfl];exact .oA [] []
def cnsL (q:Qst):List Cnd:=if q.kind=3 then [q.filt,q.event] else [q.filt]
theorem Kz (q:Qst):Sp 137 [qstT q] [] (vCs (cnsL q)) []:=by
 refine sIr qm0 fun e _ hst=>?_;unfold ye;simp only[tZ,↓un_u,simprocAttr,AY,Ak];refine⟨fun h=>?_,fun h=>?_⟩
 ·rw[cnsL,Aj h];show yA [] _ _ (.sl 6 [cndT q.filt,cndT q.event]) [];rw[zp,zp];exact .oA [] [12304]
 ·rw[cnsL,Aq h];show yA [] _ _ (.sl 6 [cndT q.filt]) [];rw[zp];exact .oA [] [16392]
def canB (s:Sch) (c v:Int):Bool:=decide (1≤c)&&decide (c<s.cols.length)&&qV s c.toNat v
def jT (s:Sch) (q:Qst) (k a b:Int):Bool:=(usB q k&&(a != b))||(q.dims.any fun d=>(d.col==k)&&(qt s k d.lev a != qt s k d.lev b))||((cnsL q).any fun c=>(atsC c).any fun x=>(x.col==k)&&(zl s x a != zl s x b))
def mxl:List Pk→Int→Int
 | [],_=>0
 | p::r,k=>if p.col=k then max p.lev (mxl r k) else mxl r k
theorem Jc:∀ (l:List Pk) (k:Int),0≤mxl l k
 | [],_=>Int.le_refl _
 | p::r,k=>by
   have:=Jc r k;rw[mxl];split <;> omega
theorem zc9:∀ (a b:List Pk) (k:Int),mxl (a++b) k=max (mxl a k) (mxl b k)
 | [],b,k=>by
   have:=Jc b k;rw[Cy,mxl];omega
 | p::r,b,k=>by
   have:=zc9 r b k;rw[BW,mxl,mxl,this];split <;> omega
theorem jo9 (l:List Pk) (p:Pk) (k:Int):mxl (l++[p]) k=if p.col=k then max (mxl l k) p.lev else mxl l k:=by
 have:=Jc l k;rw[zc9,mxl,mxl];split <;> omega
theorem Jr:∀ {l:List Pk} {k:Int},(∀ p∈l,p.col≠k)→mxl l k=0
 | [],_,_=>rfl
 | p::r,k,h=>by
   rw[mxl,Aq (h p sMp),Jr fun x hx=>h x (CQ _ hx)]
theorem qC4 {f:Nat→Int} (hf:∀ k,0≤f k):∀ {n:Nat} (k:Nat),mxl (canF f n) k=if k<n then f k else 0
 | 0,k=>by rw[Aq oM];rfl
 | n+1,k=>by
   have ih:=qC4 hf (n:=n) k;have hk:=hf k;have hn:=hf n;rw[canF,zc9,ih];by_cases e:n=k
   ·subst e;rw[Aq (show ¬ n<n by omega),Aj (show n<n+1 by omega)];split
    ·have:mxl [(⟨(n:Nat),f n⟩:Pk)] n=max (f n) 0:=by rw[mxl,Aj rfl];rfl
     rw[this];omega
    ·rw[mxl];omega
   ·have h0:mxl (if 0<f n then [(⟨n,f n⟩:Pk)] else []) k=0:=Jr fun p hp=>by
     split at hp
     ·rw[EZ.1 hp];dsimp only;omega
     ·simp at hp
    rw[h0];by_cases h:k<n
    ·rw[Aj h,Aj oM];omega
    ·rw[Aq h,Aq oM];omega
theorem qv3 {n:Nat}:∀ (l:List Pk) {f:Nat→Int},(∀ k,0≤f k)→(∀ p∈l,0≤p.col∧p.col<n)→JY (canF f n) l=canF (fun k=>max (f k) (mxl l k)) n
 | [],f,hf,_=>by
   show canF f n=_;exact Ky fun k _=>by have:=hf k;rw[mxl];omega
 | p::r,f,hf,h=>by
   obtain⟨h1,h2⟩:=h p sMp;obtain⟨c,hc⟩:=AJ h1;have e:JY (canF f n) (p::r)=JY (qc4 (canF f n) p.col p.lev) r:=rfl;rw[e,hc,qV6 hf oM,qv3 r (fun k=>by have:=hf k;unfold upd;split <;> omega) fun x hx=>h x (CQ _ hx)];refine Ky fun k _=>?_;have:=hf k;have h3:=Jc r k;unfold upd;rw[mxl,hc];by_cases e:k=c
   ·subst e;rw[Aj rfl,Aj rfl];omega
   ·rw[Aq e,Aq oM]
theorem zM3 (n:Nat):canF (fun _=>0) n=[]:=qL1 fun _ _=>Int.le_refl _
theorem zq6 {n:Nat} {l:List Pk} (h:∀ p∈l,0≤p.col∧p.col<n):JY [] l=canF (fun k=>mxl l k) n:=by
 rw[← zM3 n,qv3 l (fun _=>Int.le_refl _) h];exact Ky fun k _=>by have:=Jc l k;omega
theorem qp7 (a l m:List Pk):JY a (l++m)=JY (JY a l) m:=Gq
theorem zq7 {α:Type} (f:α→Pk) (m:List α):∀ l,JY l (m.map f)=m.foldl (fun l x=>qc4 l (f x).col (f x).lev) l:=by
 induction m with
 | nil=>intro l;rfl
 | cons x r ih=>intro l;exact ih _
def atP (s:Sch) (c:Cnd):List Pk:=(atsC c).map fun a=>⟨a.col,decN s a⟩
theorem zw6 {s:Sch} {c:Cnd} (h:chkC s c=0):jR s c=JY [] (atP s c):=by
 rw[jR,Aq (by rw[h];simp),atP,zq7]
theorem KA {s:Sch} {c:Cnd} (h:chkC s c=0):jR s c=canF (fun k=>mxl (atP s c) k) s.cols.length∧∀ p∈atP s c,1≤p.col∧p.col<s.cols.length:=by
 obtain⟨hE,k2,k3,k4⟩:=Wp h;have hb:∀ p∈atP s c,1≤p.col∧p.col<s.cols.length:=fun p hp=>by
  obtain⟨a,ha,rfl⟩:=Cj.1 hp;obtain⟨hnd,hia⟩:=qx2 c k4 a ha;obtain⟨n1,n2,n3⟩:=qo4 hE hnd hia;obtain⟨_,c1,c2,_⟩:=ZT (s:=s) (c:=a.col) oM;exact⟨c1,c2⟩
 refine⟨?_,hb⟩;rw[zw6 h];exact zq6 fun p hp=>by have:=hb p hp;omega
theorem jp0 {s:Sch} {c:Cnd} (h:chkC s c=0):∀ p∈jR s c,1≤p.col∧p.col<s.cols.length:=fun p hp=>by
 obtain⟨h1,h2⟩:=KA h;rw[h1,yr] at hp;obtain⟨k,k1,k2,rfl⟩:=hp;refine⟨?_,by dsimp only;omega⟩;dsimp only;by_cases e:k=0
 ·subst e;rw[Jr fun q hq=>by have:=h2 q hq;omega] at k2;omega
 ·omega
theorem je9 {s:Sch} {c:Cnd} (h:chkC s c=0) (k:Nat):mxl (jR s c) k=mxl (atP s c) k:=by
 obtain⟨h1,h2⟩:=KA h;rw[h1,qC4 fun k=>Jc _ _];split
 ·rfl
 ·exact (Jr fun q hq=>by have:=h2 q hq;omega).symm
def dmP (s:Sch) (q:Qst):List Pk:=q.dims.map fun d=>⟨d.col,wl s d.col d.lev⟩
def usP (s:Sch) (q:Qst) (n:Nat):List Pk:=((List.range n).filter fun k:Nat=>usB q k).map fun k:Nat=>⟨k,wl s k (finI s k)⟩
theorem zd0 (s:Sch) (q:Qst) (n:Nat):usP s q (n+1)=usP s q n++if usB q n=true then [⟨n,wl s n (finI s n)⟩] else []:=by
 rw[usP,List.range_succ,Gz,By,← usP]
 congr 1
 by_cases h:usB q n=true
 ·rw[Aj h,List.filter_cons_of_pos (p:=fun k:Nat=>usB q k) h];rfl
 ·rw[Aq h,List.filter_cons_of_neg (p:=fun k:Nat=>usB q k) h];rfl
theorem zI0 (s:Sch) (q:Qst) (l:List Pk):∀ n:Nat,(List.range n).foldl (qx4 s q) l=JY l (usP s q (n+1))
 | 0=>by
   show l=_;have h0:usB q (0:Nat)=false:=by simp [usB]
   rw[zd0,h0,Aq sMp];rfl
 | n+1=>by
   rw[List.range_succ,Gq,zI0 s q l n,zd0 _ _ (n+1),qp7];show qx4 s q _ n=_;have h:usB q ((n+1:Nat):Int)=zo4 q ((n:Int)+1):=by
    unfold usB;rw[Cx oM,Fj];rfl
   rw[qx4,h];split <;> rfl
def evP (s:Sch) (q:Qst):List Pk:=if q.kind=3 then jR s q.event else []
theorem zw7 {s:Sch} {q:Qst} (h:qstE s q=0):kM s q=JY (jR s q.filt) (evP s q++dmP s q++usP s q s.cols.length):=by
 have hq:=ZU h;have hnc:=(zc hq.sch).nc;rw[kM,Aq (by rw[h];simp),jB8,zI0,show s.cols.length-1+1=s.cols.length by omega,qp7,qp7,dmP,zq7,evP]
 congr 2
 split <;> rfl
theorem WH (s:Sch) (hok:SchOk s) (q:Qst) (hd:q.dims.length≤3) (ht:q.terms.length≤3) (hc:∀ c∈cnsL q,chkC s c=0) (k a b:Int):Sp 141 [schT s,qstT q,vI k,vI a,vI b] [] (vB (jT s q k a b)) []:=by
 have hs:=hok.sm;have hT:jT s q k a b=((usB q k&&(a != b))||(q.dims.any fun d=>(d.col==k)&&(qt s k d.lev a != qt s k d.lev b))||((cnsL q).any fun c=>(atsC c).any fun x=>(x.col==k)&&(zl s x a != zl s x b))):=rfl;have hcl:(cnsL q).length≤2:=by unfold cnsL;split <;> simp
 rw[hT];refine sIr qs6 fun e _ hst=>?_;unfold yP;refine sW ?_;refine C1.im (wq q k oM) rF rF ?_;refine sW ?_;generalize (usB q k&&(a != b))=U;refine⟨fun h=>?_,fun h=>?_⟩
 ·rw[h];exact .oA [] []
 rw[h,Bool.false_or];refine qy mixm (α:=Nat) [28] (fun i=>i≤q.dims.length∧((q.dims.take i).any fun d=>(d.col==k)&&(qt s k d.lev a != qt s k d.lev b))=false) (fun i=>[(28,vI i)]) (fun i=>[aR 4096 2 [schT s],aR 4100 17 [qstT q]]) (fun i=>q.dims.length-i) 0 ⟨oM,rfl⟩ ?_ fun i hi=>?_
 ·exact .oA (U2 4096 4100) []
 refine sD ?_;refine⟨fun h3=>?_,fun h3=>?_⟩
 ·have hi2:i<q.dims.length:=by omega
  have hwi:=qh (i:=i) oM;simp only[tZ,↓un_u,simprocAttr,Ax,qd hi2];refine⟨oM,?_⟩;have hC:=fun v=>ZZ s hs k q.dims[i].lev v;refine C2.im (fun _=>hC a) (fun _=>rfl) rF ?_;refine sW ?_;refine C2.im (fun _=>hC b) (fun _=>rfl) rF ?_;simp only[tZ,↓un_u,simprocAttr,hwi]
  repeat (first | refine⟨oM,?_⟩ | refine⟨kR,?_⟩)
  refine⟨fun h4=>?_,fun h4=>?_⟩
  ·rw[WC hi2 h4,Bool.true_or];exact .oA [] []
  ·refine⟨i+1,⟨oM,zR hi2 hi.2 h4⟩,oM,?_⟩;exact .oA (U2 4096 4100) []
 ·have hil:i=q.dims.length:=by omega
  subst hil;have hi2:=hi.2;rw[Bw] at hi2;rw[hi2,Bool.false_or];refine C1.im (Kz q) rF rF ?_;generalize cnsL q=L at hc hcl ⊢
  refine sW ?_;refine qy mixm (α:=Nat) [55] (fun i=>i≤L.length∧((L.take i).any fun c=>(atsC c).any fun x=>(x.col==k)&&(zl s x a != zl s x b))=false) (fun i=>[(55,vI i)]) (fun i=>[aR 4096 2 [schT s]]) (fun i=>L.length-i) 0 ⟨oM,rfl⟩ ?_ fun i hi=>?_
  ·exact .oA (U1 4096) []
  refine sD ?_;refine⟨fun h4=>?_,fun h4=>?_⟩
  ·have hi2:i<L.length:=by omega
   have hwi:=qh (i:=i) oM;obtain⟨_,k2,_,k4⟩:=Wp (hc _ (AX hi2));have hal:=QV L[i] 41 oM k2;have hao:=qx2 L[i] k4;have hhit:(((atsC L[i]).any fun x=>(x.col==k)&&(zl s x a != zl s x b))=true)→(L.any fun c=>(atsC c).any fun x=>(x.col==k)&&(zl s x a != zl s x b))=true:=fun h=>WC hi2 h;have hgo:(((atsC L[i]).any fun x=>(x.col==k)&&(zl s x a != zl s x b))=false)→((L.take (i+1)).any fun c=>(atsC c).any fun x=>(x.col==k)&&(zl s x a != zl s x b))=false:=fun h=>zR hi2 hi.2 h;simp only[tZ,↓un_u,simprocAttr,Ax,qd hi2,zp];refine⟨oM,?_⟩;refine C1.im (kP L[i] 41 oM oM k2) rF rF ?_;generalize atsC L[i]=A at hal hao hhit hgo ⊢
   refine sW ?_;refine qy mixm (α:=Nat) [62] (fun j=>j≤A.length∧((A.take j).any fun x=>(x.col==k)&&(zl s x a != zl s x b))=false) (fun j=>[(62,vI j)]) (fun j=>[aR 4096 2 [schT s]]) (fun j=>A.length-j) 0 ⟨oM,rfl⟩ ?_ fun j hj=>?_
   ·exact .oA (U1 4096) []
   refine sD ?_;refine⟨fun h5=>?_,fun h5=>?_⟩
   ·have hj2:j<A.length:=by omega
    have hwj:=qh (i:=j) oM;obtain⟨hnd,ha⟩:=hao _ (AX hj2);have hAt:=WF s hok A[j] hnd ha;simp only[tZ,↓un_u,simprocAttr,Ax,qd hj2,zp];refine⟨oM,?_⟩;refine C2.im (fun _=>hAt a) (fun _=>rfl) rF ?_;refine sW ?_;refine C2.im (fun _=>hAt b) (fun _=>rfl) rF ?_;simp only[tZ,↓un_u,simprocAttr,hwj]
    repeat (first | refine⟨oM,?_⟩ | refine⟨kR,?_⟩)
    refine⟨fun h6=>?_,fun h6=>?_⟩
    ·rw[hhit (WC hj2 h6)];exact .oA [] []
    ·refine⟨j+1,⟨oM,zR hj2 hj.2 h6⟩,oM,?_⟩;exact .oA (U1 4096) []
   ·have hjl:j=A.length:=by omega
    subst hjl;have hj2:=hj.2;rw[Bw] at hj2;simp only[tZ,↓un_u,simprocAttr,hwi];refine⟨i+1,⟨oM,hgo hj2⟩,oM,?_⟩;exact .oA (U1 4096) []
  ·have hil:i=L.length:=by omega
   subst hil;have hi2:=hi.2;rw[Bw] at hi2;rw[hi2];exact .oA [] []
def qp8 (s:Sch) (q:Qst) (k a b:Int):Bool:=(qstE s q==0)&&canB s k a&&canB s k b&&jT s q k a b
def mxc:List Pk→Int
 | []=>0
 | p::r=>max p.col (mxc r)
theorem jf0:∀ l:List Pk,0≤mxc l
 | []=>Int.le_refl _
 | p::r=>by have:=jf0 r;rw[mxc];omega
theorem zI1:∀ (l:List Pk) (p:Pk),mxc (l++[p])=max (mxc l) p.col
 | [],p=>by show max p.col 0=max 0 p.col;omega
 | q::r,p=>by rw[BW,mxc,mxc,zI1 r p];omega
theorem jx3 {n:Int} (hn:0≤n):∀ {l:List Pk},(∀ p∈l,p.col≤n)→mxc l≤n
 | [],_=>hn
 | p::r,h=>by
   have h1:=h p sMp;have h2:=jx3 hn (l:=r) fun q hq=>h q (CQ _ hq);rw[mxc];omega
theorem jx4:∀ {l:List Pk} {p:Pk},p∈l→p.col≤mxc l
 | q::r,p,h=>by
   rw[mxc];rcases Ck.1 h with e | h
   ·rw[e];omega
   ·have:=jx4 h;omega
theorem KB (ls:List (List Pk)) (n:Nat) (h1:1≤n) (h2:n≤1000) (hls:ls.length≤1000) (hl:∀ l∈ls,l.length≤1000) (hb:∀ l∈ls,∀ p∈l,0≤p.col∧p.col<n) :
 Sp 124 [.sl 1 (ls.map vPs)] [] (vPs (canF (fun k=>mxl ls.flatten k) n)) []:=by
 refine sIr ql8 fun e _ hst=>?_;unfold yd;refine sW ?_;refine qy mixm (α:=Nat×List (Int×Int)) [4,14] (fun y=>y.1≤ls.length∧∀ k,(TL.look TL.eqI k y.2).getD 0=mxl (ls.take y.1).flatten k) (fun y=>[(4,vI (mxc (ls.take y.1).flatten)),(14,vI y.1)]) (fun y=>[(8192,.mp (.ii y.2))]) (fun y=>ls.length-y.1) (0,[]) ⟨sMp,fun k=>rfl⟩ ?_ fun y hy=>?_
 ·exact .oA (U1 8192) []
 obtain⟨i,M⟩:=y;obtain⟨y1,y2⟩:=hy;dsimp only at y1 y2;refine sD ?_;refine⟨fun h=>?_,fun h=>?_⟩
 ·have hi:i<ls.length:=by omega
  have hwi:=qh (i:=i) oM;have hll:=hl _ (AX hi);have hbb:=hb _ (AX hi);have hfl:(ls.take (i+1)).flatten=(ls.take i).flatten++ls[i]:=by rw[qZ hi,List.flatten_append];simp
  generalize (ls.take i).flatten=A at y2 hfl ⊢
  simp only[tZ,↓un_u,simprocAttr,Ax,qd hi];refine⟨oM,?_⟩;generalize ls[i]=l at hll hbb hfl ⊢
  refine qy mixm (α:=Nat×List (Int×Int)) [4,20] (fun y=>y.1≤l.length∧∀ k,(TL.look TL.eqI k y.2).getD 0=mxl (A++l.take y.1) k) (fun y=>[(4,vI (mxc (A++l.take y.1))),(20,vI y.1)]) (fun y=>[(8192,.mp (.ii y.2))]) (fun y=>l.length-y.1) (0,M) ⟨sMp,fun k=>by rw[List.take_zero,CW];exact y2 k⟩ ?_ fun y hy=>?_
  ·refine .of (U1 8192) [] rfl (by first | rfl | (rw[hst];rfl)) ?_ ?_
   all_goals (try simp only[tL,simprocAttr,By,List.map_cons,List.map_nil,BW,Cy,List.take_zero,CW])
   all_goals (try (repeat' (first | exact qY | (apply zf;intro _;exact⟨rfl,rfl⟩) | (apply qj;intro _;exact⟨rfl,rfl⟩) | with_reducible apply qS | with_reducible refine qz ⟨rfl,rfl⟩ ?_ | exact qK | with_reducible apply qR | with_reducible refine qT ⟨rfl,rfl,?_⟩ ?_ | with_reducible apply Az | exact qO rfl | exact qO (by assumption) | (refine⟨⟨?_,rfl,?_,rfl,?_⟩,trivial⟩ <;> first | (simp;done) | (apply qj;intro _;exact⟨rfl,rfl⟩)) | trivial | rfl | (rw[qh oM]) | omega)))
  obtain⟨j,N⟩:=y;obtain⟨z1,z2⟩:=hy;dsimp only at z1 z2;refine sD ?_;refine⟨fun h5=>?_,fun h5=>?_⟩
  ·have hj:j<l.length:=by omega
   have hwj:=qh (i:=j) oM;have hts:A++l.take (j+1)=A++l.take j++[l[j]]:=by rw[qZ hj,Dj]
   have hnew:∀ k,(TL.look TL.eqI k (TL.asg TL.eqI l[j].col (max (mxl (A++l.take j) l[j].col) l[j].lev) N)).getD 0=mxl (A++l.take (j+1)) k:=fun k=>by
    rw[qp4,hts,jo9];by_cases e:k=l[j].col
    ·subst e;rw[Aj rfl,Aj rfl];rfl
    ·rw[Aq e,Aq (fun h=>e h.symm)];exact z2 k
   have hx:=zI1 (A++l.take j) l[j];rw[← hts] at hx;have hz:=z2 l[j].col;simp only[tZ,↓un_u,simprocAttr,Ax,qd hj,hwj,zH7,hz,← hx];refine⟨oM,kR,?_⟩;refine⟨(j+1,_),⟨by dsimp only;omega,hnew⟩,by dsimp only;omega,?_⟩;exact .oA (U1 8192) []
  ·have hjl:j=l.length:=by omega
   subst hjl;rw[Bw,← hfl] at z2 ⊢
   simp only[tZ,↓un_u,simprocAttr,hwi];refine⟨(i+1,N),⟨by dsimp only;omega,z2⟩,by dsimp only;omega,?_⟩;exact .oA (U1 8192) []
 ·have hil:i=ls.length:=by omega
  subst hil;rw[Bw] at y2 ⊢
  have hbf:∀ p∈ls.flatten,0≤p.col∧p.col<n:=fun p hp=>by
   obtain⟨l,hl,hpl⟩:=List.mem_flatten.1 hp;exact hb l hl p hpl
  have hml:=jx3 (n:=n-1) oM (l:=ls.flatten) fun p hp=>by have:=hbf p hp;omega
  have hmp:=jf0 ls.flatten;have hmore:canF (fun k=>mxl ls.flatten k) n=canF (fun k=>mxl ls.flatten k) ((mxc ls.flatten).toNat+1):=by
   rw[show n=(mxc ls.flatten).toNat+1+(n-((mxc ls.flatten).toNat+1)) by omega,zq4];intro k hk _;rw[Jr fun p hp=>by have:=jx4 hp;omega];exact Int.le_refl _
  rw[hmore];obtain⟨c,hc⟩:=AJ hmp;rw[hc,Ax];have hwc:=qh (i:=c) oM;rw[hwc];generalize ls.flatten=A at y2 ⊢
  refine qy mixm (α:=Nat) [9,42] (fun k=>k≤c+1) (fun k=>[(9,.asl 1 (canF (fun k=>mxl A k) k).length),(42,vI k)]) (fun k=>[(8192,.mp (.ii M)),aR 1 2 ((canF (fun k=>mxl A k) k).map pkT)]) (fun k=>c+1-k) 0 oM ?_ fun k hk=>?_
  ·exact .oA [uI 8192,(1,none)] []
  have hcl:=zc8 (fun k=>mxl A k) k;have hcs:canF (fun k=>mxl A k) (k+1)=canF (fun k=>mxl A k) k++(if 0<mxl A k then [⟨(k:Nat),mxl A k⟩] else []):=by rw[canF]
  have hz:=y2 k;refine sD ?_;refine⟨fun h5=>?_,fun h5=>?_⟩
  ·have hwk:=qh (i:=k) oM;simp only[tZ,↓un_u,simprocAttr,hz,hwk,gt_iff_lt,tD];refine⟨fun h6=>?_,fun h6=>?_⟩
   ·rw[Aj h6] at hcs;refine⟨oM,k+1,oM,oM,?_⟩;rw[hcs,By,AW];exact .oA (U2 8192 1) []
   ·rw[Aq h6,CW] at hcs;refine⟨k+1,oM,oM,?_⟩;rw[hcs];exact .oA (U2 8192 1) []
  ·rw[show k=c+1 by omega];exact .oA [] [1]
theorem qp9 {s:Sch} {q:Qst} (hq:QstOk s q):∀ d∈q.dims,Qq s d=0∧isB s d.col 2=true:=fun d hd=>by
 by_cases h1:q.kind=1
 ·have h2:=(hq.dims h1).1;unfold ZS at h2;split at h2
  ·cases h2
  obtain⟨i,hi,rfl⟩:=CX hd;have h3:=Kw h2 i hi;have hp:pkAt q.dims i=q.dims[i]:=by rw[pkAt,qk hi]
  unfold dimE at h3;rw[hp] at h3;split at h3
  ·rename_i h4;exact absurd h3 h4
  rename_i h4;split at h3
  ·cases h3
  rename_i h5;exact⟨AQ h4,by simpa using h5⟩
 ·rw[hq.d0 h1] at hd;simp at hd
theorem qV7 {s:Sch} {q:Qst} (hq:QstOk s q):∀ c∈cnsL q,chkC s c=0:=fun c hc=>by
 unfold cnsL at hc;split at hc
 ·rename_i h;rcases Ck.1 hc with e | hc
  ·rw[e];exact hq.filt
  ·rw[EZ.1 hc];exact (hq.event h).2.2
 ·rw[EZ.1 hc];exact hq.filt
theorem zw8 {s:Sch} {q:Qst} {n:Nat} {p:Pk}:p∈usP s q n↔∃ k:Nat,k<n∧usB q k=true∧p=⟨k,wl s k (finI s k)⟩:=by
 unfold usP;simp only[Cj,Fx,Dk];constructor
 ·rintro ⟨k,⟨h1,h2⟩,rfl⟩;exact⟨k,h1,h2,rfl⟩
 ·rintro ⟨k,h1,h2,rfl⟩;exact⟨k,⟨h1,h2⟩,rfl⟩
theorem jD0 (s:Sch) (q:Qst) (n:Nat):(usP s q n).length≤n:=by
 unfold usP;rw[BY];have:=Fq (fun k:Nat=>usB q k) (List.range n);rw[List.length_range] at this;exact this
def Jd (s:Sch) (q:Qst):List Pk:=dmP s q++usP s q s.cols.length++(cnsL q).flatMap (jR s)
theorem zd1 {s:Sch} {q:Qst} (hq:QstOk s q):∀ p∈Jd s q,1≤p.col∧p.col<s.cols.length:=fun p hp=>by
 unfold Jd at hp;rcases Dz.1 hp with hp | hp
 ·rcases Dz.1 hp with hp | hp
  ·obtain⟨d,hd,rfl⟩:=Cj.1 hp;obtain⟨_,h1,h2,_⟩:=zb4 (qp9 hq d hd).1;exact⟨h1,h2⟩
  ·obtain⟨k,h1,h2,rfl⟩:=zw8.1 hp;unfold usB at h2;rw[Bq,AZ] at h2;exact⟨by dsimp only;omega,by dsimp only;omega⟩
 ·obtain⟨c,hc,hp⟩:=Ew.1 hp;exact jp0 (qV7 hq c hc) p hp
theorem KC {s:Sch} {q:Qst} (h:qstE s q=0):kM s q=canF (fun k=>mxl (Jd s q) k) s.cols.length:=by
 have hq:=ZU h;have hb:=zd1 hq;obtain⟨n1,n2⟩:=KA hq.filt;rw[zw7 h,n1,qv3 _ (fun k=>Jc _ _) fun p hp=>?_]
 ·refine Ky fun k _=>?_;rw[← je9 hq.filt k];have e:(cnsL q).flatMap (jR s)=jR s q.filt++evP s q:=by
   unfold cnsL evP;split <;> simp
  rw[Jd,e];simp only[zc9];omega
 ·have:p∈Jd s q:=by
   unfold Jd;have e:(cnsL q).flatMap (jR s)=jR s q.filt++evP s q:=by
    unfold cnsL evP;split <;> simp
   rw[e];simp only[Dz] at hp ⊢
   rcases hp with (h | h) | h
   ·exact .inr (.inr h)
   ·exact .inl (.inl h)
   ·exact .inl (.inr h)
  have:=hb p this;omega
theorem KD (s:Sch) (hs:yZ s) (q:Qst):Sp 73 [schT s,qstT q] [] (vPs (kM s q)) []:=by
 refine yI [15] ql2 mixm sMp fun e _ hst=>qr2 ?_;unfold ya;simp only[Kj,List.contains_cons,List.contains_nil,Nat.reduceBEq,Bool.or_false,Bool.or_true,Bool.true_or,Bool.false_or,cond_true,cond_false];refine sW ?_;refine C1.im (yE s hs q) rF rF ?_;simp only[tZ,↓un_u,simprocAttr,Bj,Aw];refine⟨fun h=>?_,fun h=>?_⟩
 ·rw[kM,Aj h];exact .oA [] []
 have hq:=ZU h;have hok:=zc hq.sch;have hnc:=hok.nc;have hnd:=hq.nd;have hnt:=hq.nt;have hck:=qV7 hq;have hcl:(cnsL q).length≤2:=by unfold cnsL;split <;> simp
 have hdl:(dmP s q).length=q.dims.length:=BY _;have hbd:=zd1 hq;refine qy mixm (α:=Nat) [5,19] (fun i=>i≤q.dims.length) (fun i=>[(5,.asl 1 ((dmP s q).take i).length),(19,vI i)]) (fun i=>[aR 4096 2 [schT s],aR 4100 17 [qstT q],aR 1 2 (((dmP s q).take i).map pkT)]) (fun i=>q.dims.length-i) 0 oM ?_ fun i hi=>?_
 ·exact .oA [uI 4096,uI 4100,(1,none)] []
 refine sD ?_;refine⟨fun h3=>?_,fun h3=>?_⟩
 ·have hi2:i<q.dims.length:=by omega
  have hwi:=qh (i:=i) oM;have hts:(dmP s q).take (i+1)=(dmP s q).take i++[⟨q.dims[i].col,wl s q.dims[i].col q.dims[i].lev⟩]:=by
   rw[qZ oM];simp only[dmP,Fk]
  have hLe:=qe1 s hs q.dims[i].col q.dims[i].lev;have htl:((dmP s q).take i).length≤3:=by rw[Cz];omega
  simp only[tZ,↓un_u,simprocAttr,Ax,qd hi2];refine⟨oM,?_⟩;refine C1.im hLe rF rF ?_;simp only[tZ,↓un_u,simprocAttr,hwi];refine⟨oM,kR,i+1,oM,oM,?_⟩;rw[hts,By,AW];exact .oA (U3 4096 4100 1) []
 ·have hil:i=q.dims.length:=by omega
  subst hil;rw[← hdl,Bw];refine qy mixm (α:=Nat) [5,39] (fun i=>i≤s.cols.length) (fun i=>[(5,.asl 1 (dmP s q++usP s q i).length),(39,vI i)]) (fun i=>[aR 4096 2 [schT s],aR 4100 17 [qstT q],aR 1 2 ((dmP s q++usP s q i).map pkT)]) (fun i=>s.cols.length-i) 0 oM ?_ fun i hi=>?_
  ·rw[show usP s q 0=[] from rfl,CW];exact .oA (U3 4096 4100 1) []
  have hul:=jD0 s q i;have hus:=zd0 s q i;have hoL:(dmP s q++usP s q i).length≤1000000:=by rw[AW];omega
  refine sD ?_;refine⟨fun h3=>?_,fun h3=>?_⟩
  ·have hi2:i<s.cols.length:=by omega
   have hwi:=qh (i:=i) oM;refine C1.im (wq q i oM) rF rF ?_;refine sW ?_;refine⟨fun h4=>?_,fun h4=>?_⟩
   ·rw[Aj h4] at hus;refine C1.im (yq s hs i) rF rF ?_;refine sW ?_;refine C1.im (qe1 s hs i (finI s i)) rF rF ?_;simp only[tZ,↓un_u,simprocAttr,hwi];refine⟨oM,kR,i+1,oM,oM,?_⟩;rw[hus,← Dj,By,AW (bs:=[_])];exact .oA (U3 4096 4100 1) []
   ·rw[Aq (by rw[h4];simp),CW] at hus;simp only[tZ,↓un_u,simprocAttr,hwi];refine⟨i+1,oM,oM,?_⟩;rw[hus];exact .oA (U3 4096 4100 1) []
  ·have hil:i=s.cols.length:=by omega
   subst hil;rw[KC h];unfold Jd at hbd ⊢
   have hll:(dmP s q++usP s q s.cols.length).length=(dmP s q).length+(usP s q s.cols.length).length:=AW;generalize dmP s q++usP s q s.cols.length=own at hoL hbd hll ⊢
   refine W_le [(2,.ptr 4096 1 0 0),(3,.ptr 4100 1 0 0),(5,vPs own)] [aR 4096 2 [schT s],aR 4100 17 [qstT q]] ?_ ?_
   ·exact .oA (U2 4096 4100) [1]
   refine sW ?_;refine C1.im (Kz q) rF rF ?_;generalize cnsL q=L at hck hcl hbd ⊢
   refine sW ?_;refine qy mixm (α:=Nat) [9,62] (fun i=>i≤L.length) (fun i=>[(9,.asl 65540 (i+1)),(62,vI i)]) (fun i=>[aR 4096 2 [schT s],aR 65540 1 (vPs own::(L.take i).map fun c=>vPs (jR s c))]) (fun i=>L.length-i) 0 oM ?_ fun i hi=>?_
   ·exact .oA (U2 4096 65540) []
   have htl:(L.take i).length=i:=by rw[Cz];omega
   refine sD ?_;refine⟨fun h3=>?_,fun h3=>?_⟩
   ·have hi2:i<L.length:=by omega
    have hwi:=qh (i:=i) oM;have hN:=qv2 s hs L[i];simp only[tZ,↓un_u,simprocAttr,Ax,qd hi2,zp];refine⟨oM,?_⟩;refine C1.im hN rF rF ?_;simp only[tZ,↓un_u,simprocAttr,hwi];refine⟨oM,i+1,oM,oM,?_⟩;rw[qZ hi2,By];exact .oA (U2 4096 65540) []
   ·have hil:i=L.length:=by omega
    subst hil;rw[Bw];have hfl:(own::L.map (jR s)).flatten=own++L.flatMap (jR s):=by rw[List.flatten_cons,List.flatMap_def]
    have hbb:∀ l∈own::L.map (jR s),∀ p∈l,0≤p.col∧p.col<s.cols.length:=fun l hl p hp=>by
     have:=hbd p (by rw[← hfl];exact List.mem_flatten.2 ⟨l,hl,hp⟩);omega
    have hbl:∀ l∈own::L.map (jR s),l.length≤1000:=fun l hl=>by
     rcases Ck.1 hl with e | hl
     ·rw[e];omega
     ·obtain⟨c,_,rfl⟩:=Cj.1 hl;have:=qK3 s c;omega
    have hM:=KB (own::L.map (jR s)) s.cols.length oM oM (by rw[CJ,BY];omega) hbl hbb;rw[hfl,List.map_cons,Gx] at hM;refine C1.shut [65540] hM ?_ rF rfl ?_
    ·all_goals (try exact clA)
    refine sW ?_;exact .oA [] []
theorem DrS.meas3 {s:Sch} (h:DrS s):(Ka s 3).length≤3:=by
 obtain⟨ms,hc,h1,h3⟩:=h.cs;have key:∀ n,(Wr s 3 n).length≤n-2:=by
  have e0:(qg s 0).kind=1:=by rcases hc with⟨hc,_⟩ | ⟨hc,_⟩ <;> (rw[qg,hc];rfl)
  have e1:(qg s 1).kind=2:=by rcases hc with⟨hc,_⟩ | ⟨hc,_⟩ <;> (rw[qg,hc];rfl)
  intro n
  induction n with
  | zero=>simp [Wr]
  | succ n ih=>
    rw[jW,AW];by_cases k0:n=0
    ·subst k0;rw[e0,Aq (by decide),Cw];omega
    ·by_cases k1:n=1
     ·subst k1;rw[e1,Aq (by decide),Cw];omega
     ·split <;> simp <;> omega
 rcases hc with⟨hc,hm⟩ | ⟨hc,hm⟩
 ·have:=key s.cols.length;have hl:s.cols.length=ms.length+2:=by rw[hc];rfl
  unfold Ka;omega
 ·have e2:(qg s 2).kind=2:=by rw[qg,hc];rfl
  have k2:∀ n,3≤n→(Wr s 3 n).length≤n-3:=by
   intro n hn
   induction n with
   | zero=>omega
   | succ n ih=>
     by_cases k:n=2
     ·subst k;rw[jW,e2,Aq (by decide),CW];have:=key 2;omega
     ·rw[jW,AW];have:=ih oM;split <;> simp <;> omega
  have hl:s.cols.length=ms.length+3:=by rw[hc];rfl
  have:=k2 s.cols.length oM;unfold Ka;omega
theorem jp1 {s:Sch} {m:Int} {ts:List Int} (h1:1≤ts.length) (h2:ts.length≤3) (h3:∀ v∈ts,isB s v 3=true∧v≠m) (h4:ts.Nodup):wj s m ts=0:=by
 rw[wj,Aq oM];refine YM fun i hi=>?_;have hpi:ts.getD i 0=ts[i]:=qk hi;obtain⟨a,b⟩:=h3 _ (AX hi);rw[qJ9,hpi,Aq (by rw[a];simp),Aq];rintro (k | k)
 ·exact b k
 ·obtain⟨j,hj,e⟩:=List.mem_take_iff_getElem.1 (FJ.1 k);exact DX.1 h4 j i oM hi oM e
theorem qq0 (s:Sch) (hd:DrS s) (m:Int) (l:List UInt8) (a:Nat) (hl:l.length≤400) (ha:a≤l.length) :
 ∃ r:List Int×Nat,((r.1.length≤3∧(0<r.1.length→wj s m r.1=0))∧r.2≤l.length)∧Sp 119 [.ptr 0 1 0 0,schT s,vI m] [(0,oC l a)] (vIs r.1) [(0,oC l r.2)]:=by
 have hE:=hd.ok;have hnc:=(zc hE).nc;have hc:=Qk s 3 oM;have hm:=fun v=>(ZV (s:=s) (kind:=3) (v:=v)).1;have hnd:=qK8 s 3;have hc3:=hd.meas3;generalize Ka s 3=L at hc hm hnd hc3;refine jJ qg4 mixm (fun r:List Int×Nat=>vIs r.1) (fun r=>[(0,oC l r.2)]) sMp ?_;unfold wy;refine sW ?_;refine XE.mp (fun _ _=>C1.im hc rF rF) ?_;refine sW ?_;refine XE.loopF mixm [7,14] (fun y:Nat×List Int×Nat=>y.1≤L.length∧y.2.1.Sublist (L.take y.1)∧(∀ v∈y.2.1,v≠m)∧y.2.2≤l.length) (fun y=>[(7,.asl 1 y.2.1.length),(14,vI y.1)]) (fun y=>[(0,oC l y.2.2),aR 4096 2 [schT s],aR 1 1 (y.2.1.map vI)]) (fun y=>L.length-y.1) (0,[],a) ⟨sMp,sMp,sMp,ha⟩ (fun e ⟨_,hst⟩=>?_) fun T' y hy ih=>?_
 ·exact .oA [uI 0,uI 4096,(1,none)] []
 obtain⟨i,ts,a1⟩:=y;obtain⟨y1,y2,y3,y4⟩:=hy;dsimp only at y1 y2 y3 y4;have hsl:=y2.length_le;rw[Cz] at hsl;simp only[tZ,↓un_u,simprocAttr,AZ,Ay];refine XE.brN (fun h4=>?_) (fun h4=>?_)
 ·have hi2:i<L.length:=by omega
  have hwi:=qh (i:=i) oM;have htk:=qZ hi2;have hsub:ts.Sublist (L.take (i+1)):=by rw[htk];exact y2.trans (List.sublist_append_left _ _)
  have hsub2:(ts++[L[i]]).Sublist (L.take (i+1)):=by rw[htk];exact y2.append (List.Sublist.refl _)
  have hgi:(L.map vI).getD i .junk=vI L[i]:=qd hi2;obtain⟨o,a2,ha2,sO⟩:=jn8 l a1 2 hl y4 oM;generalize L[i]=v at hgi hsub2;simp only[tZ,↓un_u,simprocAttr,Ax,hgi];refine XE.sd oM ?_;by_cases hv:v=m
  ·have q:(v != m)=false:=Aw.2 hv;simp only[tZ,↓un_u,simprocAttr,q];refine XE.mp (fun _ _=>C2.no sMp) ?_;simp only[tZ,↓un_u,simprocAttr,hwi];refine XE.next ih (i+1,ts,a1) ⟨by dsimp only;omega,hsub,y3,y4⟩ (by dsimp only;omega) fun e ⟨_,hst⟩=>?_;exact .oA (U3 0 4096 1) []
  ·have q:(v != m)=true:=Bj.2 hv;have hin:∀ u∈ts++[v],u≠m:=fun u hu=>by
    rcases Dz.1 hu with h | h
    ·exact y3 u h
    ·rw[EZ.1 h];exact hv
   by_cases hts:ts.length=0
   ·have q2:((ts.length:Int)==0)=true:=AY.2 oM;simp only[tZ,↓un_u,simprocAttr,q,q2];refine XE.mp (fun _ _=>C2.no sMp) ?_;simp only[tZ,↓un_u,simprocAttr,Ax,hgi,hwi];refine XE.sd oM (XE.sd oM ?_);refine XE.next ih (i+1,ts++[v],a1) ⟨by dsimp only;omega,hsub2,hin,y4⟩ (by dsimp only;omega) fun e ⟨_,hst⟩=>?_;exact .oA (U3 0 4096 1) []
   ·have q2:((ts.length:Int)==0)=false:=Ak.2 oM;simp only[tZ,↓un_u,simprocAttr,q,q2];refine XE.mp (fun _ _=>C2.one (by trivial)) ?_;refine XE.mp (fun _ _=>C1.draw 0 l a1 _ sO rfl rfl rfl) ?_;simp only[tZ,↓un_u,simprocAttr,Ax,hgi,hwi];refine XE.brB (fun h5=>?_) (fun h5=>?_)
    ·refine XE.sd oM (XE.sd oM ?_);refine XE.next ih (i+1,ts++[v],a2) ⟨by dsimp only;omega,hsub2,hin,ha2⟩ (by dsimp only;omega) fun e ⟨_,hst⟩=>?_;exact .oA (U3 0 4096 1) []
    ·refine XE.next ih (i+1,ts,a2) ⟨by dsimp only;omega,hsub,y3,ha2⟩ (by dsimp only;omega) fun e ⟨_,hst⟩=>?_;exact .oA (U3 0 4096 1) []
 ·have hil:i=L.length:=by omega
  rw[hil,Bw] at y2;refine XE.fin (ts,a1) ⟨⟨by dsimp only;omega,fun h=>jp1 h (by dsimp only;omega) (fun v hv=>⟨hm v (y2.subset hv),y3 v hv⟩) (hnd.sublist y2)⟩,y4⟩ fun e ⟨_,hst⟩=>?_;exact .oA (U1 0) [1]
end Go.Proofs
