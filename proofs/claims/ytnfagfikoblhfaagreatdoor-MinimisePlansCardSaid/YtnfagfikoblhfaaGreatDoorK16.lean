/- A part of the proof: trees of Go values, short forms, contracts. -/
import Derived.Test.YtnfagfikoblhfaaGreatDoorK15
namespace Go.Proofs
open Go Go.TL
theorem SchOk.sm {s:Sch} (h:SchOk s):ki s:=by
 have h1:=h.nl;have h2:=h.nc;refine⟨oM,oM,fun l hl=>?_⟩;obtain⟨i,hi,rfl⟩:=CX hl;have h3:=h.ls i hi;rw[qj hi] at h3;have:=(zm h3).2.2;omega
theorem qo3 {l:CodL} : -1≤zy l∧zy l≤60:=by
 unfold zy;split
 ·omega
 ·rename_i h;obtain⟨hp,h1,h2⟩:=zm (AQ h);have:=qE9 hp (l.codes.length-1) oM;omega
theorem Yq (s:Sch) (h:SchOk s) (i:Nat) (hi:i<s.cols.length) (v:Int):Sp 77 [schT s,vI i,vI v] [] (vB (qT s i v)) []:=by
 have hat:qg s i=s.cols[i]:=by rw[qg,qj hi]
 have hk:=zj (h.cs i hi);have hcd:=fun e=>h.cdl hi e;have hE:qT s i v=if s.cols[i].kind=1 then inB v 1 1048575
  else if s.cols[i].kind=2 then inB v 0 ((qU s i).codes.length-1)&&(lvlC (qU s i) v==zy (qU s i)-1)
  else (s.cols[i].opt&&(v==zn))||inB v s.cols[i].low s.cols[i].high:=by rw[qT,hat]
 have hcl:qU s i=s.lists.getD s.cols[i].list.toNat default:=by rw[qU,hat]
 rw[hat] at hk hcd;rw[hE];rw[hcl] at hcd ⊢
 refine sIr qX6 fun e _ hst=>?_;unfold Ks;simp only[tZ,↓uU,simprocAttr,Ax,qd hi];generalize s.cols[i]=c at hk hcd ⊢
 simp only[tZ,↓uU,simprocAttr,AY,Ak];refine⟨oM,fun h1=>?_,fun h1=>⟨fun h2=>?_,fun h2=>?_⟩⟩
 ·rw[Aj h1];refine C1.im (jT v 1 1048575) rF rF ?_;refine sW ?_;exact .oA [] []
 ·obtain⟨d1,d2⟩:=hcd h2;obtain⟨d3,d4⟩:=hk.2.2.2.1 h2;have hgl:s.lists.getD c.list.toNat default=s.lists[c.list.toNat]:=qj d1;rw[Aq h1,Aj h2];rw[hgl] at d2 ⊢
  obtain⟨_,d5,d6⟩:=zm d2;simp only[tZ,↓uU,simprocAttr,qd d1];generalize s.lists[c.list.toNat]=l at d2 d5 d6 ⊢
  have hw:IntKind.i64.wrap ((l.codes.length:Int)-1)=(l.codes.length:Int)-1:=AK _ oM;have hlv:=qo3 (l:=l);have hw2:IntKind.i64.wrap (zy l-1)=zy l-1:=AK _ oM;simp only[tZ,↓uU,simprocAttr,hw];refine⟨oM,?_⟩;refine C1.im (jT v 0 _) rF rF ?_;refine sW ?_;refine C2.im (fun _=>Yp l v oM) (fun _=>rfl) rF ?_;refine sW ?_;refine C2.im (fun _=>KT l oM) (fun _=>rfl) rF ?_;simp only[tZ,↓uU,simprocAttr,hw2];refine⟨kR,?_⟩;exact .oA [] []
 ·rw[Aq h1,Aq h2];refine C2.im (fun _=>jT v c.low c.high) (fun _=>rfl) rF ?_;refine sW ?_;rw[show (c.opt&&v == -1099511627776)=(c.opt&&(v==zn)) from rfl];exact .oA [] []
theorem ko (s:Sch) (hs:ki s) (c:Int):Sp 42 [schT s,vI c] [] (vI (finI s c)) []:=by
 have hs2:=hs.2.1;refine sIr qP4 fun e _ hst=>?_;unfold Jf;refine sW ?_;refine C1.im (wi s hs) rF rF ?_;simp only[tZ,↓uU,simprocAttr,tD,Bj,Aw];refine⟨fun h=>?_,fun h=>?_⟩
 ·rw[finI,Aj oM];exact .oA [] []
 have hok:=qV h.1.1;obtain⟨i,rfl⟩:=AJ (show 0≤c by omega);have hi:i<s.cols.length:=by omega
 have hat:qg s i=s.cols[i]:=by rw[qg,qj hi]
 have hk:=zj (hok.cs i hi);have hcd:=fun e=>hok.cdl hi e;have hcl:qU s i=s.lists.getD s.cols[i].list.toNat default:=by rw[qU,hat]
 rw[hat] at hk hcd;rw[hcl] at hcd;rw[finI,Aq oM,Ax,hcl,hat];simp only[tZ,↓uU,simprocAttr,Ax,qd hi];generalize s.cols[i]=x at hk hcd ⊢
 simp only[tZ,↓uU,simprocAttr,AY,Ak];refine⟨oM,fun h2=>?_,fun h2=>?_⟩
 ·obtain⟨d1,d2⟩:=hcd h2;obtain⟨d3,d4⟩:=hk.2.2.2.1 h2;have hgl:s.lists.getD x.list.toNat default=s.lists[x.list.toNat]:=qj d1;rw[Aj h2];rw[hgl] at d2 ⊢
  obtain⟨_,d5,d6⟩:=zm d2;simp only[tZ,↓uU,simprocAttr,qd d1];generalize s.lists[x.list.toNat]=l at d2 d5 d6 ⊢
  have hlv:=qo3 (l:=l);have hw2:IntKind.i64.wrap (zy l-1)=zy l-1:=AK _ oM;refine⟨oM,?_⟩;refine C1.im (KT l oM) rF rF ?_;simp only[tZ,↓uU,simprocAttr,hw2];exact .oA [] []
 ·rw[Aq h2];exact .oA [] []
theorem zm6 {a b:Int} (hb:0<b):qJ a b=if a.tmod b<0 then a.tdiv b-1 else a.tdiv b:=by
 have h1:=Int.mul_tdiv_add_tmod a b;have h2:=Int.tmod_lt_of_pos a hb;have h3:=Int.lt_tmod_of_pos a hb;unfold qJ;rw[DW _ oM];split
 ·refine ((Int.ediv_emod_unique (r:=a.tmod b+b) hb).2 ⟨?_,oM,oM⟩).1;rw[Int.mul_sub];omega
 ·refine ((Int.ediv_emod_unique (r:=a.tmod b) hb).2 ⟨oM,oM,oM⟩).1
theorem yU (a b:Int) (hb:0<b) (ha : -4611686018427387904<a∧a<4611686018427387904):Sp 80 [vI a,vI b] [] (vI (qJ a b)) []:=by
 rw[zm6 hb];have hq:=Int.natAbs_tdiv_le_natAbs a b;have hw:IntKind.i64.wrap (a.tdiv b)=a.tdiv b:=AK _ oM;have hw2:IntKind.i64.wrap (a.tdiv b-1)=a.tdiv b-1:=AK _ oM;refine sIr qY0 fun e _ hst=>?_;unfold Ku;simp only[tZ,↓uU,simprocAttr,hw,hw2,tD];refine⟨oM,oM,fun h=>?_,fun h=>?_⟩
 ·rw[Aj h];exact .oA [] []
 ·rw[Aq h];exact .oA [] []
theorem yV (c:Col) (lev:Int) (h1:1≤lev∧lev≤c.widths.length) (h2:c.widths.length<4611686018427387904):Sp 79 [colT c,vI lev] [] (vI (qK c lev)) []:=by
 have hw:IntKind.i64.wrap ((c.widths.length:Int)-lev)=(c.widths.length:Int)-lev:=AK _ oM;have hk:((c.widths.length:Int)-lev).toNat<c.widths.length:=by omega
 refine sIr qX8 fun e _ hst=>?_;unfold Kt;simp only[tZ,↓uU,simprocAttr,hw,qd hk];rw[qK,qj hk];refine⟨oM,?_⟩;exact .oA [] []
namespace Cnd
mutual
theorem ind' {p:Cnd→Prop} (h:∀ c,(∀ k∈c.kids,p k)→p c):∀ c,p c
 | .mk _ _ _ _ _ ks=>h _ (inds h ks)
theorem inds {p:Cnd→Prop} (h:∀ c,(∀ k∈c.kids,p k)→p c):∀ ks:List Cnd,∀ k∈ks,p k
 | [],_,hk=>absurd hk sMp
 | x::r,k,hk=>by
   rcases Ck.1 hk with e | hk
   ·rw[e];exact ind' h x
   ·exact inds h r k hk
end
end Cnd
mutual
def cntC:Cnd→Int→Int
 | .mk _ _ _ _ _ ks,m=>kL ks m 1
def kL:List Cnd→Int→Int→Int
 | [],_,n=>n
 | k::r,m,n=>if n<m then kL r m (n+cntC k (m-n)) else n
end
theorem ZA (c:Cnd) (m:Int):cntC c m=kL c.kids m 1:=by cases c;rw[cntC];rfl
mutual
def depC:Cnd→Nat
 | .mk _ _ _ _ _ ks=>kj ks+1
def kj:List Cnd→Nat
 | []=>0
 | k::r=>max (depC k) (kj r)
end
theorem qB7 (c:Cnd):depC c=kj c.kids+1:=by cases c;rw[depC];rfl
def isB (s:Sch) (col kind:Int):Bool:=decide (0≤col)&&decide (col<s.cols.length)&&((qg s col.toNat).kind==kind)
def arC (op:Int):Nat:=if op=5∨op=6 then 2 else if op=7 then 1 else 0
def ndE (s:Sch) (c:Cnd):Int:=
 if c.op<1∨7<c.op then 4
 else if c.kids.length≠arC c.op∨(c.op≠2∧c.op≠3∧c.op≠4∧c.col≠0)∨(c.op≠2∧c.code≠0)∨(c.op≠3∧(c.lo≠0∨c.hi≠0)) then 11
 else if (c.op=2∧isB s c.col 2=false)∨(c.op=3∧isB s c.col 3=false)∨(c.op=4∧(isB s c.col 3=false∨(qg s c.col.toNat).opt=false)) then 7
 else if c.op=2∧(c.code<0∨c.code≥(qU s c.col.toNat).codes.length) then 6
 else if c.op=3∧(c.lo < -1000000∨c.hi>1000000∨c.lo>c.hi) then 2 else 0
mutual
def nodE (s:Sch):Cnd→Int
 | .mk op col code lo hi ks=>if ndE s (.mk op col code lo hi ks)≠0 then ndE s (.mk op col code lo hi ks) else Qh s ks
def Qh (s:Sch):List Cnd→Int
 | []=>0
 | k::r=>if nodE s k≠0 then nodE s k else Qh s r
end
theorem zm7 (s:Sch) (c:Cnd):nodE s c=if ndE s c≠0 then ndE s c else Qh s c.kids:=by cases c;rw[nodE];rfl
def chkC (s:Sch) (c:Cnd):Int:=if schE s≠0 then schE s else if cntC c 41>40 then 1 else if depC c>10 then 22 else nodE s c
theorem zA6 {s:Sch}:∀ {l:List Cnd},Qh s l=0→∀ k∈l,nodE s k=0
 | [],_,k,hk=>absurd hk sMp
 | x::r,h,k,hk=>by
   rw[Qh] at h;split at h
   ·rename_i h1;exact absurd h h1
   ·rename_i h1;rcases Ck.1 hk with e | hk
    ·rw[e];exact AQ h1
    ·exact zA6 h k hk
theorem jO5 {s:Sch} {c:Cnd} (h:nodE s c=0):ndE s c=0∧∀ k∈c.kids,nodE s k=0:=by
 rw[zm7] at h;split at h
 ·rename_i h1;exact absurd h h1
 ·rename_i h1;exact⟨AQ h1,zA6 h⟩
theorem zu {s:Sch} {col kind:Int}:isB s col kind=true↔0≤col∧col<s.cols.length∧(qg s col.toNat).kind=kind:=by
 unfold isB;simp only[Bq,AZ,AY,and_assoc]
structure NdOk (s:Sch) (c:Cnd):Prop where
 op:1≤c.op∧c.op≤7
 nk:c.kids.length=arC c.op
 under:c.op=2→isB s c.col 2=true∧0≤c.code∧c.code<(qU s c.col.toNat).codes.length
 between:c.op=3→isB s c.col 3=true∧-1000000≤c.lo∧c.hi≤1000000∧c.lo≤c.hi
 miss:c.op=4→isB s c.col 3=true∧(qg s c.col.toNat).opt=true
theorem jJ5 {s:Sch} {c:Cnd} (h:ndE s c=0):NdOk s c:=by
 unfold ndE at h;split at h
 ·cases h
 rename_i h1;split at h
 ·cases h
 rename_i h2;split at h
 ·cases h
 rename_i h3;split at h
 ·cases h
 rename_i h4;split at h
 ·cases h
 rename_i h5;refine⟨oM,AQ fun e=>h2 (.inl e),fun e=>⟨?_,oM,oM⟩,fun e=>⟨?_,oM,oM,oM⟩,fun e=>⟨?_,?_⟩⟩
 ·cases e2:isB s c.col 2 with
  | true=>rfl
  | false=>exact absurd (.inl ⟨e,e2⟩) h3
 ·cases e2:isB s c.col 3 with
  | true=>rfl
  | false=>exact absurd (.inr (.inl ⟨e,e2⟩)) h3
 ·cases e2:isB s c.col 3 with
  | true=>rfl
  | false=>exact absurd (.inr (.inr ⟨e,.inl e2⟩)) h3
 ·cases e2:(qg s c.col.toNat).opt with
  | true=>rfl
  | false=>exact absurd (.inr (.inr ⟨e,.inr e2⟩)) h3
def isAt (c:Cnd):Bool:=(c.op==2)||(c.op==3)||(c.op==4)
def tf (b:Bool):Int:=if b then 1 else -1
def zg (s:Sch) (c:Cnd) (v:Int):Int:=
 if c.op=2 then tf (qe4 (qU s c.col.toNat) v c.code)
 else if c.op=3 then (if v=zn then 0 else tf (decide (c.lo≤v)&&decide (v≤c.hi)))
 else if c.op=4 then tf (v==zn) else -1
def jX8 (op:Int) (ks:List Int):Int:=if op=7 then-ks.getD 0 0 else if op=5 then min (ks.getD 0 0) (ks.getD 1 0) else if op=6 then max (ks.getD 0 0) (ks.getD 1 0) else 1
mutual
def evC (s:Sch) (row:List Int):Cnd→Int
 | .mk op col code lo hi ks=>if isAt (.mk op col code lo hi ks)=true then zg s (.mk op col code lo hi ks) (row.getD col.toNat 0) else jX8 op (evCs s row ks)
def evCs (s:Sch) (row:List Int):List Cnd→List Int
 | []=>[]
 | k::r=>evC s row k::evCs s row r
end
def jX9 (s:Sch) (c:Cnd) (row:List Int):Int:=if chkC s c≠0∨rowE s row≠0 then 0 else evC s row c
mutual
def atsC:Cnd→List Cnd
 | .mk op col code lo hi ks=>if isAt (.mk op col code lo hi ks)=true then [.mk op col code lo hi ks] else ZB ks
def ZB:List Cnd→List Cnd
 | []=>[]
 | k::r=>atsC k++ZB r
end
theorem Yr (c:Cnd):atsC c=if isAt c=true then [c] else ZB c.kids:=by cases c;rw[atsC];rfl
theorem QF:∀ (l:List Cnd) (k:Cnd),ZB (l++[k])=ZB l++atsC k
 | [],k=>by simp [ZB]
 | x::r,k=>by simp [ZB,QF r k]
theorem qk3 {s:Sch}:∀ c,nodE s c=0→∀ a∈atsC c,NdOk s a∧isAt a=true:=by
 refine Cnd.ind' fun c ih h a ha=>?_;obtain⟨h1,h2⟩:=jO5 h;rw[Yr] at ha;split at ha
 ·rename_i h3;rw[EZ] at ha;rw[ha];exact⟨jJ5 h1,h3⟩
 ·have key:∀ l:List Cnd,(∀ k∈l,k∈c.kids)→a∈ZB l→NdOk s a∧isAt a=true:=by
   intro l
   induction l with
   | nil=>intro _ h;simp [ZB] at h
   | cons k r ihl=>
     intro hk h;rw[ZB,Dz] at h;rcases h with h | h
     ·exact ih k (hk k sMp) (h2 k (hk k sMp)) a h
     ·exact ihl (fun x hx=>hk x (CQ _ hx)) h
  exact key c.kids (fun k hk=>hk) ha
def qa3 (n:Nat) (p:Nat→Nat→Bool):Bool:=(List.range n).all fun i=>(List.range i).all fun k=>p i k
theorem zm8 {p:Nat→Bool} {n:Nat}:(List.range (n+1)).all p=((List.range n).all p&&p n):=by rw[List.range_succ,FW];simp
theorem jJ6 {p:Nat→Bool} {n i:Nat} (h:i<n) (hp:p i=false):(List.range n).all p=false:=List.all_eq_false.2 ⟨i,Dk.2 h,by rw[hp];simp⟩
theorem qB8 {p:Nat→Nat→Bool} {n:Nat}:qa3 (n+1) p=(qa3 n p&&(List.range n).all (p n)):=zm8
theorem zm9 {p:Nat→Nat→Bool} {n i k:Nat} (h:i<n) (hk:k<i) (hp:p i k=false):qa3 n p=false:=jJ6 h (jJ6 hk hp)
def decP (s:Sch) (c:Cnd) (lev:Nat) (i k:Nat):Bool:=
 !((qk s c.col lev ((qE s c.col.toNat).getD i 0)==qk s c.col lev ((qE s c.col.toNat).getD k 0))&&!(zg s c ((qE s c.col.toNat).getD i 0)==zg s c ((qE s c.col.toNat).getD k 0)))
def decB (s:Sch) (c:Cnd) (lev:Nat):Bool:=
 if c.op=2 then qa3 (qE s c.col.toNat).length (decP s c lev)
 else if c.op=4 then decide (0<lev)
 else
  let x:=qg s c.col.toNat
  let first:=decide (x.low<c.lo)&&decide (c.lo≤x.high)
  let behind:=decide (x.low≤c.hi)&&decide (c.hi<x.high)
  if lev=0 then !x.opt&&!first&&!behind
  else (!first||(c.lo.tmod (qK x lev)==0))&&(!behind||((c.hi+1).tmod (qK x lev)==0))
def JE (p:Nat→Bool):Nat→Nat→Nat
 | 0,n=>n
 | f+1,n=>if p n=true then n else JE p f (n+1)
theorem qo4 {p:Nat→Bool} {N:Nat} (h:p N=true):∀ (f n:Nat),n≤N→N-n≤f→p (JE p f n)=true∧JE p f n≤N∧n≤JE p f n∧∀ m,n≤m→m<JE p f n→p m=false
 | 0,n,h1,h2=>by
   have:n=N:=by omega
   subst this;exact⟨h,BZ _,BZ _,fun m h3 h4=>by rw[JE] at h4;omega⟩
 | f+1,n,h1,h2=>by
   rw[JE];split
   ·rename_i hp;exact⟨hp,h1,BZ _,fun m h3 h4=>by omega⟩
   ·rename_i hp;have hn:n≠N:=fun e=>hp (e ▸ h);obtain⟨a,b,c,d⟩:=qo4 h f (n+1) oM oM;refine⟨a,b,oM,fun m h3 h4=>?_⟩;by_cases e:m=n
    ·rw[e];simpa using hp
    ·exact d m oM h4
def decN (s:Sch) (c:Cnd):Nat:=JE (decB s c) 64 0
def qa4 (col lev:Int):List Pk×Bool→Pk→List Pk×Bool:=fun x p=>
 let y:=if p.col>col∧x.2=false then (x.1++[⟨col,lev⟩],true) else x
 if p.col=col then (y.1++[⟨p.col,max p.lev lev⟩],true) else (y.1++[p],y.2)
def ZQ (l:List Pk) (col lev:Int):List Pk:=
 let x:=l.foldl (qa4 col lev) ([],decide (lev≤0))
 if x.2 then x.1 else x.1++[⟨col,lev⟩]
def ji (s:Sch) (c:Cnd):List Pk:=if chkC s c≠0 then [] else (atsC c).foldl (fun l a=>ZQ l a.col (decN s a)) []
def covB (a b:List Pk):Bool:=a.all fun x=>b.any fun y=>(y.col==x.col)&&decide (y.lev≥x.lev)
mutual
def KU:Cnd→Cnd→Bool
 | .mk a1 a2 a3 a4 a5 ks,.mk b1 b2 b3 b4 b5 ls=>(a1==b1)&&(a2==b2)&&(a3==b3)&&(a4==b4)&&(a5==b5)&&wF ks ls
def wF:List Cnd→List Cnd→Bool
 | [],[]=>true
 | k::r,l::t=>KU k l&&wF r t
 | [],_::_=>false
 | _::_,[]=>false
end
theorem zn0 (a b:Cnd):KU a b=((a.op==b.op)&&(a.col==b.col)&&(a.code==b.code)&&(a.lo==b.lo)&&(a.hi==b.hi)&&wF a.kids b.kids):=by cases a;cases b;rw[KU];rfl
theorem qF1:∀ c,∀ m,1≤m→1≤cntC c m∧cntC c m≤m:=by
 refine Cnd.ind' fun c ih m hm=>?_;rw[ZA];have key:∀ l:List Cnd,(∀ k∈l,k∈c.kids)→∀ n,1≤n→n≤m→1≤kL l m n∧kL l m n≤m:=by
  intro l
  induction l with
  | nil=>intro _ n h1 h2;rw[kL];exact⟨h1,h2⟩
  | cons k r ihl=>
    intro hk n h1 h2;rw[kL];split
    ·have:=ih k (hk k sMp) (m-n) oM;exact ihl (fun x hx=>hk x (CQ _ hx)) _ oM oM
    ·exact⟨h1,h2⟩
 exact key c.kids (fun k hk=>hk) 1 oM hm
theorem zn1:∀ (l:List Cnd) (m n:Int),n≤m→n≤kL l m n
 | [],m,n,_=>by rw[kL];omega
 | k::r,m,n,h=>by
   rw[kL];split
   ·have:=qF1 k (m-n) oM;have:=zn1 r m (n+cntC k (m-n)) oM;omega
   ·omega
theorem jp7:∀ c,∀ m,1≤m→cntC c m<m→(depC c:Int)≤cntC c m:=by
 refine Cnd.ind' fun c ih m hm h=>?_;rw[ZA] at h ⊢
 rw[qB7];have key:∀ l:List Cnd,(∀ k∈l,k∈c.kids)→∀ n,1≤n→n≤m→kL l m n<m→n+kj l≤kL l m n:=by
  intro l
  induction l with
  | nil=>intro _ n h1 h2 _;rw[kL,kj];omega
  | cons k r ihl=>
    intro hk n h1 h2 h3;rw[kL] at h3 ⊢
    rw[kj];split at h3
    ·rename_i h4;rw[Aj h4];have c1:=qF1 k (m-n) oM;have c2:=zn1 r m (n+cntC k (m-n)) oM;have c3:=ih k (hk k sMp) (m-n) oM oM;have c4:=ihl (fun x hx=>hk x (CQ _ hx)) (n+cntC k (m-n)) oM oM h3;omega
    ·omega
 have:=key c.kids (fun k hk=>hk) 1 oM oM h;omega
def zW (f:Nat→Int):Nat→Int
 | 0=>0
 | n+1=>if zW f n≠0 then zW f n else f n
theorem zA7 {f:Nat→Int} {i:Nat} (h:zW f i≠0):∀ n,i≤n→zW f n=zW f i:=by
 intro n hn
 induction n with
 | zero=>have:i=0:=by omega
         rw[this]
 | succ n ih=>
   by_cases e:i=n+1
   ·rw[e]
   ·have:=ih oM;rw[zW,this,Aj h]
theorem Wu {f:Nat→Int}:∀ {n:Nat},zW f n=0→∀ i,i<n→f i=0
 | 0,_,i,h=>by omega
 | n+1,h,i,hi=>by
   rw[zW] at h;split at h
   ·rename_i h2;exact absurd h h2
   ·rename_i h2;by_cases e:i=n
    ·rw[e];exact h
    ·exact Wu (AQ h2) i oM
theorem Wv {f:Nat→Int}:∀ {n:Nat},(∀ i,i<n→f i=0)→zW f n=0
 | 0,_=>rfl
 | n+1,h=>by
   rw[zW,Wv fun i hi=>h i oM,Aq sMp];exact h n oM
theorem jp {f:Nat→Int} {n:Nat} (h:zW f n=0):zW f (n+1)=f n:=by rw[zW,Aq (by rw[h];simp)]
theorem wj {f:Nat→Int} {i n:Nat} (h:zW f i=0) (hi:i<n) (hf:f i≠0):zW f n=f i:=by
 rw[zA7 (i:=i+1) (by rw[jp h];exact hf) n oM,jp h]
def wD (s:Sch) (p:Pk):Int:=if schE s≠0 then schE s else if p.col<1∨p.col≥s.cols.length then 7 else if inB p.lev 0 (finI s p.col)=false then 8 else 0
abbrev pkAt (l:List Pk) (i:Nat):Pk:=l.getD i default
def qu7 (s:Sch) (l:List Pk) (i:Nat):Int:=if wD s (pkAt l i)≠0 then wD s (pkAt l i) else if 0<i∧(pkAt l i).col≤(pkAt l (i-1)).col then 10 else 0
def yW (s:Sch) (l:List Pk):Int:=if schE s≠0 then schE s else zW (qu7 s l) l.length
def dimE (s:Sch) (l:List Pk) (i:Nat):Int:=if wD s (pkAt l i)≠0 then wD s (pkAt l i) else if isB s (pkAt l i).col 2=false then 7 else if ((l.take i).any fun x=>x.col==(pkAt l i).col)=true then 10 else 0
def JF (s:Sch) (l:List Pk):Int:=if l.length<1∨l.length>3 then 1 else zW (dimE s l) l.length
def qS9 (s:Sch) (m:Int) (l:List Int) (i:Nat):Int:=if isB s (l.getD i 0) 3=false then 7 else if l.getD i 0=m∨(l.take i).contains (l.getD i 0)=true then 10 else 0
def wG (s:Sch) (m:Int) (l:List Int):Int:=if l.length<1∨l.length>3 then 1 else zW (qS9 s m l) l.length
def wv (s:Sch) (q:Qst):Int:=
 if q.kind=1 then (if JF s q.dims≠0 then JF s q.dims else if q.meas≠-1∧isB s q.meas 3=false then 7 else 0)
 else if q.kind=2 then (if isB s q.meas 3=false then 7 else wG s q.meas q.terms)
 else if isB s q.meas 3=false then 7 else if (qg s q.meas.toNat).low<0 then 2 else chkC s q.event
def qstE (s:Sch) (q:Qst):Int:=
 if schE s≠0 then schE s else if jE q.name=false then 3 else if q.kind<1∨3<q.kind then 4
 else if chkC s q.filt≠0 then chkC s q.filt else if wv s q≠0 then wv s q
 else if (q.kind≠1∧0<q.dims.length)∨(q.kind≠2∧0<q.terms.length)∨(q.kind≠3∧KU q.event cnd0=false) then 11 else 0
abbrev qAt (l:List Qst) (i:Nat):Qst:=l.getD i default
def qsE (s:Sch) (l:List Qst) (i:Nat):Int:=if qstE s (qAt l i)≠0 then qstE s (qAt l i) else if ((l.take i).any fun x=>eqB x.name (qAt l i).name)=true then 10 else 0
def smpE (x:Smp):Int:=if x.of<1∨x.of>1000∨x.part<1∨x.part>x.of∨x.seed<0∨x.seed>1099511627776 then 2 else 0
def dclE (s:Sch) (d:Dcl):Int:=
 if schE s≠0 then schE s else if jE d.proj=false∨jE d.src=false then 3 else if chkC s d.coh≠0 then chkC s d.coh
 else if smpE d.smp≠0 then 2 else if d.qs.length<1∨d.qs.length>8 then 1 else zW (qsE s d.qs) d.qs.length
theorem JG {s:Sch} {d:Dcl} (h:dclE s d=0):schE s=0∧jE d.proj=true∧jE d.src=true∧chkC s d.coh=0∧smpE d.smp=0∧1≤d.qs.length∧d.qs.length≤8∧∀ i,i<d.qs.length→qstE s (qAt d.qs i)=0:=by
 unfold dclE at h;split at h
 ·rename_i h1;exact absurd h h1
 rename_i h1;split at h
 ·cases h
 rename_i h2;split at h
 ·rename_i h3;exact absurd h h3
 rename_i h3;split at h
 ·cases h
 rename_i h4;split at h
 ·cases h
 rename_i h5;refine⟨AQ h1,?_,?_,AQ h3,AQ h4,oM,oM,fun i hi=>?_⟩
 ·cases e:jE d.proj with
  | true=>rfl
  | false=>exact absurd (.inl e) h2
 ·cases e:jE d.src with
  | true=>rfl
  | false=>exact absurd (.inr e) h2
 ·have:=Wu h i hi;unfold qsE at this;split at this
  ·rename_i h6;exact absurd this h6
  ·rename_i h6;exact AQ h6
theorem zA8 {s:Sch} {l:List Pk} (h:yW s l=0):schE s=0∧(∀ p∈l,wD s p=0)∧l.Pairwise fun a b=>a.col<b.col:=by
 unfold yW at h;split at h
 ·rename_i h1;exact absurd h h1
 rename_i h1;have key:∀ i,i<l.length→wD s (pkAt l i)=0∧¬ (0<i∧(pkAt l i).col≤(pkAt l (i-1)).col):=fun i hi=>by
  have:=Wu h i hi;unfold qu7 at this;split at this
  ·rename_i h2;exact absurd this h2
  rename_i h2;split at this
  ·cases this
  ·rename_i h3;exact⟨AQ h2,h3⟩
 refine⟨AQ h1,fun p hp=>?_,?_⟩
 ·obtain⟨i,hi,rfl⟩:=CX hp;have:=(key i hi).1;rw[pkAt,qj hi] at this;exact this
 ·rw[DX];have k2:∀ (d i:Nat) (hj:i+d+1<l.length),(l[i]'oM).col<l[i+d+1].col:=by
   intro d
   induction d with
   | zero=>
     intro i hj;have:=(key (i+1) oM).2;rw[pkAt,pkAt,qj oM,qj oM] at this;simp at this;simpa using this
   | succ d ih=>
     intro i hj;have h1:=ih i oM;have h2:=(key (i+d+1+1) oM).2;rw[pkAt,pkAt,qj oM,qj oM] at h2;simp only[Nat.add_sub_cancel] at h2;have e:i+(d+1)+1=i+d+1+1:=by omega
     simp only[e];omega
  intro i j hi hj hij;have:=k2 (j-i-1) i oM;have e:i+(j-i-1)+1=j:=by omega
  simp only[e] at this;exact this
theorem qK8 {s:Sch} {p:Pk} (h:wD s p=0):schE s=0∧1≤p.col∧p.col<s.cols.length∧0≤p.lev∧p.lev≤finI s p.col:=by
 unfold wD at h;split at h
 ·rename_i h1;exact absurd h h1
 rename_i h1;split at h
 ·cases h
 rename_i h2;split at h
 ·cases h
 rename_i h3;rw[Ez,inB,Bq,AZ,AZ] at h3;exact⟨AQ h1,oM,oM,h3.1,h3.2⟩
def divM (high w wo:Int):Nat→Int→Bool
 | 0,_=>true
 | k+1,f=>if f>high then true else if f.tmod wo≠0 then false else divM high w wo k (f+w)
def divP (s:Sch) (col:Nat) (L:List Int) (other lev:Nat) (i k:Nat):Bool:=
 !(!(qk s col lev (L.getD i 0)==qk s col lev (L.getD k 0))&&(qk s col other (L.getD i 0)==qk s col other (L.getD k 0)))
def divB (s:Sch) (col other lev:Nat):Bool:=
 if lev=0∨lev≤other then true
 else if (qg s col).kind=2 then qa3 (qE s col).length (divP s col (qE s col) other lev)
 else
  let x:=qg s col
  let w:=qK x lev
  let first:=(qJ x.low w+1)*w
  if other=0 then !x.opt&&decide (first>x.high)
  else divM x.high w (qK x other) 2 first
def zR (s:Sch) (col lev:Int):Int:=if inB lev 0 (finI s col)=false then -1 else JE (fun n=>divB s col.toNat n lev.toNat) 64 0
def qB9 (q:Qst) (k:Int):Bool:=(q.meas==k)||q.terms.contains k
def yp (l m:List Pk):List Pk:=m.foldl (fun l p=>ZQ l p.col p.lev) l
def yX (s:Sch) (q:Qst):List Pk→Nat→List Pk:=fun l k=>if qB9 q (k+1)=true then ZQ l (k+1) (zR s (k+1) (finI s (k+1))) else l
def jO6 (s:Sch) (q:Qst) (l:List Pk):List Pk:=(List.range (s.cols.length-1)).foldl (yX s q) l
def jU (s:Sch) (q:Qst):List Pk:=if qstE s q≠0 then [] else
 jO6 s q (q.dims.foldl (fun l p=>ZQ l p.col (zR s p.col p.lev)) (if q.kind=3 then yp (ji s q.filt) (ji s q.event) else ji s q.filt))
def sufB (s:Sch) (q:Qst) (l:List Pk):Bool:=(qstE s q==0)&&(yW s l==0)&&covB (jU s q) l
def zU (s:Sch) (d:Dcl):List Pk:=if dclE s d≠0 then [] else d.qs.foldl (fun l q=>yp l (jU s q)) []
def qT0 (s:Sch) (d:Dcl) (l:List Pk):Int:=if dclE s d≠0 then dclE s d else if yW s l≠0 then yW s l else zW (fun i=>if sufB s (qAt d.qs i) l=true then 0 else 23) d.qs.length
theorem yc {s:Sch} {c:Int} (h:0≤finI s c):schE s=0∧1≤c∧c<s.cols.length∧finI s c=(if (qg s c.toNat).kind=2 then zy (qU s c.toNat)-1 else (qg s c.toNat).widths.length):=by
 unfold finI at h ⊢
 split at h
 ·omega
 ·rename_i h1;rw[Aq h1];exact⟨oM,oM,oM,rfl⟩
theorem yi {n lo hi:Int}:inB n lo hi=true↔lo≤n∧n≤hi:=by simp [inB]
theorem qT1 {n lo hi:Int}:inB n lo hi=false↔n<lo∨hi<n:=by
 rw[← Bool.not_eq_true,yi];omega
theorem SchOk.wid {s:Sch} (h:SchOk s) {i:Nat} (hi:i<s.cols.length) (h0:0<i) (hk:(qg s i).kind≠2) {lev:Int} (hl:1≤lev∧lev≤(qg s i).widths.length) :
 1≤qK (qg s i) lev∧qK (qg s i) lev≤1000000∧(qg s i).kind=3∧(qg s i).widths.length≤4∧-1000000≤(qg s i).low∧(qg s i).high≤1000000∧(qg s i).low≤(qg s i).high∧qK (qg s i) (qg s i).widths.length=1:=by
 have hk2:=zj (h.cs i hi);have hk3:(qg s i).kind=3:=by have:=hk2.2.2.1 h0;omega
 have hm:=hk2.2.2.2.2 hk3;generalize qg s i=c at hl hm hk3 ⊢
 unfold measE at hm;split at hm
 ·cases hm
 rename_i h1;split at hm
 ·cases hm
 rename_i h2;split at hm
 ·cases hm
 rename_i h3;rw[Ez] at h3;have hw:∀ j,j<c.widths.length→wdOk c.widths j=true:=fun j hj=>Bk.1 h3 j (Dk.2 hj);have e1:inB c.low (-1000000) 1000000=true:=by grind
 have e2:inB c.high (-1000000) 1000000=true:=by grind
 rw[yi] at e1 e2;have hn:((c.widths.length:Int)-lev).toNat<c.widths.length:=by omega
 have hp:=zA5 (ws:=c.widths) hw _ hn;have h0:=hw 0 oM;rw[wdOk,Aj rfl,AY] at h0;have hmax:c.widths.getD ((c.widths.length:Int)-lev).toNat 0≤1000000:=by
  have:=hw _ hn;unfold wdOk at this;split at this
  ·rename_i e;rw[e,h0];omega
  ·simp only[Bq,AZ] at this;omega
 refine⟨hp,hmax,hk3,oM,oM,oM,oM,?_⟩;rw[qK,show ((c.widths.length:Int)-c.widths.length).toNat=0 by omega,h0]
theorem jV {v w:Int} (hw:0<w):v-w<qJ v w*w∧qJ v w*w≤v:=by
 unfold qJ;rw[DW _ oM,Int.mul_comm];have h1:=Int.mul_ediv_add_emod v w;have h2:=Int.emod_nonneg v (b:=w) oM;have h3:=Int.emod_lt_of_pos v hw;omega
theorem jA1 {v w:Int} (hw:0<w) (hv : -4611686018427387904<v∧v<4611686018427387904) : -4611686018427387904<qJ v w∧qJ v w<4611686018427387904:=by
 have hq:=Int.natAbs_tdiv_le_natAbs v w;have h1:=Int.mul_tdiv_add_tmod v w;rw[zm6 hw];unfold qJ at *
 split
 ·rename_i h;have h2:v<0:=AQ fun k=>by
   have:=Int.tmod_nonneg w (show 0≤v by omega);omega
  have h3 : -4611686018427387904<v.tdiv w-1:=by
   by_cases e:w=1
   ·subst e;rw[Int.tmod_one] at h;omega
   ·refine AQ fun k=>?_;have h4:v.tdiv w≤-4611686018427387903:=by omega
    have h5:w*v.tdiv w≤2*v.tdiv w:=Int.mul_le_mul_of_nonpos_right oM oM;have h6:=Int.lt_tmod_of_pos v hw;have h7:=Int.tmod_lt_of_pos v hw;omega
  omega
 ·omega
theorem jj (s:Sch) (hs:ki s) (c lev v:Int):Sp 23 [schT s,vI c,vI lev,vI v] [] (vI (qk s c lev v)) []:=by
 refine sIr qP2 fun e _ hst=>?_;unfold Je;refine sW ?_;refine C1.im (ko s hs c) rF rF ?_;refine sW ?_;refine C1.im (jT lev 0 (finI s c)) rF rF ?_;simp only[tZ,↓uU,simprocAttr,Bx,Bz];refine⟨fun h=>?_,fun h=>?_⟩
 ·rw[qk,Aj h];exact .oA [] []
 rw[yi] at h;obtain⟨hE,c1,c2,hfin⟩:=yc (s:=s) (c:=c) oM;have hok:=qV hE;obtain⟨i,rfl⟩:=AJ (show 0≤c by omega);rw[Ax] at hfin;have hi:i<s.cols.length:=by omega
 have hat:qg s i=s.cols[i]:=by rw[qg,qj hi]
 have hk:=zj (hok.cs i hi);have hcd:=fun e=>hok.cdl hi e;have hwd:=fun e l=>hok.wid hi oM e (lev:=l);have hcl:qU s i=s.lists.getD s.cols[i].list.toNat default:=by rw[qU,hat]
 have hE2:qk s i lev v=if s.cols[i].kind=2 then (if qT s i v=false then -1 else upC (qU s i) v lev)
  else if v≠zn∧inB v (-1000000) 1000000=false then -1
  else if lev=0 then 0 else if v=zn then v else qJ v (qK s.cols[i] lev)*qK s.cols[i] lev:=by
  rw[qk,Aq (by rw[Ez,yi];exact h),Ax,hat]
 rw[hE2];rw[hat] at hk hcd hwd hfin;rw[hcl] at hcd ⊢
 simp only[tZ,↓uU,simprocAttr,Ax,qd hi];have hho:=Yq s hok i hi v;generalize s.cols[i]=x at hk hcd hwd hfin ⊢
 simp only[tZ,↓uU,simprocAttr,AY,Ak];refine⟨oM,fun h2=>?_,fun h2=>?_⟩
 ·rw[Aj h2];obtain⟨d1,d2⟩:=hcd h2;obtain⟨d3,d4⟩:=hk.2.2.2.1 h2;have hgl:s.lists.getD x.list.toNat default=s.lists[x.list.toNat]:=qj d1;rw[hgl] at d2 ⊢
  obtain⟨_,d5,d6⟩:=zm d2;refine C1.im hho rF rF ?_;simp only[tZ,↓uU,simprocAttr,Bx,Bz];refine⟨fun h3=>?_,fun h3=>?_⟩
  ·rw[Aj h3];exact .oA [] []
  rw[Aq (by rw[h3];simp)];simp only[tZ,↓uU,simprocAttr,qd d1];generalize s.lists[x.list.toNat]=l at d2 d5 d6 ⊢
  refine⟨oM,?_⟩;refine C1.im (zg5 l v lev oM) rF rF ?_;refine sW ?_;exact .oA [] []
 rw[Aq h2];rw[Aq h2] at hfin;refine C2.im (fun _=>jT v (-1000000) 1000000) (fun _=>rfl) rF ?_;simp only[tZ,↓uU,simprocAttr,tD,Bj,Aw,Bx,Bz,AY,Ak];rw[show (-1099511627776:Int)=zn from rfl];refine⟨fun h3=>?_,fun h3=>?_⟩
 ·rw[Aj h3];exact .oA [] []
 rw[Aq (by grind)];refine⟨fun h4=>?_,fun h4=>?_⟩
 ·rw[Aj h4];exact .oA [] []
 rw[Aq h4];refine⟨fun h5=>?_,fun h5=>?_⟩
 ·rw[Aj h5];exact .oA [] []
 rw[Aq h5];have hv:inB v (-1000000) 1000000=true:=by grind
 rw[yi] at hv;obtain⟨w1,w2,w3,w4,_⟩:=hwd h2 lev oM;have hfm:=jV (v:=v) (w:=qK x lev) oM;have hw:IntKind.i64.wrap (qJ v (qK x lev)*qK x lev)=qJ v (qK x lev)*qK x lev:=AK _ oM;refine C1.im (yV x lev oM oM) rF rF ?_;refine sW ?_;refine C1.im (yU v (qK x lev) oM oM) rF rF ?_;simp only[tZ,↓uU,simprocAttr,hw];exact .oA [] []
theorem KV (s:Sch) (hok:SchOk s) (i:Nat) (hi:i<s.cols.length) (h2:(qg s i).kind=2):Sp 110 [schT s,vI i] [] (vIs (qE s i)) []:=by
 have hat:qg s i=s.cols[i]:=by rw[qg,qj hi]
 obtain⟨d1,d2⟩:=hok.cdl hi h2;obtain⟨d3,d4⟩:=(zj (hok.cs i hi)).2.2.2.1 h2;have hcl:qU s i=s.lists.getD s.cols[i].list.toNat default:=by rw[qU,hat]
 rw[hcl] at d2;rw[hat] at d1 d3 d4;have hgl:s.lists.getD s.cols[i].list.toNat default=s.lists[s.cols[i].list.toNat]:=qj d1;rw[hgl] at d2;obtain⟨_,d5,d6⟩:=zm d2;rw[qE,hcl,hgl];have hlv:=qo3 (l:=s.lists[s.cols[i].list.toNat]);have hw2:IntKind.i64.wrap (zy s.lists[s.cols[i].list.toNat]-1)=zy s.lists[s.cols[i].list.toNat]-1:=AK _ oM;refine sIr qQ6 fun e _ hst=>?_;unfold Jl;simp only[tZ,↓uU,simprocAttr,Ax,qd hi,qd d1];refine⟨oM,oM,kR,?_⟩;refine C1.im (KT _ oM) rF rF ?_;simp only[tZ,↓uU,simprocAttr,hw2];refine C1.im (zY5 _ _ oM) rF rF ?_;refine sW ?_;refine⟨kR,?_⟩;exact .oA [] []
theorem qF2 (s:Sch) (hs:ki s) (p:Pk):Sp 128 [schT s,pkT p] [] (vI (wD s p)) []:=by
 refine sIr zl3 fun e _ hst=>?_;unfold Yb;refine sW ?_;refine C1.im (wi s hs) rF rF ?_;simp only[tZ,↓uU,simprocAttr,tD,Bj,Aw];refine⟨fun h=>?_,fun h=>⟨fun h2=>?_,fun h2=>?_⟩⟩
 ·rw[wD,Aj h];exact .oA [] []
 ·rw[wD,Aq (by rw[h];simp),Aj oM];exact .oA [] []
 rw[wD,Aq (by rw[h];simp),Aq oM];refine C1.im (ko s hs p.col) rF rF ?_;refine sW ?_;refine C1.im (jT p.lev 0 (finI s p.col)) rF rF ?_;simp only[tZ,↓uU,simprocAttr,Bx,Bz];refine⟨kR,fun h3=>?_,fun h3=>?_⟩
 ·rw[Aj h3];exact .oA [] []
 ·rw[Aq (by rw[h3];simp)];exact .oA [] []
theorem qu8 (s:Sch) (hs:ki s) (l:List Pk) (hl:l.length<4611686018427387904):Sp 65 [schT s,vPs l] [] (vI (yW s l)) []:=by
 refine sIr qX4 fun e _ hst=>?_;unfold Kr;refine sW ?_;refine C1.im (wi s hs) rF rF ?_;simp only[tZ,↓uU,simprocAttr,Bj,Aw];refine⟨fun h=>?_,fun hE=>?_⟩
 ·rw[yW,Aj h];exact .oA [] []
 rw[yW,Aq (by rw[hE];simp)];refine qt mixm (α:=Nat) [6] (fun i=>i≤l.length∧(zW (qu7 s l) i=0)) (fun i=>[(6,vI i)]) (fun i=>[aR 4096 2 [schT s]]) (fun i=>l.length-i) 0 ⟨oM,?_⟩ ?_ fun i hi=>?_
 ·rfl
 ·exact .oA (U1 4096) []
 simp only[tZ,↓uU,simprocAttr,AZ,Ay];refine⟨fun h=>?_,fun h=>?_⟩
 ·have hi2:i<l.length:=by omega
  have hpi:pkAt l i=l[i]:=by rw[pkAt,qj hi2]
  have hstep:=wj hi.2 hi2;have hnext:=jp hi.2;have hA:qu7 s l i=if wD s l[i]≠0 then wD s l[i] else if 0<i∧l[i].col≤(pkAt l (i-1)).col then 10 else 0:=by rw[qu7,hpi]
  have hi2:i<l.length:=by omega
  have hwi:=qh (i:=i) oM;simp only[tZ,↓uU,simprocAttr,Ax,qd hi2,hwi];refine⟨oM,?_⟩;refine C1.im (qF2 s hs l[i]) rF rF ?_;simp only[tZ,↓uU,simprocAttr,Bj,Aw];refine⟨kR,fun h3=>?_,fun h3=>?_⟩
  ·rw[Aj h3] at hA;rw[hstep (by rw[hA];exact h3),hA];exact .oA [] []
  rw[Aq (by rw[h3];simp)] at hA;rcases DQ i with h0 | h0
  ·subst h0;rw[Aq oM] at hA;have hz:((0:Nat):Int)=0:=rfl;have hz2:(IntKind.i64.wrap (-1)).toNat=0:=by decide
   have hz3:=qh (i:=0) oM;rw[hz] at hz3;simp only[tZ,↓uU,simprocAttr,Ax,hz,beq_self_eq_true,gt_iff_lt,Int.lt_irrefl,Fj,hz2,qd hi2,hz3];refine⟨kR,1,⟨oM,by rw[hnext,hA]⟩,oM,?_⟩;exact .oA (U1 4096) []
  ·obtain⟨k,rfl⟩:∃ k,i=k+1:=⟨i-1,oM⟩;have hk3:k<l.length:=by omega
   have e2:decide (((k+1:Nat):Int)>0)=true:=Cx oM;have e3:=wJ (i:=k+1) oM oM;rw[Nat.add_sub_cancel] at e3 hA;rw[pkAt,qj hk3] at hA;simp only[tZ,↓uU,simprocAttr,Ax,qd hi2,qd hk3,e2,e3,hwi,tD];refine⟨oM,oM,kR,fun h4=>?_,fun h4=>?_⟩
   ·rw[Aj ⟨oM,h4⟩] at hA;rw[hstep (by rw[hA];simp),hA];exact .oA [] []
   ·rw[Aq oM] at hA;refine⟨k+2,⟨oM,by rw[hnext,hA]⟩,oM,?_⟩;exact .oA (U1 4096) []
 ·have hi2:i=l.length:=by omega
  subst hi2;rw[hi.2];exact .oA [] []
theorem qu9 {x y:Pk}:eqPk x y=true↔x=y:=by
 cases x;cases y;simp [eqPk]
theorem zY6 {a b:List Pk}:qF0 a b=true↔a=b:=zy1 fun x y=>qu9
theorem Ww (a b:List Pk) (ha:a.length<4611686018427387904):Sp 16 [vPs a,vPs b] [] (vB (qF0 a b)) []:=by
 refine sIr qr1 fun e _ hst=>?_;unfold yA;simp only[tZ,↓uU,simprocAttr,Bj,Aw];refine⟨fun h=>?_,fun h=>?_⟩
 ·rw[qF0,zR7 oM];exact .oA [] []
 have hl:a.length=b.length:=by omega
 refine qt mixm (α:=Nat) [5] (fun i=>i≤a.length∧(qF0 (a.take i) (b.take i)=true)) (fun i=>[(5,vI i)]) (fun i=>[]) (fun i=>a.length-i) 0 ⟨oM,?_⟩ ?_ fun i hi=>?_
 ·rfl
 ·exact .oA [] []
 simp only[tZ,↓uU,simprocAttr,AZ,Ay];refine⟨fun h=>?_,fun h=>?_⟩
 ·have hib:i<b.length:=by omega
  have hi2:i<a.length:=by omega
  have hwi:=qh (i:=i) oM;simp only[tZ,↓uU,simprocAttr,Ax,qd hi2,hwi,qd hib];rw[show (a[i].col==b[i].col&&a[i].lev==b[i].lev)=eqPk a[i] b[i] from rfl];refine⟨oM,oM,kR,fun h3=>?_,fun h3=>⟨i+1,⟨oM,?_⟩,oM,?_⟩⟩
  ·rw[qF0,zF7 (i:=i) hl oM h3];exact .oA [] []
  ·rw[qF0,zf9 hi2 hib,← qF0,hi.2];simpa using h3
  ·exact .oA [] []
 ·have hi2:i=a.length:=by omega
  subst hi2;have h3:=hi.2;rw[Bw,List.take_of_length_le oM] at h3;rw[h3];exact .oA [] []
theorem qC0 {s:Sch} (h:SchOk s) {i:Nat} (hi:i<s.cols.length) (h2:(qg s i).kind=2):(qE s i).length≤60:=by
 obtain⟨d1,d2⟩:=h.cdl hi h2;obtain⟨_,d5,d6⟩:=zm d2;unfold qE atL;rw[Aq (by rw[d2];simp),BY];have:=Fq (fun i=>(dep (qU s i).codes i:Int)==zy (qU s i)-1) (List.range (qU s i).codes.length);refine FX (Fq _ _) ?_;rw[List.length_range];exact d6
theorem qT2 (s:Sch) (hok:SchOk s) (i o lev:Nat) (hi:i<s.cols.length) (h0:0<i) (hl:(lev:Int)≤finI s i):Sp 189 [schT s,vI i,vI o,vI lev] [] (vB (divB s i o lev)) []:=by
 have hat:qg s i=s.cols[i]:=by rw[qg,qj hi]
 obtain⟨hE,c1,c2,hfin⟩:=yc (s:=s) (c:=i) oM;rw[Ax,hat] at hfin;have hwd:=fun e l=>hok.wid hi oM e (lev:=l);have hlv:=KV s hok i hi;have hll:=qC0 hok hi;rw[hat] at hwd hlv hll;have hE2:divB s i o lev=if lev=0∨lev≤o then true
  else if s.cols[i].kind=2 then qa3 (qE s i).length (divP s i (qE s i) o lev)
  else if o=0 then !s.cols[i].opt&&decide ((qJ s.cols[i].low (qK s.cols[i] lev)+1)*qK s.cols[i] lev>s.cols[i].high)
  else divM s.cols[i].high (qK s.cols[i] lev) (qK s.cols[i] o) 2 ((qJ s.cols[i].low (qK s.cols[i] lev)+1)*qK s.cols[i] lev):=by rw[divB,hat]
 rw[hE2];refine sIr qH9 fun e _ hst=>?_;unfold Zn;simp only[tZ,↓uU,simprocAttr,Ax,qd hi];generalize s.cols[i]=x at hwd hlv hfin hll ⊢
 simp only[tZ,↓uU,simprocAttr,tD,AY,Ak];refine⟨oM,fun h=>?_,fun h=>?_⟩
 ·rw[Aj oM];exact .oA [] []
 rw[Aq oM];refine⟨fun h2=>?_,fun h2=>?_⟩
 ·rw[Aj h2];refine C1.im (hlv h2) rF rF ?_;generalize qE s i=L at hll ⊢
  have hll:=hll h2;refine sW ?_;refine qt mixm (α:=Nat) [11] (fun j=>j≤L.length∧qa3 j (divP s i L o lev)=true) (fun j=>[(11,vI j)]) (fun j=>[aR 4096 2 [schT s],aR 8212 7 [colT x]]) (fun j=>L.length-j) 0 ⟨oM,rfl⟩ ?_ fun j hj=>?_
  ·exact .oA (U2 4096 8212) []
  obtain⟨j1,j2⟩:=hj;refine sD ?_;refine⟨fun h3=>?_,fun h3=>?_⟩
  ·have hj2:j<L.length:=by omega
   have hwj:=qh (i:=j) oM;have hgj:L.getD j 0=L[j]:=qj hj2;refine qt mixm (α:=Nat) [12] (fun k=>k≤j∧(List.range k).all (divP s i L o lev j)=true) (fun k=>[(12,vI k)]) (fun k=>[aR 4096 2 [schT s],aR 8212 7 [colT x]]) (fun k=>j-k) 0 ⟨oM,rfl⟩ ?_ fun k hk=>?_
   ·exact .oA (U2 4096 8212) []
   obtain⟨k1,k2⟩:=hk;refine sD ?_;refine⟨fun h4=>?_,fun h4=>?_⟩
   ·have hk2:k<L.length:=by omega
    have hwk:=qh (i:=k) oM;have hgk:L.getD k 0=L[k]:=qj hk2;have hP:divP s i L o lev j k=!(!(qk s i lev L[j]==qk s i lev L[k])&&(qk s i o L[j]==qk s i o L[k])):=by rw[divP,hgj,hgk]
    have hC1:=jj s hok.sm i o L[j];have hC2:=jj s hok.sm i o L[k];simp only[tZ,↓uU,simprocAttr,Ax,qd hj2,qd hk2];refine⟨oM,?_⟩;refine C1.im (jj s hok.sm i lev L[j]) rF rF ?_;simp only[tZ,↓uU,simprocAttr,Ax,qd hj2,qd hk2];refine⟨oM,?_⟩;refine C1.im (jj s hok.sm i lev L[k]) rF rF ?_;simp only[tZ,↓uU,simprocAttr,Ax,qd hj2,qd hk2];refine⟨fun _=>by omega,?_⟩;refine C2.im (fun _=>hC1) (fun _=>rfl) rF ?_;simp only[tZ,↓uU,simprocAttr,Ax,qd hj2,qd hk2];refine⟨fun _=>by omega,?_⟩;refine C2.im (fun _=>hC2) (fun _=>rfl) rF ?_;simp only[tZ,↓uU,simprocAttr,hwk,tD,Bj,Aw,AY,Ak];refine⟨kR,fun h5=>?_,fun h5=>?_⟩
    ·rw[zm9 hj2 (show k<j by omega) (by rw[hP];grind)];exact .oA [] []
    ·refine⟨k+1,⟨oM,?_⟩,oM,?_⟩
     ·rw[zm8,k2,hP];grind
     ·exact .oA (U2 4096 8212) []
   ·have hkj:k=j:=by omega
    subst hkj;simp only[tZ,↓uU,simprocAttr,hwj];refine⟨k+1,⟨oM,?_⟩,oM,?_⟩
    ·rw[qB8,j2,k2];rfl
    ·exact .oA (U2 4096 8212) []
  ·have hjl:j=L.length:=by omega
   subst hjl;rw[j2];exact .oA [] []
 rw[Aq h2] at hfin;rw[Aq h2];obtain⟨w1,w2,w3,w4,w5,w6,w7,_⟩:=hwd h2 lev oM;generalize hW:qK x lev=w at w1 w2 ⊢
 have hfm:=jV (v:=x.low) (w:=w) oM;have hfl:=jA1 (v:=x.low) (w:=w) oM oM;have hw1:IntKind.i64.wrap (qJ x.low w+1)=qJ x.low w+1:=AK _ oM;have hw2:IntKind.i64.wrap ((qJ x.low w+1)*w)=(qJ x.low w+1)*w:=AK _ (by rw[Int.add_mul];omega);have hF : -3000000≤(qJ x.low w+1)*w∧(qJ x.low w+1)*w≤3000000:=by rw[Int.add_mul];omega
 refine C1.im (yV x lev oM oM) rF rF ?_;rw[hW];refine sW ?_;refine C1.im (yU x.low w oM oM) rF rF ?_;simp only[tZ,↓uU,simprocAttr,hw1,hw2];generalize (qJ x.low w+1)*w=F at hF ⊢
 simp only[tZ,↓uU,simprocAttr,AY,Ak];refine⟨fun h3=>?_,fun h3=>?_⟩
 ·rw[Aj oM];exact .oA [] []
 rw[Aq oM];obtain⟨v1,v2,_⟩:=hwd h2 o oM;have hwo:=yV x o oM oM;generalize qK x o=wo at v1 v2 hwo ⊢
 refine qt mixm (α:=Nat×Int) [14,15] (fun y=>y.1≤2∧divM x.high w wo 2 F=divM x.high w wo (2-y.1) y.2∧-3000000-1000000*y.1≤y.2∧y.2≤3000000+1000000*y.1) (fun y=>[(14,vI y.2),(15,vI y.1)]) (fun y=>[aR 4096 2 [schT s],aR 8212 7 [colT x]]) (fun y=>2-y.1) (0,F) ⟨sMp,rfl,by simp;omega,by simp;omega⟩ ?_ fun y hy=>?_
 ·exact .oA (U2 4096 8212) []
 obtain⟨n,f⟩:=y;obtain⟨y1,y2,y3,y4⟩:=hy;dsimp only at y1 y2 y3 y4;have hwn:=qh (i:=n) oM;have hwf:IntKind.i64.wrap (f+w)=f+w:=AK _ oM;rw[y2];refine sD ?_;refine⟨fun h4=>?_,fun h4=>?_⟩
 ·obtain⟨m,hm⟩:∃ m,2-n=m+1:=⟨1-n,oM⟩;refine C1.im hwo rF rF ?_;simp only[tZ,↓uU,simprocAttr,Bj,Aw];rw[hm,divM,Aq oM];refine⟨oM,fun h5=>?_,fun h5=>?_⟩
  ·rw[Aj h5];exact .oA [] []
  ·simp only[tZ,↓uU,simprocAttr,hwn,hwf];refine⟨(n+1,f+w),⟨by dsimp only;omega,?_,by dsimp only;omega,by dsimp only;omega⟩,by dsimp only;omega,?_⟩
   ·dsimp only;rw[Aq (by rw[h5];simp),show 2-(n+1)=m by omega]
   ·exact .oA (U2 4096 8212) []
 ·have:divM x.high w wo (2-n) f=true:=by
   by_cases e:n=2
   ·subst e;rfl
   ·obtain⟨m,hm⟩:∃ m,2-n=m+1:=⟨1-n,oM⟩;rw[hm,divM,Aj oM]
  rw[this];exact .oA [] []
theorem zn2 (s:Sch) (i lev:Nat):divB s i lev lev=true:=by unfold divB;rw[Aj oM]
theorem JH {s:Sch} {c:Int} (h:schE s=0):finI s c≤59:=by
 by_cases h0:0≤finI s c
 ·obtain⟨_,h1,h2,h3⟩:=yc h0;rw[h3];split
  ·have:=qo3 (l:=qU s c.toNat);omega
  ·rename_i h4;have hok:=qV h;by_cases e:(qg s c.toNat).widths.length=0
   ·omega
   ·have:=hok.wid (i:=c.toNat) oM oM h4 (lev:=1) oM;omega
 ·omega
theorem qv0 (s:Sch) (hs:ki s) (c lev:Int):Sp 126 [schT s,vI c,vI lev] [] (vI (zR s c lev)) []:=by
 refine sIr qZ0 fun e _ hst=>?_;unfold Kz;refine sW ?_;refine C1.im (ko s hs c) rF rF ?_;refine sW ?_;refine C1.im (jT lev 0 (finI s c)) rF rF ?_;simp only[tZ,↓uU,simprocAttr,Bx,Bz];refine⟨fun h=>?_,fun h=>?_⟩
 ·rw[zR,Aj h];exact .oA [] []
 rw[zR,Aq (by rw[h];simp)];rw[yi] at h;obtain⟨hE,c1,c2,hfin⟩:=yc (s:=s) (c:=c) oM;have hfl:=JH (c:=c) hE;have hok:=qV hE;obtain⟨i,rfl⟩:=AJ (show 0≤c by omega);obtain⟨v,rfl⟩:=AJ h.1;simp only[Ax];refine qt mixm (α:=Nat) [7] (fun n=>n≤v∧JE (fun n=>divB s i n v) 64 0=JE (fun n=>divB s i n v) (64-n) n) (fun n=>[(7,vI n)]) (fun n=>[aR 4096 2 [schT s]]) (fun n=>v-n) 0 ⟨oM,rfl⟩ ?_ fun n hn=>?_
 ·exact .oA (U1 4096) []
 obtain⟨n1,n2⟩:=hn;have hwn:=qh (i:=n) oM;refine sW ?_;refine C1.im (qT2 s hok i n v oM oM h.2) rF rF ?_;simp only[tZ,↓uU,simprocAttr,Bx,Bz,hwn];have e:64-n=(63-n)+1:=by omega
 rw[n2,e,JE];refine⟨fun h3=>?_,fun h3=>?_⟩
 ·have hnv:n≠v:=fun k=>by rw[k,zn2] at h3;cases h3
  refine⟨n+1,⟨oM,?_⟩,oM,?_⟩
  ·rw[Aq (by rw[h3];simp),show 63-n=64-(n+1) by omega]
  ·exact .oA (U1 4096) []
 ·rw[Aj h3];exact .oA [] []
abbrev cnT (c:Cnd):T:=.agg [vI c.op,vI c.col,vI c.code,vI c.lo,vI c.hi,vCs c.kids]
theorem jA2 (c:Cnd):(cndT c).cells.length=6∧imL (cndT c).cells=true:=by rw[zh];exact⟨rfl,rfl⟩
theorem qv1 {α:Type} {f:α→T} {l:List α} {i:Nat} (h:l.length≤i):(l.map f).getD i .junk = .junk:=by simp [List.getD,h]
theorem zn3 {α:Type} {l:List α} {i:Nat} (h:i<l.length):l.drop i=l[i]::l.drop (i+1):=List.drop_eq_getElem_cons h
theorem zn4:∀ (c:Cnd) (m:Int),1≤m→m≤1000→Sp 178 [cnT c,vI m] [] (vI (cntC c m)) []:=by
 refine Cnd.ind' fun c ih m hm hm2=>?_;rw[ZA];refine sIr zb1 fun e _ hst=>?_;unfold KM;refine sW ?_;refine qt mixm (α:=Nat×Int) [5,6] (fun y=>y.1≤c.kids.length∧kL c.kids m 1=kL (c.kids.drop y.1) m y.2∧y.2≤m∧y.1+1≤y.2) (fun y=>[(5,vI y.2),(6,vI y.1)]) (fun y=>[aR 4096 6 [cnT c]]) (fun y=>c.kids.length-y.1) (0,1) ⟨sMp,rfl,hm,sMp⟩ ?_ fun y hy=>?_
 ·exact .oA (U1 4096) []
 obtain⟨i,n⟩:=y;obtain⟨y1,y2,y3,y4⟩:=hy;dsimp only at y1 y2 y3 y4;rw[y2];refine sD ?_;refine⟨fun h=>?_,fun h=>?_⟩
 ·have hi:i<c.kids.length:=by omega
  have hwi:=qh (i:=i) oM;have hw:IntKind.i64.wrap (m-n)=m-n:=AK _ oM;have hc:=qF1 c.kids[i] (m-n) oM;have hw2:IntKind.i64.wrap (n+cntC c.kids[i] (m-n))=n+cntC c.kids[i] (m-n):=AK _ oM;simp only[tZ,↓uU,simprocAttr,Ax,qd hi,zh,hw];refine⟨oM,?_⟩;refine C1.im (ih _ (AX hi) (m-n) oM oM) rF rF ?_;simp only[tZ,↓uU,simprocAttr,hw2,hwi];refine⟨(i+1,n+cntC c.kids[i] (m-n)),⟨by dsimp only;omega,?_,by dsimp only;omega,by dsimp only;omega⟩,by dsimp only;omega,?_⟩
  ·dsimp only;rw[zn3 hi,kL,Aj oM]
  ·exact .oA (U1 4096) []
 ·have:kL (c.kids.drop i) m n=n:=by
   by_cases hi:i<c.kids.length
   ·rw[zn3 hi,kL,Aq oM]
   ·rw[List.drop_of_length_le oM,kL]
  rw[this];exact .oA [] []
theorem qC1:∀ (l:List Cnd) (k:Cnd),kj (l++[k])=max (kj l) (depC k)
 | [],k=>by simp [kj]
 | x::r,k=>by rw[BW,kj,qC1 r k,kj];omega
theorem qC2:∀ (l:List Cnd) (i:Nat),kj (l.take i)≤kj l
 | [],i=>by simp
 | x::r,0=>by simp [kj]
 | x::r,i+1=>by rw[List.take_succ_cons,kj,kj];have:=qC2 r i;omega
theorem qg9:∀ {l:List Cnd} {m n:Int},n≤m→kL l m n<m→n+l.length≤kL l m n∧∀ k∈l,∃ m',1≤m'∧m'≤m-n∧cntC k m'<m'
 | [],m,n,_,h=>by rw[kL];simp
 | x::r,m,n,h1,h=>by
   rw[kL] at h ⊢
   split at h
   ·rename_i h2;rw[Aj h2];have h3:=qF1 x (m-n) oM;obtain⟨h4,h5⟩:=qg9 (l:=r) oM h;refine⟨by rw[CJ];omega,fun k hk=>?_⟩;rcases Ck.1 hk with e | hk
    ·subst e;exact⟨m-n,oM,oM,oM⟩
    ·obtain⟨m',a,b,c⟩:=h5 k hk;exact⟨m',a,oM,c⟩
   ·omega
theorem zn5:∀ (c:Cnd) (m:Int),1≤m→m≤1000→cntC c m<m→Sp 179 [cnT c] [] (vI (depC c)) []:=by
 refine Cnd.ind' fun c ih m hm hm2 hc=>?_;have hd:=jp7 c m hm hc;rw[ZA] at hc hd;obtain⟨hk1,hk2⟩:=qg9 oM hc;rw[qB7] at hd ⊢
 refine sIr zb3 fun e _ hst=>?_;unfold KN;refine sW ?_;refine qt mixm (α:=Nat) [3,4] (fun i=>i≤c.kids.length) (fun i=>[(3,vI (kj (c.kids.take i))),(4,vI i)]) (fun i=>[aR 4096 6 [cnT c]]) (fun i=>c.kids.length-i) 0 oM ?_ fun i hi=>?_
 ·refine .of (U1 4096) [] rfl (by first | rfl | (rw[hst];rfl)) ?_ ?_
  all_goals (try simp only[tL,simprocAttr,By,List.map_cons,List.map_nil,BW,Cy,List.take_zero,kj])
  all_goals (try (exact clA))
 have hdt:=qC2 c.kids i;refine sD ?_;refine⟨fun h=>?_,fun h=>?_⟩
 ·have hi2:i<c.kids.length:=by omega
  have hwi:=qh (i:=i) oM;have hs:kj (c.kids.take (i+1))=max (kj (c.kids.take i)) (depC c.kids[i]):=by rw[qS hi2,qC1]
  obtain⟨m',a1,a2,a3⟩:=hk2 _ (AX hi2);simp only[tZ,↓uU,simprocAttr,Ax,qd hi2,zh];refine⟨oM,?_⟩;refine C1.im (ih _ (AX hi2) m' a1 oM a3) rF rF ?_;have hmx:maxI (kj (c.kids.take i):Int) (depC c.kids[i])=(kj (c.kids.take (i+1)):Int):=by rw[hs];unfold maxI;omega
  simp only[tZ,↓uU,simprocAttr,hwi,hmx];refine⟨i+1,oM,oM,?_⟩;exact .oA (U1 4096) []
 ·have hil:i=c.kids.length:=by omega
  subst hil;rw[Bw] at hdt ⊢
  have hw:=qh (i:=kj c.kids) oM;simp only[tZ,↓uU,simprocAttr,hw];exact .oA [] []
theorem zo (s:Sch) (col kind:Int):Sp 237 [schT s,vI col,vI kind] [] (vB (isB s col kind)) []:=by
 by_cases h:0≤col∧col<s.cols.length
 ·obtain⟨i,rfl⟩:=AJ h.1;have hi:i<s.cols.length:=by omega
  have e1:decide ((i:Int)≥0)=true:=Cx oM;have e2:decide ((i:Int)<s.cols.length)=true:=Cx oM;have e3:isB s i kind=(s.cols[i].kind==kind):=by
   rw[isB,Ax,qg,qj hi,Cx h.1,Cx h.2];rfl
  refine sIr qn9 fun e _ hst=>?_;unfold Jz;simp only[tZ,↓uU,simprocAttr,e1,e2,Ax,qd hi];rw[e3];refine⟨oM,?_⟩;exact .oA [] []
 ·have e1:(decide (col≥0)&&decide (col<(s.cols.length:Int)))=false:=by
   rw[FK,Ay,Ay];omega
  have e3:isB s col kind=false:=by
   unfold isB;rw[show (decide (0≤col)&&decide (col<(s.cols.length:Int)))=false from e1];rfl
  rcases Nat.lt_or_ge col.toNat s.cols.length with hk | hk
  ·refine sIr qn9 fun e _ hst=>?_;unfold Jz;simp only[tZ,↓uU,simprocAttr,e1,qd hk];rw[e3];exact .oA [] []
  ·have hj:(s.cols.map colT).getD col.toNat .junk = .junk:=qv1 hk;refine sIr qn9 fun e _ hst=>?_;unfold Jz;simp only[tZ,↓uU,simprocAttr,e1,hj,List.drop_succ_cons,List.drop_nil];rw[e3];exact .oA [] []
set_option maxRecDepth 4000
set_option maxHeartbeats 8000000
theorem qo5:∀ {s:Sch} {l:List Cnd} {i:Nat} (h:i<l.length),Qh s (l.take i)=0→nodE s l[i]≠0→Qh s l=nodE s l[i]
 | s,x::r,0,h,_,h2=>by
   have h2:nodE s x≠0:=h2;rw[Qh,Aj h2];rfl
 | s,x::r,i+1,h,h1,h2=>by
   rw[List.take_succ_cons,Qh] at h1;split at h1
   ·rename_i h3;exact absurd h1 h3
   ·rename_i h3;rw[Qh,Aq h3];exact qo5 (l:=r) (i:=i) (by simpa using h) h1 h2
theorem qC3:∀ {s:Sch} {l:List Cnd} {k:Cnd},Qh s l=0→nodE s k=0→Qh s (l++[k])=0
 | s,[],k,_,h=>by simp [Qh,h]
 | s,x::r,k,h1,h2=>by
   rw[Qh] at h1;split at h1
   ·rename_i h3;exact absurd h1 h3
   ·rename_i h3;rw[BW,Qh,Aq h3];exact qC3 h1 h2
theorem SchOk.list0 {s:Sch} (h:SchOk s) {i:Nat} (hi:i<s.cols.length) (hk:(qg s i).kind≠2):(qg s i).list=0:=by
 have:=h.cs i hi;unfold colE at this
 grind
theorem zA9 (s:Sch) (hok:SchOk s) (hL:0<s.lists.length):∀ (c:Cnd),Sp 180 [schT s,cnT c] [] (vI (nodE s c)) []:=by
 refine Cnd.ind' fun c ih=>?_;have hN0:=zm7 s c;have hn0:=hok.nl;have hn1:=hok.nc;generalize nodE s c=N at hN0 ⊢
 obtain⟨op,col,code,lo,hi,ks⟩:=c;simp only[Cnd.op,Cnd.col,Cnd.code,Cnd.lo,Cnd.hi,Cnd.kids] at ih hN0 ⊢
 have hn:ndE s (.mk op col code lo hi ks)=if op<1∨7<op then 4
 else if ks.length≠arC op∨(op≠2∧op≠3∧op≠4∧col≠0)∨(op≠2∧code≠0)∨(op≠3∧(lo≠0∨hi≠0)) then 11
 else if (op=2∧isB s col 2=false)∨(op=3∧isB s col 3=false)∨(op=4∧(isB s col 3=false∨(qg s col.toNat).opt=false)) then 7
 else if op=2∧(code<0∨code≥(qU s col.toNat).codes.length) then 6
 else if op=3∧(lo < -1000000∨hi>1000000∨lo>hi) then 2 else 0:=rfl
 have hbad:∀ v,v≠0→ndE s (.mk op col code lo hi ks)=v→N=v:=fun v h1 h2=>by rw[hN0,h2,Aj h1]
 have hgood:ndE s (.mk op col code lo hi ks)=0→N=Qh s ks:=fun h2=>by rw[hN0,h2,Aq sMp]
 clear hN0;generalize ndE s (.mk op col code lo hi ks)=E at hn hbad hgood;have h0p:0<s.cols.length:=by omega
 have hg0:(s.cols.map colT).getD 0 .junk=colT s.cols[0]:=qd (i:=0) h0p;have hl0:s.cols[0].list.toNat=0:=by
  have h1:=hok.c0;have:=hok.list0 (i:=0) h0p (by rw[h1];decide);rw[qg,qj h0p] at this;rw[this];rfl
 have hgl:(s.lists.map cdlT).getD 0 .junk=cdlT s.lists[0]:=qd hL;have hop:op=1∨op=2∨op=3∨op=4∨op=5∨op=6∨op=7∨op<1∨7<op:=by omega
 rcases hop with e | e | e | e | e | e | e | e
 focus
  have q1:(op==1)=true:=by rw[e];rfl
  have q2:(op==2)=false:=by rw[e];rfl
  have q3:(op==3)=false:=by rw[e];rfl
  have q4:(op==4)=false:=by rw[e];rfl
  have q5:(op==5)=false:=by rw[e];rfl
  have q6:(op==6)=false:=by rw[e];rfl
  have q7:(op==7)=false:=by rw[e];rfl
  simp [arC,-List.length_eq_zero_iff,e] at hn;refine sIr jC fun e _ hst=>?_;unfold zT;simp only[tZ,↓uU,simprocAttr,cQ,q1,q2,q3,q4,q5,q6,q7];refine⟨kR,fun h=>?_,fun h=>?_⟩
  ·rw[hbad 11 (by decide) (by rw[hn,Aj];grind)];exact .oA [] []
  have hks:ks.length≤2:=by grind
  rw[hgood (by rw[hn,Aq];grind)];have hc0:col.toNat=0:=by grind
  refine C2.im (fun _=>zo s col 2) (fun _=>rfl) rF ?_;simp only[tZ,↓uU,simprocAttr,cQ,q1,q2,q3,q4,q5,q6,q7];refine C2.im (fun _=>zo s col 3) (fun _=>rfl) rF ?_;simp only[tZ,↓uU,simprocAttr,cQ,q1,q2,q3,q4,q5,q6,q7];refine C2.im (fun _=>zo s col 3) (fun _=>rfl) rF ?_;simp only[tZ,↓uU,simprocAttr,cQ,q1,q2,q3,q4,q5,q6,q7,hc0,hg0,hl0,hgl];refine⟨kR,?_⟩
 rotate_left
 focus
  have q1:(op==1)=false:=by rw[e];rfl
  have q2:(op==2)=true:=by rw[e];rfl
  have q3:(op==3)=false:=by rw[e];rfl
  have q4:(op==4)=false:=by rw[e];rfl
  have q5:(op==5)=false:=by rw[e];rfl
  have q6:(op==6)=false:=by rw[e];rfl
  have q7:(op==7)=false:=by rw[e];rfl
  simp [arC,-List.length_eq_zero_iff,e] at hn;refine sIr jC fun e _ hst=>?_;unfold zT;simp only[tZ,↓uU,simprocAttr,cQ,q1,q2,q3,q4,q5,q6,q7];refine⟨kR,?_⟩;refine⟨kR,?_⟩;refine⟨fun h=>?_,fun h=>?_⟩
  ·rw[hbad 11 (by decide) (by rw[hn,Aj];grind)];exact .oA [] []
  have hks:ks.length≤2:=by grind
  rw[Aq (by grind)] at hn;refine C2.im (fun _=>zo s col 2) (fun _=>rfl) rF ?_;simp only[tZ,↓uU,simprocAttr,cQ,q1,q2,q3,q4,q5,q6,q7];refine C2.im (fun _=>zo s col 3) (fun _=>rfl) rF ?_;simp only[tZ,↓uU,simprocAttr,cQ,q1,q2,q3,q4,q5,q6,q7];refine C2.im (fun _=>zo s col 3) (fun _=>rfl) rF ?_;by_cases h2:isB s col 2=false
  ·rw[hbad 7 (by decide) (by rw[hn,Aj (by grind)])];rcases Nat.lt_or_ge col.toNat s.cols.length with hk | hk
   ·simp only[tZ,↓uU,simprocAttr,cQ,q1,q2,q3,q4,q5,q6,q7,h2,qd hk];exact .oA [] []
   ·simp only[tZ,↓uU,simprocAttr,cQ,q1,q2,q3,q4,q5,q6,q7,h2,qv1 hk,List.drop_succ_cons,List.drop_nil];exact .oA [] []
  rw[Ez] at h2;obtain⟨b1,b2,b3⟩:=zu.1 h2;obtain⟨i,hci⟩:∃ i:Nat,col.toNat=i:=⟨_,rfl⟩;rw[hci] at b3
  try rw[hci] at hn
  have hil:i<s.cols.length:=by omega
  have hat:qg s i=s.cols[i]:=by rw[qg,qj hil]
  have hcd:=hok.cdl hil b3;have hcd2:=(zj (hok.cs i hil)).2.2.2.1 b3;have hcl:qU s i=s.lists.getD s.cols[i].list.toNat default:=by rw[qU,hat]
  rw[hat] at hcd hcd2;rw[hcl,qj hcd.1] at hcd;have hn:E=if code<0∨code≥s.lists[s.cols[i].list.toNat].codes.length then 6 else 0:=by
   rw[hn,Aq (by rw[h2];simp)];simp [hil,hcd.1]
  simp only[tZ,↓uU,simprocAttr,cQ,q1,q2,q3,q4,q5,q6,q7,h2,hci,qd hil,qd hcd.1,tD];refine⟨fun _=>by omega,fun _=>by omega,kR,fun h3=>?_,fun h3=>?_⟩
  ·rw[hbad 6 (by decide) (by rw[hn,Aj oM])];exact .oA [] []
  rw[hgood (by rw[hn,Aq oM])]
 rotate_left
 focus
  have q1:(op==1)=false:=by rw[e];rfl
  have q2:(op==2)=false:=by rw[e];rfl
  have q3:(op==3)=true:=by rw[e];rfl
  have q4:(op==4)=false:=by rw[e];rfl
  have q5:(op==5)=false:=by rw[e];rfl
  have q6:(op==6)=false:=by rw[e];rfl
  have q7:(op==7)=false:=by rw[e];rfl
  simp [arC,-List.length_eq_zero_iff,e] at hn;refine sIr jC fun e _ hst=>?_;unfold zT;simp only[tZ,↓uU,simprocAttr,cQ,q1,q2,q3,q4,q5,q6,q7];refine⟨kR,?_⟩;refine⟨kR,?_⟩;refine⟨fun h=>?_,fun h=>?_⟩
  ·rw[hbad 11 (by decide) (by rw[hn,Aj];grind)];exact .oA [] []
  have hks:ks.length≤2:=by grind
  rw[Aq (by grind)] at hn;refine C2.im (fun _=>zo s col 2) (fun _=>rfl) rF ?_;simp only[tZ,↓uU,simprocAttr,cQ,q1,q2,q3,q4,q5,q6,q7];refine C2.im (fun _=>zo s col 3) (fun _=>rfl) rF ?_;simp only[tZ,↓uU,simprocAttr,cQ,q1,q2,q3,q4,q5,q6,q7];refine C2.im (fun _=>zo s col 3) (fun _=>rfl) rF ?_;by_cases h2:isB s col 3=false
  ·rw[hbad 7 (by decide) (by rw[hn,Aj (by grind)])];rcases Nat.lt_or_ge col.toNat s.cols.length with hk | hk
   ·simp only[tZ,↓uU,simprocAttr,cQ,q1,q2,q3,q4,q5,q6,q7,h2,qd hk];exact .oA [] []
   ·simp only[tZ,↓uU,simprocAttr,cQ,q1,q2,q3,q4,q5,q6,q7,h2,qv1 hk,List.drop_succ_cons,List.drop_nil];exact .oA [] []
  rw[Ez] at h2;obtain⟨b1,b2,b3⟩:=zu.1 h2;obtain⟨i,hci⟩:∃ i:Nat,col.toNat=i:=⟨_,rfl⟩;rw[hci] at b3
  try rw[hci] at hn
  have hil:i<s.cols.length:=by omega
  have hat:qg s i=s.cols[i]:=by rw[qg,qj hil]
  have hli:s.cols[i].list.toNat=0:=by
   have:=hok.list0 hil (by rw[b3];decide);rw[hat] at this;rw[this];rfl
  rw[Aq (by rw[h2];simp)] at hn;simp only[tZ,↓uU,simprocAttr,cQ,q1,q2,q3,q4,q5,q6,q7,h2,hci,qd hil,hli,hgl,tD];refine⟨kR,fun h3=>?_,fun h3=>?_⟩
  ·rw[hbad 2 (by decide) (by rw[hn,Aj oM])];exact .oA [] []
  rw[hgood (by rw[hn,Aq oM])]
 rotate_left
 focus
  have q1:(op==1)=false:=by rw[e];rfl
  have q2:(op==2)=false:=by rw[e];rfl
  have q3:(op==3)=false:=by rw[e];rfl
  have q4:(op==4)=true:=by rw[e];rfl
  have q5:(op==5)=false:=by rw[e];rfl
  have q6:(op==6)=false:=by rw[e];rfl
  have q7:(op==7)=false:=by rw[e];rfl
  simp [arC,-List.length_eq_zero_iff,e] at hn;refine sIr jC fun e _ hst=>?_;unfold zT;simp only[tZ,↓uU,simprocAttr,cQ,q1,q2,q3,q4,q5,q6,q7];refine⟨kR,?_⟩;refine⟨fun h=>?_,fun h=>?_⟩
  ·rw[hbad 11 (by decide) (by rw[hn,Aj];grind)];exact .oA [] []
  have hks:ks.length≤2:=by grind
  rw[Aq (by grind)] at hn;refine C2.im (fun _=>zo s col 2) (fun _=>rfl) rF ?_;simp only[tZ,↓uU,simprocAttr,cQ,q1,q2,q3,q4,q5,q6,q7];refine C2.im (fun _=>zo s col 3) (fun _=>rfl) rF ?_;simp only[tZ,↓uU,simprocAttr,cQ,q1,q2,q3,q4,q5,q6,q7];refine C2.im (fun _=>zo s col 3) (fun _=>rfl) rF ?_;by_cases h2:isB s col 3=false
  ·rw[hbad 7 (by decide) (by rw[hn,Aj (by grind)])];rcases Nat.lt_or_ge col.toNat s.cols.length with hk | hk
   ·simp only[tZ,↓uU,simprocAttr,cQ,q1,q2,q3,q4,q5,q6,q7,h2,qd hk];exact .oA [] []
   ·simp only[tZ,↓uU,simprocAttr,cQ,q1,q2,q3,q4,q5,q6,q7,h2,qv1 hk,List.drop_succ_cons,List.drop_nil];exact .oA [] []
  rw[Ez] at h2;obtain⟨b1,b2,b3⟩:=zu.1 h2;obtain⟨i,hci⟩:∃ i:Nat,col.toNat=i:=⟨_,rfl⟩;rw[hci] at b3
  try rw[hci] at hn
  have hil:i<s.cols.length:=by omega
  have hat:qg s i=s.cols[i]:=by rw[qg,qj hil]
  have hli:s.cols[i].list.toNat=0:=by
   have:=hok.list0 hil (by rw[b3];decide);rw[hat] at this;rw[this];rfl
  have hn:E=if s.cols[i].opt=false then 7 else 0:=by
   rw[hn];simp [hil,h2]
  simp only[tZ,↓uU,simprocAttr,cQ,q1,q2,q3,q4,q5,q6,q7,h2,hci,qd hil,hli,hgl,Bx,Bz];refine⟨oM,fun h3=>?_,fun h3=>?_⟩
  ·rw[hbad 7 (by decide) (by rw[hn,Aj h3])];exact .oA [] []
  rw[hgood (by rw[hn,Aq (by rw[h3];simp)])];refine⟨kR,?_⟩
 rotate_left
 focus
  have q1:(op==1)=false:=by rw[e];rfl
  have q2:(op==2)=false:=by rw[e];rfl
  have q3:(op==3)=false:=by rw[e];rfl
  have q4:(op==4)=false:=by rw[e];rfl
  have q5:(op==5)=true:=by rw[e];rfl
  have q6:(op==6)=false:=by rw[e];rfl
  have q7:(op==7)=false:=by rw[e];rfl
  simp [arC,-List.length_eq_zero_iff,e] at hn;refine sIr jC fun e _ hst=>?_;unfold zT;simp only[tZ,↓uU,simprocAttr,cQ,q1,q2,q3,q4,q5,q6,q7];refine⟨kR,fun h=>?_,fun h=>?_⟩
  ·rw[hbad 11 (by decide) (by rw[hn,Aj];grind)];exact .oA [] []
  have hks:ks.length≤2:=by grind
  rw[hgood (by rw[hn,Aq];grind)];have hc0:col.toNat=0:=by grind
  refine C2.im (fun _=>zo s col 2) (fun _=>rfl) rF ?_;simp only[tZ,↓uU,simprocAttr,cQ,q1,q2,q3,q4,q5,q6,q7];refine C2.im (fun _=>zo s col 3) (fun _=>rfl) rF ?_;simp only[tZ,↓uU,simprocAttr,cQ,q1,q2,q3,q4,q5,q6,q7];refine C2.im (fun _=>zo s col 3) (fun _=>rfl) rF ?_;simp only[tZ,↓uU,simprocAttr,cQ,q1,q2,q3,q4,q5,q6,q7,hc0,hg0,hl0,hgl];refine⟨kR,?_⟩
 rotate_left
 focus
  have q1:(op==1)=false:=by rw[e];rfl
  have q2:(op==2)=false:=by rw[e];rfl
  have q3:(op==3)=false:=by rw[e];rfl
  have q4:(op==4)=false:=by rw[e];rfl
  have q5:(op==5)=false:=by rw[e];rfl
  have q6:(op==6)=true:=by rw[e];rfl
  have q7:(op==7)=false:=by rw[e];rfl
  simp [arC,-List.length_eq_zero_iff,e] at hn;refine sIr jC fun e _ hst=>?_;unfold zT;simp only[tZ,↓uU,simprocAttr,cQ,q1,q2,q3,q4,q5,q6,q7];refine⟨kR,fun h=>?_,fun h=>?_⟩
  ·rw[hbad 11 (by decide) (by rw[hn,Aj];grind)];exact .oA [] []
  have hks:ks.length≤2:=by grind
  rw[hgood (by rw[hn,Aq];grind)];have hc0:col.toNat=0:=by grind
  refine C2.im (fun _=>zo s col 2) (fun _=>rfl) rF ?_;simp only[tZ,↓uU,simprocAttr,cQ,q1,q2,q3,q4,q5,q6,q7];refine C2.im (fun _=>zo s col 3) (fun _=>rfl) rF ?_;simp only[tZ,↓uU,simprocAttr,cQ,q1,q2,q3,q4,q5,q6,q7];refine C2.im (fun _=>zo s col 3) (fun _=>rfl) rF ?_;simp only[tZ,↓uU,simprocAttr,cQ,q1,q2,q3,q4,q5,q6,q7,hc0,hg0,hl0,hgl];refine⟨kR,?_⟩
 rotate_left
 focus
  have q1:(op==1)=false:=by rw[e];rfl
  have q2:(op==2)=false:=by rw[e];rfl
  have q3:(op==3)=false:=by rw[e];rfl
  have q4:(op==4)=false:=by rw[e];rfl
  have q5:(op==5)=false:=by rw[e];rfl
  have q6:(op==6)=false:=by rw[e];rfl
  have q7:(op==7)=true:=by rw[e];rfl
  simp [arC,-List.length_eq_zero_iff,e] at hn;refine sIr jC fun e _ hst=>?_;unfold zT;simp only[tZ,↓uU,simprocAttr,cQ,q1,q2,q3,q4,q5,q6,q7];refine⟨kR,fun h=>?_,fun h=>?_⟩
  ·rw[hbad 11 (by decide) (by rw[hn,Aj];grind)];exact .oA [] []
  have hks:ks.length≤2:=by grind
  rw[hgood (by rw[hn,Aq];grind)];have hc0:col.toNat=0:=by grind
  refine C2.im (fun _=>zo s col 2) (fun _=>rfl) rF ?_;simp only[tZ,↓uU,simprocAttr,cQ,q1,q2,q3,q4,q5,q6,q7];refine C2.im (fun _=>zo s col 3) (fun _=>rfl) rF ?_;simp only[tZ,↓uU,simprocAttr,cQ,q1,q2,q3,q4,q5,q6,q7];refine C2.im (fun _=>zo s col 3) (fun _=>rfl) rF ?_;simp only[tZ,↓uU,simprocAttr,cQ,q1,q2,q3,q4,q5,q6,q7,hc0,hg0,hl0,hgl];refine⟨kR,?_⟩
 rotate_left
 focus
  have q1:(op==1)=false:=Ak.2 oM;have q2:(op==2)=false:=Ak.2 oM;have q3:(op==3)=false:=Ak.2 oM;have q4:(op==4)=false:=Ak.2 oM;have q5:(op==5)=false:=Ak.2 oM;have q6:(op==6)=false:=Ak.2 oM;have q7:(op==7)=false:=Ak.2 oM;rw[hbad 4 (by decide) (by rw[hn,Aj e])];refine sIr jC fun e _ hst=>?_;unfold zT;simp only[tZ,↓uU,simprocAttr,cQ,q1,q2,q3,q4,q5,q6,q7];refine⟨kR,?_⟩;exact .oA [] []
 all_goals (
  refine qt mixm (α:=Nat) [7,77,121,147,167] (fun i=>i≤ks.length∧Qh s (ks.take i)=0) (fun i=>[(7,vI i)]) (fun i=>[aR 4096 2 [schT s],aR 4100 6 [.agg [vI op,vI col,vI code,vI lo,vI hi,vCs ks]]]) (fun i=>ks.length-i) 0 ⟨oM,by rw[List.take_zero,Qh]⟩ ?_ fun i hi2=>?_
  ·exact .oA (U2 4096 4100) []
  obtain⟨i1,i2⟩:=hi2;refine sD ?_;refine⟨fun h5=>?_,fun h5=>?_⟩
  ·have hi2:i<ks.length:=by omega
   have hwi:=qh (i:=i) oM;simp only[tZ,↓uU,simprocAttr,Ax,qd hi2,zh];refine⟨oM,?_⟩;refine C1.im (ih _ (AX hi2)) rF rF ?_;simp only[tZ,↓uU,simprocAttr,hwi,Bj,Aw];refine⟨kR,fun h6=>?_,fun h6=>?_⟩
   ·rw[qo5 hi2 i2 h6];exact .oA [] []
   ·refine⟨i+1,⟨oM,by rw[qS hi2];exact qC3 i2 h6⟩,oM,?_⟩;exact .oA (U2 4096 4100) []
  ·have hil:i=ks.length:=by omega
   subst hil;rw[Bw] at i2;rw[i2];exact .oA [] []
  )
end Go.Proofs
