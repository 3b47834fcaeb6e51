/- A part of the proof: trees of Go values, short forms, contracts. -/
import Derived.Test.YtnfagfikoblhfaaGreatDoorK15
set_option linter.unusedSimpArgs false
set_option linter.unusedVariables false
namespace Go.Proofs
open Go Go.TL
namespace Cnd
mutual
theorem ind' {p:Cnd→Prop} (h:∀ c,(∀ k∈c.kids,p k)→p c):∀ c,p c
 | .mk _ _ _ _ _ ks=>h _ (inds h ks)
theorem inds {p:Cnd→Prop} (h:∀ c,(∀ k∈c.kids,p k)→p c):∀ ks:List Cnd,∀ k∈ks,p k
 | [],_,hk=>absurd hk sMp
 | x::r,k,hk=>by
   rcases Ck.1 hk with e | hk
   ·rw[e];exact ind' h x
   ·exact inds h r k hk
end
end Cnd
mutual
def cntC:Cnd→Int→Int
 | .mk _ _ _ _ _ ks,m=>ky ks m 1
def ky:List Cnd→Int→Int→Int
 | [],_,n=>n
 | k::r,m,n=>if n<m then ky r m (n+cntC k (m-n)) else n
end
theorem QT (c:Cnd) (m:Int):cntC c m=ky c.kids m 1:=by cases c;rw[cntC];rfl
mutual
def depC:Cnd→Nat
 | .mk _ _ _ _ _ ks=>jU ks+1
def jU:List Cnd→Nat
 | []=>0
 | k::r=>max (depC k) (jU r)
end
theorem qu2 (c:Cnd):depC c=jU c.kids+1:=by cases c;rw[depC];rfl
def isB (s:Sch) (col kind:Int):Bool:=decide (0≤col)&&decide (col<s.cols.length)&&((qg s col.toNat).kind==kind)
def arC (op:Int):Nat:=if op=5∨op=6 then 2 else if op=7 then 1 else 0
def ndE (s:Sch) (c:Cnd):Int:=
 if c.op<1∨7<c.op then 4
 else if c.kids.length≠arC c.op∨(c.op≠2∧c.op≠3∧c.op≠4∧c.col≠0)∨(c.op≠2∧c.code≠0)∨(c.op≠3∧(c.lo≠0∨c.hi≠0)) then 11
 else if (c.op=2∧isB s c.col 2=false)∨(c.op=3∧isB s c.col 3=false)∨(c.op=4∧(isB s c.col 3=false∨(qg s c.col.toNat).opt=false)) then 7
 else if c.op=2∧(c.code<0∨c.code≥(qX s c.col.toNat).codes.length) then 6
 else if c.op=3∧(c.lo < -1000000∨c.hi>1000000∨c.lo>c.hi) then 2 else 0
mutual
def nodE (s:Sch):Cnd→Int
 | .mk op col code lo hi ks=>if ndE s (.mk op col code lo hi ks)≠0 then ndE s (.mk op col code lo hi ks) else yC s ks
def yC (s:Sch):List Cnd→Int
 | []=>0
 | k::r=>if nodE s k≠0 then nodE s k else yC s r
end
theorem zb1 (s:Sch) (c:Cnd):nodE s c=if ndE s c≠0 then ndE s c else yC s c.kids:=by cases c;rw[nodE];rfl
def chkC (s:Sch) (c:Cnd):Int:=if schE s≠0 then schE s else if cntC c 41>40 then 1 else if depC c>10 then 22 else nodE s c
theorem zo1 {s:Sch}:∀ {l:List Cnd},yC s l=0→∀ k∈l,nodE s k=0
 | [],_,k,hk=>absurd hk sMp
 | x::r,h,k,hk=>by
   rw[yC] at h;split at h
   ·rename_i h1;exact absurd h h1
   ·rename_i h1;rcases Ck.1 hk with e | hk
    ·rw[e];exact AQ h1
    ·exact zo1 h k hk
theorem jB7 {s:Sch} {c:Cnd} (h:nodE s c=0):ndE s c=0∧∀ k∈c.kids,nodE s k=0:=by
 rw[zb1] at h;split at h
 ·rename_i h1;exact absurd h h1
 ·rename_i h1;exact⟨AQ h1,zo1 h⟩
theorem zF {s:Sch} {col kind:Int}:isB s col kind=true↔0≤col∧col<s.cols.length∧(qg s col.toNat).kind=kind:=by
 unfold isB;simp only[Bq,AZ,AY,and_assoc]
structure NdOk (s:Sch) (c:Cnd):Prop where
 op:1≤c.op∧c.op≤7
 nk:c.kids.length=arC c.op
 under:c.op=2→isB s c.col 2=true∧0≤c.code∧c.code<(qX s c.col.toNat).codes.length
 between:c.op=3→isB s c.col 3=true∧-1000000≤c.lo∧c.hi≤1000000∧c.lo≤c.hi
 miss:c.op=4→isB s c.col 3=true∧(qg s c.col.toNat).opt=true
theorem jw5 {s:Sch} {c:Cnd} (h:ndE s c=0):NdOk s c:=by
 unfold ndE at h;split at h
 ·cases h
 rename_i h1;split at h
 ·cases h
 rename_i h2;split at h
 ·cases h
 rename_i h3;split at h
 ·cases h
 rename_i h4;split at h
 ·cases h
 rename_i h5;refine⟨oM,AQ fun e=>h2 (.inl e),fun e=>⟨?_,oM,oM⟩,fun e=>⟨?_,oM,oM,oM⟩,fun e=>⟨?_,?_⟩⟩
 ·cases e2:isB s c.col 2 with
  | true=>rfl
  | false=>exact absurd (.inl ⟨e,e2⟩) h3
 ·cases e2:isB s c.col 3 with
  | true=>rfl
  | false=>exact absurd (.inr (.inl ⟨e,e2⟩)) h3
 ·cases e2:isB s c.col 3 with
  | true=>rfl
  | false=>exact absurd (.inr (.inr ⟨e,.inl e2⟩)) h3
 ·cases e2:(qg s c.col.toNat).opt with
  | true=>rfl
  | false=>exact absurd (.inr (.inr ⟨e,.inr e2⟩)) h3
def isAt (c:Cnd):Bool:=(c.op==2)||(c.op==3)||(c.op==4)
def tf (b:Bool):Int:=if b then 1 else -1
def zl (s:Sch) (c:Cnd) (v:Int):Int:=
 if c.op=2 then tf (YL (qX s c.col.toNat) v c.code)
 else if c.op=3 then (if v=zt then 0 else tf (decide (c.lo≤v)&&decide (v≤c.hi)))
 else if c.op=4 then tf (v==zt) else -1
def jK8 (op:Int) (ks:List Int):Int:=if op=7 then-ks.getD 0 0 else if op=5 then min (ks.getD 0 0) (ks.getD 1 0) else if op=6 then max (ks.getD 0 0) (ks.getD 1 0) else 1
mutual
def evC (s:Sch) (row:List Int):Cnd→Int
 | .mk op col code lo hi ks=>if isAt (.mk op col code lo hi ks)=true then zl s (.mk op col code lo hi ks) (row.getD col.toNat 0) else jK8 op (evCs s row ks)
def evCs (s:Sch) (row:List Int):List Cnd→List Int
 | []=>[]
 | k::r=>evC s row k::evCs s row r
end
def jK9 (s:Sch) (c:Cnd) (row:List Int):Int:=if chkC s c≠0∨rowE s row≠0 then 0 else evC s row c
mutual
def atsC:Cnd→List Cnd
 | .mk op col code lo hi ks=>if isAt (.mk op col code lo hi ks)=true then [.mk op col code lo hi ks] else QU ks
def QU:List Cnd→List Cnd
 | []=>[]
 | k::r=>atsC k++QU r
end
theorem Wo (c:Cnd):atsC c=if isAt c=true then [c] else QU c.kids:=by cases c;rw[atsC];rfl
theorem Qa:∀ (l:List Cnd) (k:Cnd),QU (l++[k])=QU l++atsC k
 | [],k=>by simp [QU]
 | x::r,k=>by simp [QU,Qa r k]
theorem qx2 {s:Sch}:∀ c,nodE s c=0→∀ a∈atsC c,NdOk s a∧isAt a=true:=by
 refine Cnd.ind' fun c ih h a ha=>?_;obtain⟨h1,h2⟩:=jB7 h;rw[Wo] at ha;split at ha
 ·rename_i h3;rw[EZ] at ha;rw[ha];exact⟨jw5 h1,h3⟩
 ·have key:∀ l:List Cnd,(∀ k∈l,k∈c.kids)→a∈QU l→NdOk s a∧isAt a=true:=by
   intro l
   induction l with
   | nil=>intro _ h;simp [QU] at h
   | cons k r ihl=>
     intro hk h;rw[QU,Dz] at h;rcases h with h | h
     ·exact ih k (hk k sMp) (h2 k (hk k sMp)) a h
     ·exact ihl (fun x hx=>hk x (CQ _ hx)) h
  exact key c.kids (fun k hk=>hk) ha
def qu3 (n:Nat) (p:Nat→Nat→Bool):Bool:=(List.range n).all fun i=>(List.range i).all fun k=>p i k
theorem jn4 {p:Nat→Bool} {n:Nat}:(List.range (n+1)).all p=((List.range n).all p&&p n):=by rw[List.range_succ,FW];simp
theorem jw6 {p:Nat→Bool} {n i:Nat} (h:i<n) (hp:p i=false):(List.range n).all p=false:=List.all_eq_false.2 ⟨i,Dk.2 h,by rw[hp];simp⟩
theorem zM0 {p:Nat→Nat→Bool} {n:Nat}:qu3 (n+1) p=(qu3 n p&&(List.range n).all (p n)):=jn4
theorem jn5 {p:Nat→Nat→Bool} {n i k:Nat} (h:i<n) (hk:k<i) (hp:p i k=false):qu3 n p=false:=jw6 h (jw6 hk hp)
def decP (s:Sch) (c:Cnd) (lev:Nat) (i k:Nat):Bool:=
 !((qt s c.col lev ((zd s c.col.toNat).getD i 0)==qt s c.col lev ((zd s c.col.toNat).getD k 0))&&!(zl s c ((zd s c.col.toNat).getD i 0)==zl s c ((zd s c.col.toNat).getD k 0)))
def decB (s:Sch) (c:Cnd) (lev:Nat):Bool:=
 if c.op=2 then qu3 (zd s c.col.toNat).length (decP s c lev)
 else if c.op=4 then decide (0<lev)
 else
  let x:=qg s c.col.toNat
  let first:=decide (x.low<c.lo)&&decide (c.lo≤x.high)
  let behind:=decide (x.low≤c.hi)&&decide (c.hi<x.high)
  if lev=0 then !x.opt&&!first&&!behind
  else (!first||(c.lo.tmod (qU x lev)==0))&&(!behind||((c.hi+1).tmod (qU x lev)==0))
def WD (p:Nat→Bool):Nat→Nat→Nat
 | 0,n=>n
 | f+1,n=>if p n=true then n else WD p f (n+1)
theorem qh6 {p:Nat→Bool} {N:Nat} (h:p N=true):∀ (f n:Nat),n≤N→N-n≤f→p (WD p f n)=true∧WD p f n≤N∧n≤WD p f n∧∀ m,n≤m→m<WD p f n→p m=false
 | 0,n,h1,h2=>by
   have:n=N:=by omega
   subst this;exact⟨h,BZ _,BZ _,fun m h3 h4=>by rw[WD] at h4;omega⟩
 | f+1,n,h1,h2=>by
   rw[WD];split
   ·rename_i hp;exact⟨hp,h1,BZ _,fun m h3 h4=>by omega⟩
   ·rename_i hp;have hn:n≠N:=fun e=>hp (e ▸ h);obtain⟨a,b,c,d⟩:=qh6 h f (n+1) oM oM;refine⟨a,b,oM,fun m h3 h4=>?_⟩;by_cases e:m=n
    ·rw[e];simpa using hp
    ·exact d m oM h4
def decN (s:Sch) (c:Cnd):Nat:=WD (decB s c) 64 0
def qR0 (col lev:Int):List Pk×Bool→Pk→List Pk×Bool:=fun x p=>
 let y:=if p.col>col∧x.2=false then (x.1++[⟨col,lev⟩],true) else x
 if p.col=col then (y.1++[⟨p.col,max p.lev lev⟩],true) else (y.1++[p],y.2)
def qc4 (l:List Pk) (col lev:Int):List Pk:=
 let x:=l.foldl (qR0 col lev) ([],decide (lev≤0))
 if x.2 then x.1 else x.1++[⟨col,lev⟩]
def jR (s:Sch) (c:Cnd):List Pk:=if chkC s c≠0 then [] else (atsC c).foldl (fun l a=>qc4 l a.col (decN s a)) []
def covB (a b:List Pk):Bool:=a.all fun x=>b.any fun y=>(y.col==x.col)&&decide (y.lev≥x.lev)
mutual
def JX:Cnd→Cnd→Bool
 | .mk a1 a2 a3 a4 a5 ks,.mk b1 b2 b3 b4 b5 ls=>(a1==b1)&&(a2==b2)&&(a3==b3)&&(a4==b4)&&(a5==b5)&&wi ks ls
def wi:List Cnd→List Cnd→Bool
 | [],[]=>true
 | k::r,l::t=>JX k l&&wi r t
 | [],_::_=>false
 | _::_,[]=>false
end
theorem zb2 (a b:Cnd):JX a b=((a.op==b.op)&&(a.col==b.col)&&(a.code==b.code)&&(a.lo==b.lo)&&(a.hi==b.hi)&&wi a.kids b.kids):=by cases a;cases b;rw[JX];rfl
theorem qx3:∀ c,∀ m,1≤m→1≤cntC c m∧cntC c m≤m:=by
 refine Cnd.ind' fun c ih m hm=>?_;rw[QT];have key:∀ l:List Cnd,(∀ k∈l,k∈c.kids)→∀ n,1≤n→n≤m→1≤ky l m n∧ky l m n≤m:=by
  intro l
  induction l with
  | nil=>intro _ n h1 h2;rw[ky];exact⟨h1,h2⟩
  | cons k r ihl=>
    intro hk n h1 h2;rw[ky];split
    ·have:=ih k (hk k sMp) (m-n) oM;exact ihl (fun x hx=>hk x (CQ _ hx)) _ oM oM
    ·exact⟨h1,h2⟩
 exact key c.kids (fun k hk=>hk) 1 oM hm
theorem zb3:∀ (l:List Cnd) (m n:Int),n≤m→n≤ky l m n
 | [],m,n,_=>by rw[ky];omega
 | k::r,m,n,h=>by
   rw[ky];split
   ·have:=qx3 k (m-n) oM;have:=zb3 r m (n+cntC k (m-n)) oM;omega
   ·omega
theorem jd3:∀ c,∀ m,1≤m→cntC c m<m→(depC c:Int)≤cntC c m:=by
 refine Cnd.ind' fun c ih m hm h=>?_;rw[QT] at h ⊢
 rw[qu2];have key:∀ l:List Cnd,(∀ k∈l,k∈c.kids)→∀ n,1≤n→n≤m→ky l m n<m→n+jU l≤ky l m n:=by
  intro l
  induction l with
  | nil=>intro _ n h1 h2 _;rw[ky,jU];omega
  | cons k r ihl=>
    intro hk n h1 h2 h3;rw[ky] at h3 ⊢
    rw[jU];split at h3
    ·rename_i h4;rw[Aj h4];have c1:=qx3 k (m-n) oM;have c2:=zb3 r m (n+cntC k (m-n)) oM;have c3:=ih k (hk k sMp) (m-n) oM oM;have c4:=ihl (fun x hx=>hk x (CQ _ hx)) (n+cntC k (m-n)) oM oM h3;omega
    ·omega
 have:=key c.kids (fun k hk=>hk) 1 oM oM h;omega
def jb (f:Nat→Int):Nat→Int
 | 0=>0
 | n+1=>if jb f n≠0 then jb f n else f n
theorem zo2 {f:Nat→Int} {i:Nat} (h:jb f i≠0):∀ n,i≤n→jb f n=jb f i:=by
 intro n hn
 induction n with
 | zero=>have:i=0:=by omega
         rw[this]
 | succ n ih=>
   by_cases e:i=n+1
   ·rw[e]
   ·have:=ih oM;rw[jb,this,Aj h]
theorem Kw {f:Nat→Int}:∀ {n:Nat},jb f n=0→∀ i,i<n→f i=0
 | 0,_,i,h=>by omega
 | n+1,h,i,hi=>by
   rw[jb] at h;split at h
   ·rename_i h2;exact absurd h h2
   ·rename_i h2;by_cases e:i=n
    ·rw[e];exact h
    ·exact Kw (AQ h2) i oM
theorem YM {f:Nat→Int}:∀ {n:Nat},(∀ i,i<n→f i=0)→jb f n=0
 | 0,_=>rfl
 | n+1,h=>by
   rw[jb,YM fun i hi=>h i oM,Aq sMp];exact h n oM
theorem kK {f:Nat→Int} {n:Nat} (h:jb f n=0):jb f (n+1)=f n:=by rw[jb,Aq (by rw[h];simp)]
theorem Zp {f:Nat→Int} {i n:Nat} (h:jb f i=0) (hi:i<n) (hf:f i≠0):jb f n=f i:=by
 rw[zo2 (i:=i+1) (by rw[kK h];exact hf) n oM,kK h]
def Qq (s:Sch) (p:Pk):Int:=if schE s≠0 then schE s else if p.col<1∨p.col≥s.cols.length then 7 else if inB p.lev 0 (finI s p.col)=false then 8 else 0
abbrev pkAt (l:List Pk) (i:Nat):Pk:=l.getD i default
def zo3 (s:Sch) (l:List Pk) (i:Nat):Int:=if Qq s (pkAt l i)≠0 then Qq s (pkAt l i) else if 0<i∧(pkAt l i).col≤(pkAt l (i-1)).col then 10 else 0
def qn9 (s:Sch) (l:List Pk):Int:=if schE s≠0 then schE s else jb (zo3 s l) l.length
def dimE (s:Sch) (l:List Pk) (i:Nat):Int:=if Qq s (pkAt l i)≠0 then Qq s (pkAt l i) else if isB s (pkAt l i).col 2=false then 7 else if ((l.take i).any fun x=>x.col==(pkAt l i).col)=true then 10 else 0
def ZS (s:Sch) (l:List Pk):Int:=if l.length<1∨l.length>3 then 1 else jb (dimE s l) l.length
def qJ9 (s:Sch) (m:Int) (l:List Int) (i:Nat):Int:=if isB s (l.getD i 0) 3=false then 7 else if l.getD i 0=m∨(l.take i).contains (l.getD i 0)=true then 10 else 0
def wj (s:Sch) (m:Int) (l:List Int):Int:=if l.length<1∨l.length>3 then 1 else jb (qJ9 s m l) l.length
def kU (s:Sch) (q:Qst):Int:=
 if q.kind=1 then (if ZS s q.dims≠0 then ZS s q.dims else if q.meas≠-1∧isB s q.meas 3=false then 7 else 0)
 else if q.kind=2 then (if isB s q.meas 3=false then 7 else wj s q.meas q.terms)
 else if isB s q.meas 3=false then 7 else if (qg s q.meas.toNat).low<0 then 2 else chkC s q.event
def qstE (s:Sch) (q:Qst):Int:=
 if schE s≠0 then schE s else if ju q.name=false then 3 else if q.kind<1∨3<q.kind then 4
 else if chkC s q.filt≠0 then chkC s q.filt else if kU s q≠0 then kU s q
 else if (q.kind≠1∧0<q.dims.length)∨(q.kind≠2∧0<q.terms.length)∨(q.kind≠3∧JX q.event cnd0=false) then 11 else 0
abbrev qAt (l:List Qst) (i:Nat):Qst:=l.getD i default
def qsE (s:Sch) (l:List Qst) (i:Nat):Int:=if qstE s (qAt l i)≠0 then qstE s (qAt l i) else if ((l.take i).any fun x=>eqB x.name (qAt l i).name)=true then 10 else 0
def smpE (x:Smp):Int:=if x.of<1∨x.of>1000∨x.part<1∨x.part>x.of∨x.seed<0∨x.seed>1099511627776 then 2 else 0
def dclE (s:Sch) (d:Dcl):Int:=
 if schE s≠0 then schE s else if ju d.proj=false∨ju d.src=false then 3 else if chkC s d.coh≠0 then chkC s d.coh
 else if smpE d.smp≠0 then 2 else if d.qs.length<1∨d.qs.length>8 then 1 else jb (qsE s d.qs) d.qs.length
theorem qh7 {s:Sch} {d:Dcl} (h:dclE s d=0):schE s=0∧ju d.proj=true∧ju d.src=true∧chkC s d.coh=0∧smpE d.smp=0∧1≤d.qs.length∧d.qs.length≤8∧∀ i,i<d.qs.length→qstE s (qAt d.qs i)=0:=by
 unfold dclE at h;split at h
 ·rename_i h1;exact absurd h h1
 rename_i h1;split at h
 ·cases h
 rename_i h2;split at h
 ·rename_i h3;exact absurd h h3
 rename_i h3;split at h
 ·cases h
 rename_i h4;split at h
 ·cases h
 rename_i h5;refine⟨AQ h1,?_,?_,AQ h3,AQ h4,oM,oM,fun i hi=>?_⟩
 ·cases e:ju d.proj with
  | true=>rfl
  | false=>exact absurd (.inl e) h2
 ·cases e:ju d.src with
  | true=>rfl
  | false=>exact absurd (.inr e) h2
 ·have:=Kw h i hi;unfold qsE at this;split at this
  ·rename_i h6;exact absurd this h6
  ·rename_i h6;exact AQ h6
theorem jd4 {s:Sch} {l:List Pk} (h:qn9 s l=0):schE s=0∧(∀ p∈l,Qq s p=0)∧l.Pairwise fun a b=>a.col<b.col:=by
 unfold qn9 at h;split at h
 ·rename_i h1;exact absurd h h1
 rename_i h1;have key:∀ i,i<l.length→Qq s (pkAt l i)=0∧¬ (0<i∧(pkAt l i).col≤(pkAt l (i-1)).col):=fun i hi=>by
  have:=Kw h i hi;unfold zo3 at this;split at this
  ·rename_i h2;exact absurd this h2
  rename_i h2;split at this
  ·cases this
  ·rename_i h3;exact⟨AQ h2,h3⟩
 refine⟨AQ h1,fun p hp=>?_,?_⟩
 ·obtain⟨i,hi,rfl⟩:=CX hp;have:=(key i hi).1;rw[pkAt,qk hi] at this;exact this
 ·rw[DX];have k2:∀ (d i:Nat) (hj:i+d+1<l.length),(l[i]'oM).col<l[i+d+1].col:=by
   intro d
   induction d with
   | zero=>
     intro i hj;have:=(key (i+1) oM).2;rw[pkAt,pkAt,qk oM,qk oM] at this;simp at this;simpa using this
   | succ d ih=>
     intro i hj;have h1:=ih i oM;have h2:=(key (i+d+1+1) oM).2;rw[pkAt,pkAt,qk oM,qk oM] at h2;simp only[Nat.add_sub_cancel] at h2;have e:i+(d+1)+1=i+d+1+1:=by omega
     simp only[e];omega
  intro i j hi hj hij;have:=k2 (j-i-1) i oM;have e:i+(j-i-1)+1=j:=by omega
  simp only[e] at this;exact this
theorem zb4 {s:Sch} {p:Pk} (h:Qq s p=0):schE s=0∧1≤p.col∧p.col<s.cols.length∧0≤p.lev∧p.lev≤finI s p.col:=by
 unfold Qq at h;split at h
 ·rename_i h1;exact absurd h h1
 rename_i h1;split at h
 ·cases h
 rename_i h2;split at h
 ·cases h
 rename_i h3;rw[Ez,inB,Bq,AZ,AZ] at h3;exact⟨AQ h1,oM,oM,h3.1,h3.2⟩
def divM (high w wo:Int):Nat→Int→Bool
 | 0,_=>true
 | k+1,f=>if f>high then true else if f.tmod wo≠0 then false else divM high w wo k (f+w)
def divP (s:Sch) (col:Nat) (L:List Int) (other lev:Nat) (i k:Nat):Bool:=
 !(!(qt s col lev (L.getD i 0)==qt s col lev (L.getD k 0))&&(qt s col other (L.getD i 0)==qt s col other (L.getD k 0)))
def divB (s:Sch) (col other lev:Nat):Bool:=
 if lev=0∨lev≤other then true
 else if (qg s col).kind=2 then qu3 (zd s col).length (divP s col (zd s col) other lev)
 else
  let x:=qg s col
  let w:=qU x lev
  let first:=(qQ x.low w+1)*w
  if other=0 then !x.opt&&decide (first>x.high)
  else divM x.high w (qU x other) 2 first
def wl (s:Sch) (col lev:Int):Int:=if inB lev 0 (finI s col)=false then -1 else WD (fun n=>divB s col.toNat n lev.toNat) 64 0
def zo4 (q:Qst) (k:Int):Bool:=(q.meas==k)||q.terms.contains k
def JY (l m:List Pk):List Pk:=m.foldl (fun l p=>qc4 l p.col p.lev) l
def qx4 (s:Sch) (q:Qst):List Pk→Nat→List Pk:=fun l k=>if zo4 q (k+1)=true then qc4 l (k+1) (wl s (k+1) (finI s (k+1))) else l
def jB8 (s:Sch) (q:Qst) (l:List Pk):List Pk:=(List.range (s.cols.length-1)).foldl (qx4 s q) l
def kM (s:Sch) (q:Qst):List Pk:=if qstE s q≠0 then [] else
 jB8 s q (q.dims.foldl (fun l p=>qc4 l p.col (wl s p.col p.lev)) (if q.kind=3 then JY (jR s q.filt) (jR s q.event) else jR s q.filt))
def sufB (s:Sch) (q:Qst) (l:List Pk):Bool:=(qstE s q==0)&&(qn9 s l==0)&&covB (kM s q) l
def zO (s:Sch) (d:Dcl):List Pk:=if dclE s d≠0 then [] else d.qs.foldl (fun l q=>JY l (kM s q)) []
def zo5 (s:Sch) (d:Dcl) (l:List Pk):Int:=if dclE s d≠0 then dclE s d else if qn9 s l≠0 then qn9 s l else jb (fun i=>if sufB s (qAt d.qs i) l=true then 0 else 23) d.qs.length
theorem ZT {s:Sch} {c:Int} (h:0≤finI s c):schE s=0∧1≤c∧c<s.cols.length∧finI s c=(if (qg s c.toNat).kind=2 then zA (qX s c.toNat)-1 else (qg s c.toNat).widths.length):=by
 unfold finI at h ⊢
 split at h
 ·omega
 ·rename_i h1;rw[Aq h1];exact⟨oM,oM,oM,rfl⟩
theorem Qr {n lo hi:Int}:inB n lo hi=true↔lo≤n∧n≤hi:=by simp [inB]
theorem qK0 {n lo hi:Int}:inB n lo hi=false↔n<lo∨hi<n:=by
 rw[← Bool.not_eq_true,Qr];omega
theorem SchOk.wid {s:Sch} (h:SchOk s) {i:Nat} (hi:i<s.cols.length) (h0:0<i) (hk:(qg s i).kind≠2) {lev:Int} (hl:1≤lev∧lev≤(qg s i).widths.length) :
 1≤qU (qg s i) lev∧qU (qg s i) lev≤1000000∧(qg s i).kind=3∧(qg s i).widths.length≤4∧-1000000≤(qg s i).low∧(qg s i).high≤1000000∧(qg s i).low≤(qg s i).high∧qU (qg s i) (qg s i).widths.length=1:=by
 have hk2:=zo (h.cs i hi);have hk3:(qg s i).kind=3:=by have:=hk2.2.2.1 h0;omega
 have hm:=hk2.2.2.2.2 hk3;generalize qg s i=c at hl hm hk3 ⊢
 unfold measE at hm;split at hm
 ·cases hm
 rename_i h1;split at hm
 ·cases hm
 rename_i h2;split at hm
 ·cases hm
 rename_i h3;rw[Ez] at h3;have hw:∀ j,j<c.widths.length→wdOk c.widths j=true:=fun j hj=>Bk.1 h3 j (Dk.2 hj);have e1:inB c.low (-1000000) 1000000=true:=by grind
 have e2:inB c.high (-1000000) 1000000=true:=by grind
 rw[Qr] at e1 e2;have hn:((c.widths.length:Int)-lev).toNat<c.widths.length:=by omega
 have hp:=zo0 (ws:=c.widths) hw _ hn;have h0:=hw 0 oM;rw[wdOk,Aj rfl,AY] at h0;have hmax:c.widths.getD ((c.widths.length:Int)-lev).toNat 0≤1000000:=by
  have:=hw _ hn;unfold wdOk at this;split at this
  ·rename_i e;rw[e,h0];omega
  ·simp only[Bq,AZ] at this;omega
 refine⟨hp,hmax,hk3,oM,oM,oM,oM,?_⟩;rw[qU,show ((c.widths.length:Int)-c.widths.length).toNat=0 by omega,h0]
theorem yp {v w:Int} (hw:0<w):v-w<qQ v w*w∧qQ v w*w≤v:=by
 unfold qQ;rw[DW _ oM,Int.mul_comm];have h1:=Int.mul_ediv_add_emod v w;have h2:=Int.emod_nonneg v (b:=w) oM;have h3:=Int.emod_lt_of_pos v hw;omega
theorem qd9 (s:Sch) (hs:yZ s) (c lev v:Int):Sp 23 [schT s,vI c,vI lev,vI v] [] (vI (qt s c lev v)) []:=by
 refine sIr qG7 fun e _ hst=>?_;unfold Zv;refine sW ?_;refine C1.im (JW s hs c) rF rF ?_;refine sW ?_;refine C1.im (jV lev 0 (finI s c)) rF rF ?_;simp only[tZ,↓un_u,simprocAttr,Bx,Bz];refine⟨fun h=>?_,fun h=>?_⟩
 ·rw[qt,Aj h];exact .oA [] []
 rw[Qr] at h;obtain⟨hE,c1,c2,hfin⟩:=ZT (s:=s) (c:=c) oM;have hok:=zc hE;obtain⟨i,rfl⟩:=AJ (show 0≤c by omega);rw[Ax] at hfin;have hi:i<s.cols.length:=by omega
 have hat:qg s i=s.cols[i]:=by rw[qg,qk hi]
 have hk:=zo (hok.cs i hi);have hcd:=fun e=>hok.cdl hi e;have hwd:=fun e l=>hok.wid hi oM e (lev:=l);have hcl:qX s i=s.lists.getD s.cols[i].list.toNat default:=by rw[qX,hat]
 have hE2:qt s i lev v=if s.cols[i].kind=2 then (if qV s i v=false then -1 else upC (qX s i) v lev)
  else if v≠zt∧inB v (-1000000) 1000000=false then -1
  else if lev=0 then 0 else if v=zt then v else qQ v (qU s.cols[i] lev)*qU s.cols[i] lev:=by
  rw[qt,Aq (by rw[Ez,Qr];exact h),Ax,hat]
 rw[hE2];rw[hat] at hk hcd hwd hfin;rw[hcl] at hcd ⊢
 simp only[tZ,↓un_u,simprocAttr,Ax,qd hi];have hho:=Wn s hok i hi v;generalize s.cols[i]=x at hk hcd hwd hfin ⊢
 simp only[tZ,↓un_u,simprocAttr,AY,Ak];refine⟨oM,fun h2=>?_,fun h2=>?_⟩
 ·rw[Aj h2];obtain⟨d1,d2⟩:=hcd h2;obtain⟨d3,d4⟩:=hk.2.2.2.1 h2;have hgl:s.lists.getD x.list.toNat default=s.lists[x.list.toNat]:=qk d1;rw[hgl] at d2 ⊢
  obtain⟨_,d5,d6⟩:=zq d2;refine C1.im hho rF rF ?_;simp only[tZ,↓un_u,simprocAttr,Bx,Bz];refine⟨fun h3=>?_,fun h3=>?_⟩
  ·rw[Aj h3];exact .oA [] []
  rw[Aq (by rw[h3];simp)];simp only[tZ,↓un_u,simprocAttr,qd d1];generalize s.lists[x.list.toNat]=l at d2 d5 d6 ⊢
  refine⟨oM,?_⟩;refine C1.im (qV0 l v lev oM) rF rF ?_;refine sW ?_;exact .oA [] []
 rw[Aq h2];rw[Aq h2] at hfin;refine C2.im (fun _=>jV v (-1000000) 1000000) (fun _=>rfl) rF ?_;simp only[tZ,↓un_u,simprocAttr,tD,Bj,Aw,Bx,Bz,AY,Ak];rw[show (-1099511627776:Int)=zt from rfl];refine⟨fun h3=>?_,fun h3=>?_⟩
 ·rw[Aj h3];exact .oA [] []
 rw[Aq (by grind)];refine⟨fun h4=>?_,fun h4=>?_⟩
 ·rw[Aj h4];exact .oA [] []
 rw[Aq h4];refine⟨fun h5=>?_,fun h5=>?_⟩
 ·rw[Aj h5];exact .oA [] []
 rw[Aq h5];have hv:inB v (-1000000) 1000000=true:=by grind
 rw[Qr] at hv;obtain⟨w1,w2,w3,w4,_⟩:=hwd h2 lev oM;have hfm:=yp (v:=v) (w:=qU x lev) oM;have hw:IntKind.i64.wrap (qQ v (qU x lev)*qU x lev)=qQ v (qU x lev)*qU x lev:=AK _ oM;refine C1.im (zb0 x lev oM oM) rF rF ?_;refine sW ?_;refine C1.im (za9 v (qU x lev) oM oM) rF rF ?_;simp only[tZ,↓un_u,simprocAttr,hw];exact .oA [] []
theorem zo6 (s:Sch) (hs:yZ s) (p:Pk):Sp 128 [schT s,pkT p] [] (vI (Qq s p)) []:=by
 refine sIr qZ7 fun e _ hst=>?_;unfold KZ;refine sW ?_;refine C1.im (Zj s hs) rF rF ?_;simp only[tZ,↓un_u,simprocAttr,tD,Bj,Aw];refine⟨fun h=>?_,fun h=>⟨fun h2=>?_,fun h2=>?_⟩⟩
 ·rw[Qq,Aj h];exact .oA [] []
 ·rw[Qq,Aq (by rw[h];simp),Aj oM];exact .oA [] []
 rw[Qq,Aq (by rw[h];simp),Aq oM];refine C1.im (JW s hs p.col) rF rF ?_;refine sW ?_;refine C1.im (jV p.lev 0 (finI s p.col)) rF rF ?_;simp only[tZ,↓un_u,simprocAttr,Bx,Bz];refine⟨kR,fun h3=>?_,fun h3=>?_⟩
 ·rw[Aj h3];exact .oA [] []
 ·rw[Aq (by rw[h3];simp)];exact .oA [] []
theorem qC2 {x y:Pk}:eqPk x y=true↔x=y:=by
 cases x;cases y;simp [eqPk]
theorem qu4 (a b:List Pk) (ha:a.length<4611686018427387904):Sp 16 [vPs a,vPs b] [] (vB (qJ3 a b)) []:=by
 refine sIr qk3 fun e _ hst=>?_;unfold wW;simp only[tZ,↓un_u,simprocAttr,Bj,Aw];refine⟨fun h=>?_,fun h=>?_⟩
 ·rw[qJ3,zF5 oM];exact .oA [] []
 have hl:a.length=b.length:=by omega
 refine qy mixm (α:=Nat) [5] (fun i=>i≤a.length∧(qJ3 (a.take i) (b.take i)=true)) (fun i=>[(5,vI i)]) (fun i=>[]) (fun i=>a.length-i) 0 ⟨oM,?_⟩ ?_ fun i hi=>?_
 ·rfl
 ·exact .oA [] []
 simp only[tZ,↓un_u,simprocAttr,AZ,Ay];refine⟨fun h=>?_,fun h=>?_⟩
 ·have hib:i<b.length:=by omega
  have hi2:i<a.length:=by omega
  have hwi:=qh (i:=i) oM;simp only[tZ,↓un_u,simprocAttr,Ax,qd hi2,hwi,qd hib];rw[show (a[i].col==b[i].col&&a[i].lev==b[i].lev)=eqPk a[i] b[i] from rfl];refine⟨oM,oM,kR,fun h3=>?_,fun h3=>⟨i+1,⟨oM,?_⟩,oM,?_⟩⟩
  ·rw[qJ3,zu0 (i:=i) hl oM h3];exact .oA [] []
  ·rw[qJ3,qU6 hi2 hib,← qJ3,hi.2];simpa using h3
  ·exact .oA [] []
 ·have hi2:i=a.length:=by omega
  subst hi2;have h3:=hi.2;rw[Bw,List.take_of_length_le oM] at h3;rw[h3];exact .oA [] []
theorem zM1 {s:Sch} (h:SchOk s) {i:Nat} (hi:i<s.cols.length) (h2:(qg s i).kind=2):(zd s i).length≤60:=by
 obtain⟨d1,d2⟩:=h.cdl hi h2;obtain⟨_,d5,d6⟩:=zq d2;unfold zd atL;rw[Aq (by rw[d2];simp),BY];have:=Fq (fun i=>(dep (qX s i).codes i:Int)==zA (qX s i)-1) (List.range (qX s i).codes.length);refine FX (Fq _ _) ?_;rw[List.length_range];exact d6
theorem zH2 (s:Sch) (i lev:Nat):divB s i lev lev=true:=by unfold divB;rw[Aj oM]
theorem YN {s:Sch} {c:Int} (h:schE s=0):finI s c≤59:=by
 by_cases h0:0≤finI s c
 ·obtain⟨_,h1,h2,h3⟩:=ZT h0;rw[h3];split
  ·have:=qu1 (l:=qX s c.toNat);omega
  ·rename_i h4;have hok:=zc h;by_cases e:(qg s c.toNat).widths.length=0
   ·omega
   ·have:=hok.wid (i:=c.toNat) oM oM h4 (lev:=1) oM;omega
 ·omega
abbrev cnT (c:Cnd):T:=.agg [vI c.op,vI c.col,vI c.code,vI c.lo,vI c.hi,vCs c.kids]
theorem jn6 (c:Cnd):(cndT c).cells.length=6∧imL (cndT c).cells=true:=by rw[zp];exact⟨rfl,rfl⟩
theorem qo0 {α:Type} {f:α→T} {l:List α} {i:Nat} (h:l.length≤i):(l.map f).getD i .junk = .junk:=by simp [List.getD,h]
theorem zb5 {α:Type} {l:List α} {i:Nat} (h:i<l.length):l.drop i=l[i]::l.drop (i+1):=List.drop_eq_getElem_cons h
theorem zb6:∀ (c:Cnd) (m:Int),1≤m→m≤1000→Sp 178 [cnT c,vI m] [] (vI (cntC c m)) []:=by
 refine Cnd.ind' fun c ih m hm hm2=>?_;rw[QT];refine sIr qP9 fun e _ hst=>?_;unfold JP;refine sW ?_;refine qy mixm (α:=Nat×Int) [5,6] (fun y=>y.1≤c.kids.length∧ky c.kids m 1=ky (c.kids.drop y.1) m y.2∧y.2≤m∧y.1+1≤y.2) (fun y=>[(5,vI y.2),(6,vI y.1)]) (fun y=>[aR 4096 6 [cnT c]]) (fun y=>c.kids.length-y.1) (0,1) ⟨sMp,rfl,hm,sMp⟩ ?_ fun y hy=>?_
 ·exact .oA (U1 4096) []
 obtain⟨i,n⟩:=y;obtain⟨y1,y2,y3,y4⟩:=hy;dsimp only at y1 y2 y3 y4;rw[y2];refine sD ?_;refine⟨fun h=>?_,fun h=>?_⟩
 ·have hi:i<c.kids.length:=by omega
  have hwi:=qh (i:=i) oM;have hw:IntKind.i64.wrap (m-n)=m-n:=AK _ oM;have hc:=qx3 c.kids[i] (m-n) oM;have hw2:IntKind.i64.wrap (n+cntC c.kids[i] (m-n))=n+cntC c.kids[i] (m-n):=AK _ oM;simp only[tZ,↓un_u,simprocAttr,Ax,qd hi,zp,hw];refine⟨oM,?_⟩;refine C1.im (ih _ (AX hi) (m-n) oM oM) rF rF ?_;simp only[tZ,↓un_u,simprocAttr,hw2,hwi];refine⟨(i+1,n+cntC c.kids[i] (m-n)),⟨by dsimp only;omega,?_,by dsimp only;omega,by dsimp only;omega⟩,by dsimp only;omega,?_⟩
  ·dsimp only;rw[zb5 hi,ky,Aj oM]
  ·exact .oA (U1 4096) []
 ·have:ky (c.kids.drop i) m n=n:=by
   by_cases hi:i<c.kids.length
   ·rw[zb5 hi,ky,Aq oM]
   ·rw[List.drop_of_length_le oM,ky]
  rw[this];exact .oA [] []
theorem qu5:∀ (l:List Cnd) (k:Cnd),jU (l++[k])=max (jU l) (depC k)
 | [],k=>by simp [jU]
 | x::r,k=>by rw[BW,jU,qu5 r k,jU];omega
theorem qu6:∀ (l:List Cnd) (i:Nat),jU (l.take i)≤jU l
 | [],i=>by simp
 | x::r,0=>by simp [jU]
 | x::r,i+1=>by rw[List.take_succ_cons,jU,jU];have:=qu6 r i;omega
theorem qa6:∀ {l:List Cnd} {m n:Int},n≤m→ky l m n<m→n+l.length≤ky l m n∧∀ k∈l,∃ m',1≤m'∧m'≤m-n∧cntC k m'<m'
 | [],m,n,_,h=>by rw[ky];simp
 | x::r,m,n,h1,h=>by
   rw[ky] at h ⊢
   split at h
   ·rename_i h2;rw[Aj h2];have h3:=qx3 x (m-n) oM;obtain⟨h4,h5⟩:=qa6 (l:=r) oM h;refine⟨by rw[CJ];omega,fun k hk=>?_⟩;rcases Ck.1 hk with e | hk
    ·subst e;exact⟨m-n,oM,oM,oM⟩
    ·obtain⟨m',a,b,c⟩:=h5 k hk;exact⟨m',a,oM,c⟩
   ·omega
theorem zb7:∀ (c:Cnd) (m:Int),1≤m→m≤1000→cntC c m<m→Sp 179 [cnT c] [] (vI (depC c)) []:=by
 refine Cnd.ind' fun c ih m hm hm2 hc=>?_;have hd:=jd3 c m hm hc;rw[QT] at hc hd;obtain⟨hk1,hk2⟩:=qa6 oM hc;rw[qu2] at hd ⊢
 refine sIr qQ1 fun e _ hst=>?_;unfold JQ;refine sW ?_;refine qy mixm (α:=Nat) [3,4] (fun i=>i≤c.kids.length) (fun i=>[(3,vI (jU (c.kids.take i))),(4,vI i)]) (fun i=>[aR 4096 6 [cnT c]]) (fun i=>c.kids.length-i) 0 oM ?_ fun i hi=>?_
 ·refine .of (U1 4096) [] rfl (by first | rfl | (rw[hst];rfl)) ?_ ?_
  all_goals (try simp only[tL,simprocAttr,By,List.map_cons,List.map_nil,BW,Cy,List.take_zero,jU])
  all_goals (try (repeat' (first | exact qY | (apply zf;intro _;exact⟨rfl,rfl⟩) | (apply qj;intro _;exact⟨rfl,rfl⟩) | with_reducible apply qS | with_reducible refine qz ⟨rfl,rfl⟩ ?_ | exact qK | with_reducible apply qR | with_reducible refine qT ⟨rfl,rfl,?_⟩ ?_ | with_reducible apply Az | exact qO rfl | exact qO (by assumption) | (refine⟨⟨?_,rfl,?_,rfl,?_⟩,trivial⟩ <;> first | (simp;done) | (apply qj;intro _;exact⟨rfl,rfl⟩)) | trivial | rfl | (rw[qh oM]) | omega)))
 have hdt:=qu6 c.kids i;refine sD ?_;refine⟨fun h=>?_,fun h=>?_⟩
 ·have hi2:i<c.kids.length:=by omega
  have hwi:=qh (i:=i) oM;have hs:jU (c.kids.take (i+1))=max (jU (c.kids.take i)) (depC c.kids[i]):=by rw[qZ hi2,qu5]
  obtain⟨m',a1,a2,a3⟩:=hk2 _ (AX hi2);simp only[tZ,↓un_u,simprocAttr,Ax,qd hi2,zp];refine⟨oM,?_⟩;refine C1.im (ih _ (AX hi2) m' a1 oM a3) rF rF ?_;have hmx:maxI (jU (c.kids.take i):Int) (depC c.kids[i])=(jU (c.kids.take (i+1)):Int):=by rw[hs];unfold maxI;omega
  simp only[tZ,↓un_u,simprocAttr,hwi,hmx];refine⟨i+1,oM,oM,?_⟩;exact .oA (U1 4096) []
 ·have hil:i=c.kids.length:=by omega
  subst hil;rw[Bw] at hdt ⊢
  have hw:=qh (i:=jU c.kids) oM;simp only[tZ,↓un_u,simprocAttr,hw];exact .oA [] []
theorem zi (s:Sch) (col kind:Int):Sp 237 [schT s,vI col,vI kind] [] (vB (isB s col kind)) []:=by
 by_cases h:0≤col∧col<s.cols.length
 ·obtain⟨i,rfl⟩:=AJ h.1;have hi:i<s.cols.length:=by omega
  have e1:decide ((i:Int)≥0)=true:=Cx oM;have e2:decide ((i:Int)<s.cols.length)=true:=Cx oM;have e3:isB s i kind=(s.cols[i].kind==kind):=by
   rw[isB,Ax,qg,qk hi,Cx h.1,Cx h.2];rfl
  refine sIr qh2 fun e _ hst=>?_;unfold ZN;simp only[tZ,↓un_u,simprocAttr,e1,e2,Ax,qd hi];rw[e3];refine⟨oM,?_⟩;exact .oA [] []
 ·have e1:(decide (col≥0)&&decide (col<(s.cols.length:Int)))=false:=by
   rw[FK,Ay,Ay];omega
  have e3:isB s col kind=false:=by
   unfold isB;rw[show (decide (0≤col)&&decide (col<(s.cols.length:Int)))=false from e1];rfl
  rcases Nat.lt_or_ge col.toNat s.cols.length with hk | hk
  ·refine sIr qh2 fun e _ hst=>?_;unfold ZN;simp only[tZ,↓un_u,simprocAttr,e1,qd hk];rw[e3];exact .oA [] []
  ·have hj:(s.cols.map colT).getD col.toNat .junk = .junk:=qo0 hk;refine sIr qh2 fun e _ hst=>?_;unfold ZN;simp only[tZ,↓un_u,simprocAttr,e1,hj,List.drop_succ_cons,List.drop_nil];rw[e3];exact .oA [] []
set_option maxRecDepth 4000
set_option maxHeartbeats 8000000
theorem qh8:∀ {s:Sch} {l:List Cnd} {i:Nat} (h:i<l.length),yC s (l.take i)=0→nodE s l[i]≠0→yC s l=nodE s l[i]
 | s,x::r,0,h,_,h2=>by
   have h2:nodE s x≠0:=h2;rw[yC,Aj h2];rfl
 | s,x::r,i+1,h,h1,h2=>by
   rw[List.take_succ_cons,yC] at h1;split at h1
   ·rename_i h3;exact absurd h1 h3
   ·rename_i h3;rw[yC,Aq h3];exact qh8 (l:=r) (i:=i) (by simpa using h) h1 h2
theorem qu7:∀ {s:Sch} {l:List Cnd} {k:Cnd},yC s l=0→nodE s k=0→yC s (l++[k])=0
 | s,[],k,_,h=>by simp [yC,h]
 | s,x::r,k,h1,h2=>by
   rw[yC] at h1;split at h1
   ·rename_i h3;exact absurd h1 h3
   ·rename_i h3;rw[BW,yC,Aq h3];exact qu7 h1 h2
theorem SchOk.list0 {s:Sch} (h:SchOk s) {i:Nat} (hi:i<s.cols.length) (hk:(qg s i).kind≠2):(qg s i).list=0:=by
 have:=h.cs i hi;unfold colE at this
 grind
theorem zo7 (s:Sch) (hok:SchOk s) (hL:0<s.lists.length):∀ (c:Cnd),Sp 180 [schT s,cnT c] [] (vI (nodE s c)) []:=by
 refine Cnd.ind' fun c ih=>?_;have hN0:=zb1 s c;have hn0:=hok.nl;have hn1:=hok.nc;generalize nodE s c=N at hN0 ⊢
 obtain⟨op,col,code,lo,hi,ks⟩:=c;simp only[Cnd.op,Cnd.col,Cnd.code,Cnd.lo,Cnd.hi,Cnd.kids] at ih hN0 ⊢
 have hn:ndE s (.mk op col code lo hi ks)=if op<1∨7<op then 4
 else if ks.length≠arC op∨(op≠2∧op≠3∧op≠4∧col≠0)∨(op≠2∧code≠0)∨(op≠3∧(lo≠0∨hi≠0)) then 11
 else if (op=2∧isB s col 2=false)∨(op=3∧isB s col 3=false)∨(op=4∧(isB s col 3=false∨(qg s col.toNat).opt=false)) then 7
 else if op=2∧(code<0∨code≥(qX s col.toNat).codes.length) then 6
 else if op=3∧(lo < -1000000∨hi>1000000∨lo>hi) then 2 else 0:=rfl
 have hbad:∀ v,v≠0→ndE s (.mk op col code lo hi ks)=v→N=v:=fun v h1 h2=>by rw[hN0,h2,Aj h1]
 have hgood:ndE s (.mk op col code lo hi ks)=0→N=yC s ks:=fun h2=>by rw[hN0,h2,Aq sMp]
 clear hN0;generalize ndE s (.mk op col code lo hi ks)=E at hn hbad hgood;have h0p:0<s.cols.length:=by omega
 have hg0:(s.cols.map colT).getD 0 .junk=colT s.cols[0]:=qd (i:=0) h0p;have hl0:s.cols[0].list.toNat=0:=by
  have h1:=hok.c0;have:=hok.list0 (i:=0) h0p (by rw[h1];decide);rw[qg,qk h0p] at this;rw[this];rfl
 have hgl:(s.lists.map cdlT).getD 0 .junk=cdlT s.lists[0]:=qd hL;have hop:op=1∨op=2∨op=3∨op=4∨op=5∨op=6∨op=7∨op<1∨7<op:=by omega
 rcases hop with e | e | e | e | e | e | e | e
 focus
  have q1:(op==1)=true:=by rw[e];rfl
  have q2:(op==2)=false:=by rw[e];rfl
  have q3:(op==3)=false:=by rw[e];rfl
  have q4:(op==4)=false:=by rw[e];rfl
  have q5:(op==5)=false:=by rw[e];rfl
  have q6:(op==6)=false:=by rw[e];rfl
  have q7:(op==7)=false:=by rw[e];rfl
  simp [arC,-List.length_eq_zero_iff,e] at hn;refine sIr js fun e _ hst=>?_;unfold zM;simp only[tZ,↓un_u,simprocAttr,Cnd.op,Cnd.col,Cnd.code,Cnd.lo,Cnd.hi,Cnd.kids,q1,q2,q3,q4,q5,q6,q7];refine⟨kR,fun h=>?_,fun h=>?_⟩
  ·rw[hbad 11 (by decide) (by rw[hn,Aj];grind)];exact .oA [] []
  have hks:ks.length≤2:=by grind
  rw[hgood (by rw[hn,Aq];grind)];have hc0:col.toNat=0:=by grind
  refine C2.im (fun _=>zi s col 2) (fun _=>rfl) rF ?_;simp only[tZ,↓un_u,simprocAttr,Cnd.op,Cnd.col,Cnd.code,Cnd.lo,Cnd.hi,Cnd.kids,q1,q2,q3,q4,q5,q6,q7];refine C2.im (fun _=>zi s col 3) (fun _=>rfl) rF ?_;simp only[tZ,↓un_u,simprocAttr,Cnd.op,Cnd.col,Cnd.code,Cnd.lo,Cnd.hi,Cnd.kids,q1,q2,q3,q4,q5,q6,q7];refine C2.im (fun _=>zi s col 3) (fun _=>rfl) rF ?_;simp only[tZ,↓un_u,simprocAttr,Cnd.op,Cnd.col,Cnd.code,Cnd.lo,Cnd.hi,Cnd.kids,q1,q2,q3,q4,q5,q6,q7,hc0,hg0,hl0,hgl];refine⟨kR,?_⟩
 rotate_left
 focus
  have q1:(op==1)=false:=by rw[e];rfl
  have q2:(op==2)=true:=by rw[e];rfl
  have q3:(op==3)=false:=by rw[e];rfl
  have q4:(op==4)=false:=by rw[e];rfl
  have q5:(op==5)=false:=by rw[e];rfl
  have q6:(op==6)=false:=by rw[e];rfl
  have q7:(op==7)=false:=by rw[e];rfl
  simp [arC,-List.length_eq_zero_iff,e] at hn;refine sIr js fun e _ hst=>?_;unfold zM;simp only[tZ,↓un_u,simprocAttr,Cnd.op,Cnd.col,Cnd.code,Cnd.lo,Cnd.hi,Cnd.kids,q1,q2,q3,q4,q5,q6,q7];refine⟨kR,?_⟩;refine⟨kR,?_⟩;refine⟨fun h=>?_,fun h=>?_⟩
  ·rw[hbad 11 (by decide) (by rw[hn,Aj];grind)];exact .oA [] []
  have hks:ks.length≤2:=by grind
  rw[Aq (by grind)] at hn;refine C2.im (fun _=>zi s col 2) (fun _=>rfl) rF ?_;simp only[tZ,↓un_u,simprocAttr,Cnd.op,Cnd.col,Cnd.code,Cnd.lo,Cnd.hi,Cnd.kids,q1,q2,q3,q4,q5,q6,q7];refine C2.im (fun _=>zi s col 3) (fun _=>rfl) rF ?_;simp only[tZ,↓un_u,simprocAttr,Cnd.op,Cnd.col,Cnd.code,Cnd.lo,Cnd.hi,Cnd.kids,q1,q2,q3,q4,q5,q6,q7];refine C2.im (fun _=>zi s col 3) (fun _=>rfl) rF ?_;by_cases h2:isB s col 2=false
  ·rw[hbad 7 (by decide) (by rw[hn,Aj (by grind)])];rcases Nat.lt_or_ge col.toNat s.cols.length with hk | hk
   ·simp only[tZ,↓un_u,simprocAttr,Cnd.op,Cnd.col,Cnd.code,Cnd.lo,Cnd.hi,Cnd.kids,q1,q2,q3,q4,q5,q6,q7,h2,qd hk];exact .oA [] []
   ·simp only[tZ,↓un_u,simprocAttr,Cnd.op,Cnd.col,Cnd.code,Cnd.lo,Cnd.hi,Cnd.kids,q1,q2,q3,q4,q5,q6,q7,h2,qo0 hk,List.drop_succ_cons,List.drop_nil];exact .oA [] []
  rw[Ez] at h2;obtain⟨b1,b2,b3⟩:=zF.1 h2;obtain⟨i,hci⟩:∃ i:Nat,col.toNat=i:=⟨_,rfl⟩;rw[hci] at b3
  try rw[hci] at hn
  have hil:i<s.cols.length:=by omega
  have hat:qg s i=s.cols[i]:=by rw[qg,qk hil]
  have hcd:=hok.cdl hil b3;have hcd2:=(zo (hok.cs i hil)).2.2.2.1 b3;have hcl:qX s i=s.lists.getD s.cols[i].list.toNat default:=by rw[qX,hat]
  rw[hat] at hcd hcd2;rw[hcl,qk hcd.1] at hcd;have hn:E=if code<0∨code≥s.lists[s.cols[i].list.toNat].codes.length then 6 else 0:=by
   rw[hn,Aq (by rw[h2];simp)];simp [hil,hcd.1]
  simp only[tZ,↓un_u,simprocAttr,Cnd.op,Cnd.col,Cnd.code,Cnd.lo,Cnd.hi,Cnd.kids,q1,q2,q3,q4,q5,q6,q7,h2,hci,qd hil,qd hcd.1,tD];refine⟨fun _=>by omega,fun _=>by omega,kR,fun h3=>?_,fun h3=>?_⟩
  ·rw[hbad 6 (by decide) (by rw[hn,Aj oM])];exact .oA [] []
  rw[hgood (by rw[hn,Aq oM])]
 rotate_left
 focus
  have q1:(op==1)=false:=by rw[e];rfl
  have q2:(op==2)=false:=by rw[e];rfl
  have q3:(op==3)=true:=by rw[e];rfl
  have q4:(op==4)=false:=by rw[e];rfl
  have q5:(op==5)=false:=by rw[e];rfl
  have q6:(op==6)=false:=by rw[e];rfl
  have q7:(op==7)=false:=by rw[e];rfl
  simp [arC,-List.length_eq_zero_iff,e] at hn;refine sIr js fun e _ hst=>?_;unfold zM;simp only[tZ,↓un_u,simprocAttr,Cnd.op,Cnd.col,Cnd.code,Cnd.lo,Cnd.hi,Cnd.kids,q1,q2,q3,q4,q5,q6,q7];refine⟨kR,?_⟩;refine⟨kR,?_⟩;refine⟨fun h=>?_,fun h=>?_⟩
  ·rw[hbad 11 (by decide) (by rw[hn,Aj];grind)];exact .oA [] []
  have hks:ks.length≤2:=by grind
  rw[Aq (by grind)] at hn;refine C2.im (fun _=>zi s col 2) (fun _=>rfl) rF ?_;simp only[tZ,↓un_u,simprocAttr,Cnd.op,Cnd.col,Cnd.code,Cnd.lo,Cnd.hi,Cnd.kids,q1,q2,q3,q4,q5,q6,q7];refine C2.im (fun _=>zi s col 3) (fun _=>rfl) rF ?_;simp only[tZ,↓un_u,simprocAttr,Cnd.op,Cnd.col,Cnd.code,Cnd.lo,Cnd.hi,Cnd.kids,q1,q2,q3,q4,q5,q6,q7];refine C2.im (fun _=>zi s col 3) (fun _=>rfl) rF ?_;by_cases h2:isB s col 3=false
  ·rw[hbad 7 (by decide) (by rw[hn,Aj (by grind)])];rcases Nat.lt_or_ge col.toNat s.cols.length with hk | hk
   ·simp only[tZ,↓un_u,simprocAttr,Cnd.op,Cnd.col,Cnd.code,Cnd.lo,Cnd.hi,Cnd.kids,q1,q2,q3,q4,q5,q6,q7,h2,qd hk];exact .oA [] []
   ·simp only[tZ,↓un_u,simprocAttr,Cnd.op,Cnd.col,Cnd.code,Cnd.lo,Cnd.hi,Cnd.kids,q1,q2,q3,q4,q5,q6,q7,h2,qo0 hk,List.drop_succ_cons,List.drop_nil];exact .oA [] []
  rw[Ez] at h2;obtain⟨b1,b2,b3⟩:=zF.1 h2;obtain⟨i,hci⟩:∃ i:Nat,col.toNat=i:=⟨_,rfl⟩;rw[hci] at b3
  try rw[hci] at hn
  have hil:i<s.cols.length:=by omega
  have hat:qg s i=s.cols[i]:=by rw[qg,qk hil]
  have hli:s.cols[i].list.toNat=0:=by
   have:=hok.list0 hil (by rw[b3];decide);rw[hat] at this;rw[this];rfl
  rw[Aq (by rw[h2];simp)] at hn;simp only[tZ,↓un_u,simprocAttr,Cnd.op,Cnd.col,Cnd.code,Cnd.lo,Cnd.hi,Cnd.kids,q1,q2,q3,q4,q5,q6,q7,h2,hci,qd hil,hli,hgl,tD];refine⟨kR,fun h3=>?_,fun h3=>?_⟩
  ·rw[hbad 2 (by decide) (by rw[hn,Aj oM])];exact .oA [] []
  rw[hgood (by rw[hn,Aq oM])]
 rotate_left
 focus
  have q1:(op==1)=false:=by rw[e];rfl
  have q2:(op==2)=false:=by rw[e];rfl
  have q3:(op==3)=false:=by rw[e];rfl
  have q4:(op==4)=true:=by rw[e];rfl
  have q5:(op==5)=false:=by rw[e];rfl
  have q6:(op==6)=false:=by rw[e];rfl
  have q7:(op==7)=false:=by rw[e];rfl
  simp [arC,-List.length_eq_zero_iff,e] at hn;refine sIr js fun e _ hst=>?_;unfold zM;simp only[tZ,↓un_u,simprocAttr,Cnd.op,Cnd.col,Cnd.code,Cnd.lo,Cnd.hi,Cnd.kids,q1,q2,q3,q4,q5,q6,q7];refine⟨kR,?_⟩;refine⟨fun h=>?_,fun h=>?_⟩
  ·rw[hbad 11 (by decide) (by rw[hn,Aj];grind)];exact .oA [] []
  have hks:ks.length≤2:=by grind
  rw[Aq (by grind)] at hn;refine C2.im (fun _=>zi s col 2) (fun _=>rfl) rF ?_;simp only[tZ,↓un_u,simprocAttr,Cnd.op,Cnd.col,Cnd.code,Cnd.lo,Cnd.hi,Cnd.kids,q1,q2,q3,q4,q5,q6,q7];refine C2.im (fun _=>zi s col 3) (fun _=>rfl) rF ?_;simp only[tZ,↓un_u,simprocAttr,Cnd.op,Cnd.col,Cnd.code,Cnd.lo,Cnd.hi,Cnd.kids,q1,q2,q3,q4,q5,q6,q7];refine C2.im (fun _=>zi s col 3) (fun _=>rfl) rF ?_;by_cases h2:isB s col 3=false
  ·rw[hbad 7 (by decide) (by rw[hn,Aj (by grind)])];rcases Nat.lt_or_ge col.toNat s.cols.length with hk | hk
   ·simp only[tZ,↓un_u,simprocAttr,Cnd.op,Cnd.col,Cnd.code,Cnd.lo,Cnd.hi,Cnd.kids,q1,q2,q3,q4,q5,q6,q7,h2,qd hk];exact .oA [] []
   ·simp only[tZ,↓un_u,simprocAttr,Cnd.op,Cnd.col,Cnd.code,Cnd.lo,Cnd.hi,Cnd.kids,q1,q2,q3,q4,q5,q6,q7,h2,qo0 hk,List.drop_succ_cons,List.drop_nil];exact .oA [] []
  rw[Ez] at h2;obtain⟨b1,b2,b3⟩:=zF.1 h2;obtain⟨i,hci⟩:∃ i:Nat,col.toNat=i:=⟨_,rfl⟩;rw[hci] at b3
  try rw[hci] at hn
  have hil:i<s.cols.length:=by omega
  have hat:qg s i=s.cols[i]:=by rw[qg,qk hil]
  have hli:s.cols[i].list.toNat=0:=by
   have:=hok.list0 hil (by rw[b3];decide);rw[hat] at this;rw[this];rfl
  have hn:E=if s.cols[i].opt=false then 7 else 0:=by
   rw[hn];simp [hil,h2]
  simp only[tZ,↓un_u,simprocAttr,Cnd.op,Cnd.col,Cnd.code,Cnd.lo,Cnd.hi,Cnd.kids,q1,q2,q3,q4,q5,q6,q7,h2,hci,qd hil,hli,hgl,Bx,Bz];refine⟨oM,fun h3=>?_,fun h3=>?_⟩
  ·rw[hbad 7 (by decide) (by rw[hn,Aj h3])];exact .oA [] []
  rw[hgood (by rw[hn,Aq (by rw[h3];simp)])];refine⟨kR,?_⟩
 rotate_left
 focus
  have q1:(op==1)=false:=by rw[e];rfl
  have q2:(op==2)=false:=by rw[e];rfl
  have q3:(op==3)=false:=by rw[e];rfl
  have q4:(op==4)=false:=by rw[e];rfl
  have q5:(op==5)=true:=by rw[e];rfl
  have q6:(op==6)=false:=by rw[e];rfl
  have q7:(op==7)=false:=by rw[e];rfl
  simp [arC,-List.length_eq_zero_iff,e] at hn;refine sIr js fun e _ hst=>?_;unfold zM;simp only[tZ,↓un_u,simprocAttr,Cnd.op,Cnd.col,Cnd.code,Cnd.lo,Cnd.hi,Cnd.kids,q1,q2,q3,q4,q5,q6,q7];refine⟨kR,fun h=>?_,fun h=>?_⟩
  ·rw[hbad 11 (by decide) (by rw[hn,Aj];grind)];exact .oA [] []
  have hks:ks.length≤2:=by grind
  rw[hgood (by rw[hn,Aq];grind)];have hc0:col.toNat=0:=by grind
  refine C2.im (fun _=>zi s col 2) (fun _=>rfl) rF ?_;simp only[tZ,↓un_u,simprocAttr,Cnd.op,Cnd.col,Cnd.code,Cnd.lo,Cnd.hi,Cnd.kids,q1,q2,q3,q4,q5,q6,q7];refine C2.im (fun _=>zi s col 3) (fun _=>rfl) rF ?_;simp only[tZ,↓un_u,simprocAttr,Cnd.op,Cnd.col,Cnd.code,Cnd.lo,Cnd.hi,Cnd.kids,q1,q2,q3,q4,q5,q6,q7];refine C2.im (fun _=>zi s col 3) (fun _=>rfl) rF ?_;simp only[tZ,↓un_u,simprocAttr,Cnd.op,Cnd.col,Cnd.code,Cnd.lo,Cnd.hi,Cnd.kids,q1,q2,q3,q4,q5,q6,q7,hc0,hg0,hl0,hgl];refine⟨kR,?_⟩
 rotate_left
 focus
  have q1:(op==1)=false:=by rw[e];rfl
  have q2:(op==2)=false:=by rw[e];rfl
  have q3:(op==3)=false:=by rw[e];rfl
  have q4:(op==4)=false:=by rw[e];rfl
  have q5:(op==5)=false:=by rw[e];rfl
  have q6:(op==6)=true:=by rw[e];rfl
  have q7:(op==7)=false:=by rw[e];rfl
  simp [arC,-List.length_eq_zero_iff,e] at hn;refine sIr js fun e _ hst=>?_;unfold zM;simp only[tZ,↓un_u,simprocAttr,Cnd.op,Cnd.col,Cnd.code,Cnd.lo,Cnd.hi,Cnd.kids,q1,q2,q3,q4,q5,q6,q7];refine⟨kR,fun h=>?_,fun h=>?_⟩
  ·rw[hbad 11 (by decide) (by rw[hn,Aj];grind)];exact .oA [] []
  have hks:ks.length≤2:=by grind
  rw[hgood (by rw[hn,Aq];grind)];have hc0:col.toNat=0:=by grind
  refine C2.im (fun _=>zi s col 2) (fun _=>rfl) rF ?_;simp only[tZ,↓un_u,simprocAttr,Cnd.op,Cnd.col,Cnd.code,Cnd.lo,Cnd.hi,Cnd.kids,q1,q2,q3,q4,q5,q6,q7];refine C2.im (fun _=>zi s col 3) (fun _=>rfl) rF ?_;simp only[tZ,↓un_u,simprocAttr,Cnd.op,Cnd.col,Cnd.code,Cnd.lo,Cnd.hi,Cnd.kids,q1,q2,q3,q4,q5,q6,q7];refine C2.im (fun _=>zi s col 3) (fun _=>rfl) rF ?_;simp only[tZ,↓un_u,simprocAttr,Cnd.op,Cnd.col,Cnd.code,Cnd.lo,Cnd.hi,Cnd.kids,q1,q2,q3,q4,q5,q6,q7,hc0,hg0,hl0,hgl];refine⟨kR,?_⟩
 rotate_left
 focus
  have q1:(op==1)=false:=by rw[e];rfl
  have q2:(op==2)=false:=by rw[e];rfl
  have q3:(op==3)=false:=by rw[e];rfl
  have q4:(op==4)=false:=by rw[e];rfl
  have q5:(op==5)=false:=by rw[e];rfl
  have q6:(op==6)=false:=by rw[e];rfl
  have q7:(op==7)=true:=by rw[e];rfl
  simp [arC,-List.length_eq_zero_iff,e] at hn;refine sIr js fun e _ hst=>?_;unfold zM;simp only[tZ,↓un_u,simprocAttr,Cnd.op,Cnd.col,Cnd.code,Cnd.lo,Cnd.hi,Cnd.kids,q1,q2,q3,q4,q5,q6,q7];refine⟨kR,fun h=>?_,fun h=>?_⟩
  ·rw[hbad 11 (by decide) (by rw[hn,Aj];grind)];exact .oA [] []
  have hks:ks.length≤2:=by grind
  rw[hgood (by rw[hn,Aq];grind)];have hc0:col.toNat=0:=by grind
  refine C2.im (fun _=>zi s col 2) (fun _=>rfl) rF ?_;simp only[tZ,↓un_u,simprocAttr,Cnd.op,Cnd.col,Cnd.code,Cnd.lo,Cnd.hi,Cnd.kids,q1,q2,q3,q4,q5,q6,q7];refine C2.im (fun _=>zi s col 3) (fun _=>rfl) rF ?_;simp only[tZ,↓un_u,simprocAttr,Cnd.op,Cnd.col,Cnd.code,Cnd.lo,Cnd.hi,Cnd.kids,q1,q2,q3,q4,q5,q6,q7];refine C2.im (fun _=>zi s col 3) (fun _=>rfl) rF ?_;simp only[tZ,↓un_u,simprocAttr,Cnd.op,Cnd.col,Cnd.code,Cnd.lo,Cnd.hi,Cnd.kids,q1,q2,q3,q4,q5,q6,q7,hc0,hg0,hl0,hgl];refine⟨kR,?_⟩
 rotate_left
 focus
  have q1:(op==1)=false:=Ak.2 oM;have q2:(op==2)=false:=Ak.2 oM;have q3:(op==3)=false:=Ak.2 oM;have q4:(op==4)=false:=Ak.2 oM;have q5:(op==5)=false:=Ak.2 oM;have q6:(op==6)=false:=Ak.2 oM;have q7:(op==7)=false:=Ak.2 oM;rw[hbad 4 (by decide) (by rw[hn,Aj e])];refine sIr js fun e _ hst=>?_;unfold zM;simp only[tZ,↓un_u,simprocAttr,Cnd.op,Cnd.col,Cnd.code,Cnd.lo,Cnd.hi,Cnd.kids,q1,q2,q3,q4,q5,q6,q7];refine⟨kR,?_⟩;exact .oA [] []
 all_goals (
  refine qy mixm (α:=Nat) [7,77,121,147,167] (fun i=>i≤ks.length∧yC s (ks.take i)=0) (fun i=>[(7,vI i)]) (fun i=>[aR 4096 2 [schT s],aR 4100 6 [.agg [vI op,vI col,vI code,vI lo,vI hi,vCs ks]]]) (fun i=>ks.length-i) 0 ⟨oM,by rw[List.take_zero,yC]⟩ ?_ fun i hi2=>?_
  ·exact .oA (U2 4096 4100) []
  obtain⟨i1,i2⟩:=hi2;refine sD ?_;refine⟨fun h5=>?_,fun h5=>?_⟩
  ·have hi2:i<ks.length:=by omega
   have hwi:=qh (i:=i) oM;simp only[tZ,↓un_u,simprocAttr,Ax,qd hi2,zp];refine⟨oM,?_⟩;refine C1.im (ih _ (AX hi2)) rF rF ?_;simp only[tZ,↓un_u,simprocAttr,hwi,Bj,Aw];refine⟨kR,fun h6=>?_,fun h6=>?_⟩
   ·rw[qh8 hi2 i2 h6];exact .oA [] []
   ·refine⟨i+1,⟨oM,by rw[qZ hi2];exact qu7 i2 h6⟩,oM,?_⟩;exact .oA (U2 4096 4100) []
  ·have hil:i=ks.length:=by omega
   subst hil;rw[Bw] at i2;rw[i2];exact .oA [] []
  )
set_option maxHeartbeats 4000000
theorem qo1 (s:Sch) (hs:yZ s) (hL:0<s.lists.length) (c:Cnd):Sp 111 [schT s,cnT c] [] (vI (chkC s c)) []:=by
 refine sIr qN8 fun e _ hst=>?_;unfold JD;refine sW ?_;refine C1.im (Zj s hs) rF rF ?_;simp only[tZ,↓un_u,simprocAttr,Bj,Aw];refine⟨fun h=>?_,fun h=>?_⟩
 ·rw[chkC,Aj h];exact .oA [] []
 have hok:=zc h;refine C1.im (zb6 c 41 oM oM) rF rF ?_;refine sD ?_;refine⟨fun h2=>?_,fun h2=>?_⟩
 ·rw[chkC,Aq (by rw[h];simp),Aj h2];exact .oA [] []
 refine C1.im (zb7 c 41 oM oM oM) rF rF ?_;refine sD ?_;refine⟨fun h3=>?_,fun h3=>?_⟩
 ·rw[chkC,Aq (by rw[h];simp),Aq h2,Aj oM];exact .oA [] []
 rw[chkC,Aq (by rw[h];simp),Aq h2,Aq oM];refine C1.im (zo7 s hok hL c) rF rF ?_;refine sW ?_;exact .oA [] []
theorem Wp {s:Sch} {c:Cnd} (h:chkC s c=0):schE s=0∧cntC c 41<41∧depC c≤10∧nodE s c=0:=by
 unfold chkC at h;split at h
 ·rename_i h1;exact absurd h h1
 rename_i h1;split at h
 ·cases h
 rename_i h2;split at h
 ·cases h
 rename_i h3;exact⟨AQ h1,oM,oM,h⟩
theorem zo8 (s:Sch) (hok:SchOk s) (c:Cnd) (hc:NdOk s c) (v:Int):Sp 83 [schT s,cnT c,vI v] [] (vI (zl s c v)) []:=by
 have hn0:=hok.nl;have hn1:=hok.nc;have hA:zl s c v=if c.op=2 then tf (YL (qX s c.col.toNat) v c.code)
 else if c.op=3 then (if v=zt then 0 else tf (decide (c.lo≤v)&&decide (v≤c.hi)))
 else if c.op=4 then tf (v==zt) else -1:=rfl
 rw[hA];by_cases h2:c.op=2
 ·obtain⟨b,b4,b5⟩:=hc.under h2;obtain⟨b1,b2,b3⟩:=zF.1 b;obtain⟨i,hci⟩:=AJ b1;rw[hci] at b2 b5;rw[hci,Ax] at b3;rw[Ax] at b5;have hil:i<s.cols.length:=by omega
  have hat:qg s i=s.cols[i]:=by rw[qg,qk hil]
  have hcd:=hok.cdl hil b3;have hcd2:=(zo (hok.cs i hil)).2.2.2.1 b3;have hcl:qX s i=s.lists.getD s.cols[i].list.toNat default:=by rw[qX,hat]
  rw[hat] at hcd hcd2;rw[Aj h2,hci,Ax];rw[hcl,qk hcd.1] at hcd ⊢
  obtain⟨_,d5,d6⟩:=zq hcd.2;have q:(c.op==2)=true:=AY.2 h2;refine sIr Zb fun e _ hst=>?_;unfold kL;simp only[tZ,↓un_u,simprocAttr,q,hci,Ax,qd hil,qd hcd.1];refine⟨oM,oM,?_⟩;refine C1.im (za8 _ v c.code oM) rF rF ?_;refine sW ?_;refine⟨kR,fun h=>?_,fun h=>?_⟩
  ·rw[h];exact .oA [] []
  ·rw[h];exact .oA [] []
 have q:(c.op==2)=false:=Ak.2 h2;rw[Aq h2];by_cases h3:c.op=3
 ·have q3:(c.op==3)=true:=AY.2 h3;rw[Aj h3];refine sIr Zb fun e _ hst=>?_;unfold kL;simp only[tZ,↓un_u,simprocAttr,q,q3,AY,Ak];rw[show (-1099511627776:Int)=zt from rfl];refine⟨fun h=>?_,fun h=>?_⟩
  ·rw[Aj h];exact .oA [] []
  ·rw[Aq h];refine⟨fun h=>?_,fun h=>?_⟩
   ·rw[h];exact .oA [] []
   ·rw[h];exact .oA [] []
 have q3:(c.op==3)=false:=Ak.2 h3;rw[Aq h3];by_cases h4:c.op=4
 ·have q4:(c.op==4)=true:=AY.2 h4;rw[Aj h4];refine sIr Zb fun e _ hst=>?_;unfold kL;simp only[tZ,↓un_u,simprocAttr,q,q3,q4];rw[show (-1099511627776:Int)=zt from rfl];refine⟨fun h=>?_,fun h=>?_⟩
  ·rw[h];exact .oA [] []
  ·rw[h];exact .oA [] []
 have q4:(c.op==4)=false:=Ak.2 h4;rw[Aq h4];refine sIr Zb fun e _ hst=>?_;unfold kL;simp only[tZ,↓un_u,simprocAttr,q,q3,q4];exact .oA [] []
theorem QV:∀ c m,1≤m→cntC c m<m→((atsC c).length:Int)≤cntC c m:=by
 refine Cnd.ind' fun c ih m hm h=>?_;have hc:=qx3 c m hm;rw[Wo];split
 ·simp;omega
 ·rw[QT] at h ⊢
  have key:∀ l:List Cnd,(∀ k∈l,k∈c.kids)→∀ n,1≤n→n≤m→ky l m n<m→n+(QU l).length≤ky l m n:=by
   intro l
   induction l with
   | nil=>intro _ n h1 h2 _;rw[ky,QU];simp
   | cons k r ihl=>
     intro hk n h1 h2 h3;rw[ky] at h3 ⊢
     rw[QU,AW];split at h3
     ·rename_i h4;rw[Aj h4];have c1:=qx3 k (m-n) oM;have c2:=zb3 r m (n+cntC k (m-n)) oM;have c3:=ih k (hk k sMp) (m-n) oM oM;have c4:=ihl (fun x hx=>hk x (CQ _ hx)) (n+cntC k (m-n)) oM oM h3;omega
     ·omega
  have:=key c.kids (fun k hk=>hk) 1 oM hm h;omega
theorem jS:∀ (l:List Cnd) (i:Nat),(QU (l.take i)).length≤(QU l).length
 | [],i=>by simp
 | x::r,0=>by simp [QU]
 | x::r,i+1=>by rw[List.take_succ_cons,QU,QU,AW,AW];have:=jS r i;omega
theorem WE (l:List Cnd):ImXs 6 (l.map cndT):=qj jn6 l
theorem JZ {st:Sto} {ρ:Ren} {B:List Nat} (l:List Cnd):ltXs st ρ B 6 (l.map cndT) (l.map cndT):=jr (WE l)
theorem qo2:∀ (c:Cnd) (m:Int),1≤m→m≤1000→cntC c m<m→Sp 148 [cnT c] [] (vCs (atsC c)) []:=by
 refine Cnd.ind' fun c ih m hm hm2 hc=>?_;have hal:=QV c m hm hc;rw[QT] at hc hal;obtain⟨hk1,hk2⟩:=qa6 oM hc;have hi:isAt c=((c.op==2)||(c.op==3)||(c.op==4)):=rfl;refine sIr qd7 fun e _ hst=>?_;unfold Qj;refine sW ?_;rw[← hi];refine⟨fun h=>?_,fun h=>?_⟩
 ·rw[Wo,Aj h];show yA [] _ _ (.sl 6 [cndT c]) [];rw[zp];exact .oA [] [12292]
 ·rw[Wo,Aq (by rw[h];simp)] at hal ⊢
  refine qy mixm (α:=Nat) [3,4,17] (fun i=>i≤c.kids.length) (fun i=>[(3,.asl 1 (QU (c.kids.take i)).length),(4,vI i)]) (fun i=>[aR 4096 6 [cnT c],aR 1 6 ((QU (c.kids.take i)).map cndT)]) (fun i=>c.kids.length-i) 0 oM ?_ fun i hi2=>?_
  ·exact .oA [uI 4096,(1,none)] []
  have htl:=jS c.kids i;refine sD ?_;refine⟨fun h5=>?_,fun h5=>?_⟩
  ·have hi2:i<c.kids.length:=by omega
   have hwi:=qh (i:=i) oM;obtain⟨m',a1,a2,a3⟩:=hk2 _ (AX hi2);have htl2:=jS c.kids (i+1);rw[qZ hi2,Qa,AW] at htl2;simp only[tZ,↓un_u,simprocAttr,Ax,qd hi2,zp];refine⟨oM,?_⟩;refine C1.im (ih _ (AX hi2) m' a1 oM a3) rF rF ?_;simp only[tZ,↓un_u,simprocAttr,hwi];refine⟨oM,i+1,oM,oM,?_⟩;rw[qZ hi2,Qa,By];refine .of (U2 4096 1) [] rfl (by first | rfl | (rw[hst];rfl)) ?_ ?_
   all_goals (try simp only[tL,simprocAttr,By,List.map_cons,List.map_nil,BW,Cy,Dj])
   all_goals (try (repeat' (first | exact qY | (apply zf;intro _;exact⟨rfl,rfl⟩) | (apply qj;intro _;exact⟨rfl,rfl⟩) | with_reducible apply qS | with_reducible refine qz ⟨rfl,rfl⟩ ?_ | exact qK | with_reducible apply qR | with_reducible refine qT ⟨rfl,rfl,?_⟩ ?_ | with_reducible apply Az | exact qO rfl | exact qO (by assumption) | (refine⟨⟨?_,rfl,?_,rfl,?_⟩,trivial⟩ <;> first | (simp;done) | (apply qj;intro _;exact⟨rfl,rfl⟩)) | trivial | rfl | (rw[qh oM]) | omega)))
   all_goals first | exact JZ _ | exact WE _
  ·have hil:i=c.kids.length:=by omega
   subst hil;rw[Bw];refine .of [] [1] rfl (by first | rfl | (rw[hst];rfl)) ?_ ?_
   all_goals (try simp only[tL,simprocAttr,By,List.map_cons,List.map_nil,BW,Cy,Dj])
   all_goals (try (repeat' (first | exact qY | (apply zf;intro _;exact⟨rfl,rfl⟩) | (apply qj;intro _;exact⟨rfl,rfl⟩) | with_reducible apply qS | with_reducible refine qz ⟨rfl,rfl⟩ ?_ | exact qK | with_reducible apply qR | with_reducible refine qT ⟨rfl,rfl,?_⟩ ?_ | with_reducible apply Az | exact qO rfl | exact qO (by assumption) | (refine⟨⟨?_,rfl,?_,rfl,?_⟩,trivial⟩ <;> first | (simp;done) | (apply qj;intro _;exact⟨rfl,rfl⟩)) | trivial | rfl | (rw[qh oM]) | omega)))
   all_goals first | exact JZ _ | exact WE _
theorem zo9 (col lev:Int):∀ (l:List Pk) (x:List Pk×Bool),(l.foldl (qR0 col lev) x).1.length+(if (l.foldl (qR0 col lev) x).2=true then 0 else 1)≤x.1.length+(if x.2=true then 0 else 1)+l.length
 | [],x=>BZ _
 | p::r,x=>by
   have h:=zo9 col lev r (qR0 col lev x p);have h2:(qR0 col lev x p).1.length+(if (qR0 col lev x p).2=true then 0 else 1)≤x.1.length+(if x.2=true then 0 else 1)+1:=by
    unfold qR0;obtain⟨a,b⟩:=x;dsimp only;split <;> split <;> cases b <;> simp_all <;> omega
   rw[Dw,CJ];omega
theorem qo3 (l:List Pk) (col lev:Int):(qc4 l col lev).length≤l.length+1:=by
 have h:=zo9 col lev l ([],decide (lev≤0));unfold qc4;dsimp only at h ⊢
 split
 ·simp_all
  split at h <;> omega
 ·rename_i k;rw[Aq k] at h;rw[AW];simp at h ⊢
  split at h <;> omega
theorem zp0:∀ {a b:List Cnd},a.length≠b.length→wi a b=false
 | [],[],h=>by simp at h
 | x::r,y::t,h=>by rw[wi,zp0 (a:=r) (b:=t) (by simpa using h),Bool.and_false]
 | [],y::t,_=>rfl
 | x::r,[],_=>rfl
theorem qK1:∀ {a b:List Cnd} {i:Nat} (ha:i<a.length) (hb:i<b.length),wi (a.take (i+1)) (b.take (i+1))=(wi (a.take i) (b.take i)&&JX a[i] b[i])
 | x::r,y::t,0,_,_=>by simp [wi]
 | x::r,y::t,i+1,ha,hb=>by
   rw[List.take_succ_cons,List.take_succ_cons,wi,qK1 (a:=r) (b:=t) (by simpa using ha) (by simpa using hb),List.take_succ_cons,List.take_succ_cons,wi];simp [Bool.and_assoc]
theorem qV1:∀ {a b:List Cnd} {i:Nat} (ha:i<a.length) (hb:i<b.length),JX a[i] b[i]=false→wi a b=false
 | x::r,y::t,0,_,_,h=>by
   have h:JX x y=false:=h;rw[wi,h,Bool.false_and]
 | x::r,y::t,i+1,ha,hb,h=>by rw[wi,qV1 (a:=r) (b:=t) (i:=i) (by simpa using ha) (by simpa using hb) h,Bool.and_false]
inductive SmC:Cnd→Prop
 | mk (c:Cnd) (h1:c.kids.length<4611686018427387904) (h2:∀ k∈c.kids,SmC k):SmC c
theorem zp1:∀ (a b:Cnd),(a.kids.length=b.kids.length→SmC a)→Sp 206 [cnT a,cnT b] [] (vB (JX a b)) []:=by
 refine Cnd.ind' fun a ih b hs=>?_;rw[zb2];refine sIr za6 fun e _ hst=>?_;unfold Wf;simp only[tZ,↓un_u,simprocAttr,tD,Bj,Aw];refine⟨fun h=>?_,fun h=>?_⟩
 ·have:((a.op==b.op)&&(a.col==b.col)&&(a.code==b.code)&&(a.lo==b.lo)&&(a.hi==b.hi)&&wi a.kids b.kids)=false:=by
   rcases h with ((((h | h) | h) | h) | h) | h
   ·rw[Ak.2 h];simp
   ·rw[Ak.2 h];simp
   ·rw[Ak.2 h];simp
   ·rw[Ak.2 h];simp
   ·rw[Ak.2 h];simp
   ·rw[zp0 oM];simp
  rw[this];exact .oA [] []
 have e:((a.op==b.op)&&(a.col==b.col)&&(a.code==b.code)&&(a.lo==b.lo)&&(a.hi==b.hi)&&wi a.kids b.kids)=wi a.kids b.kids:=by
  rw[AY.2 h.1.1.1.1.1,AY.2 h.1.1.1.1.2,AY.2 h.1.1.1.2,AY.2 h.1.1.2,AY.2 h.1.2];simp
 have hl:a.kids.length=b.kids.length:=by omega
 obtain⟨_,s1,s2⟩:=hs hl;rw[e];refine qy mixm (α:=Nat) [5,47] (fun i=>i≤a.kids.length∧wi (a.kids.take i) (b.kids.take i)=true) (fun i=>[(5,vI i)]) (fun i=>[aR 4096 6 [cnT a],aR 4100 6 [cnT b]]) (fun i=>a.kids.length-i) 0 ⟨oM,by simp [wi]⟩ ?_ fun i hi=>?_
 ·exact .oA (U2 4096 4100) []
 refine sD ?_;refine⟨fun h5=>?_,fun h5=>?_⟩
 ·have hi2:i<a.kids.length:=by omega
  have hib:i<b.kids.length:=by omega
  have hwi:=qh (i:=i) oM;simp only[tZ,↓un_u,simprocAttr,Ax,qd hi2,qd hib,zp];refine⟨oM,oM,?_⟩;refine C1.im (ih _ (AX hi2) b.kids[i] fun _=>s2 _ (AX hi2)) rF rF ?_;simp only[tZ,↓un_u,simprocAttr,Bx,Bz,hwi];refine⟨kR,fun h6=>?_,fun h6=>?_⟩
  ·rw[qV1 hi2 hib h6];exact .oA [] []
  ·refine⟨i+1,⟨oM,by rw[qK1 hi2 hib,hi.2,h6];rfl⟩,oM,?_⟩;exact .oA (U2 4096 4100) []
 ·have hil:i=a.kids.length:=by omega
  have h2:=hi.2;rw[hil,Bw,hl,Bw] at h2;rw[h2];exact .oA [] []
theorem Wq {s:Sch} (hE:schE s=0) {i:Nat} (h1:0<i) (h2:i<s.cols.length) (hk:(qg s i).kind=2) {v:Int} (hv:v∈zd s i):qt s i (finI s i) v=v:=by
 have hok:=zc hE;obtain⟨d1,d2⟩:=hok.cdl h2 hk;have hf:finI s i=zA (qX s i)-1:=by
  rw[finI,Aq oM,Ax,Aj hk]
 have hh:=Kv hk d2 hv;obtain⟨j,j1,j2,rfl⟩:=(jd2 d2).1 hv;rw[qt,Aq,Ax,Aj hk,Aq (by rw[hh];simp),upC,Aq,hf,← j2,Ax,Ax,zH0 oM]
 ·rw[hf,← j2,Ax];omega
 ·rw[Ez,Qr,hf,← j2];omega
theorem jB9 {s:Sch} (hE:schE s=0) {c:Cnd} (hnd:NdOk s c) (ha:isAt c=true):0≤finI s c.col∧decB s c (finI s c.col).toNat=true:=by
 have hok:=zc hE;have hlv:∀ k,isB s c.col k=true→2≤k→∃ i:Nat,c.col=i∧0<i∧i<s.cols.length∧(qg s i).kind=k:=fun k hb hk=>by
  obtain⟨b1,b2,b3⟩:=zF.1 hb;obtain⟨i,hci⟩:=AJ b1;rw[hci,Ax] at b3;refine⟨i,hci,?_,oM,b3⟩;refine Nat.pos_of_ne_zero fun e=>?_;subst e;have:=hok.c0;omega
 have hm:∀ i:Nat,0<i→i<s.cols.length→(qg s i).kind=3→finI s i=(qg s i).widths.length∧1≤(qg s i).widths.length:=fun i h1 h2 h3=>by
  refine⟨by rw[finI,Aq oM,Ax,Aq oM],?_⟩;have:=(zo (hok.cs i h2)).2.2.2.2 h3;unfold measE at this
  grind
 have hop:c.op=2∨c.op=3∨c.op=4:=by
  unfold isAt at ha;simp only[DZ,AY] at ha;omega
 rcases hop with h | h | h
 ·obtain⟨i,hci,h1,h2,hk⟩:=hlv 2 (hnd.under h).1 oM;obtain⟨d1,d2⟩:=hok.cdl h2 hk;have hf:finI s i=zA (qX s i)-1:=by
   rw[finI,Aq oM,Ax,Aj hk]
  have hf0:0≤finI s i:=by rw[hf,zG8 d2];omega
  rw[hci];refine⟨hf0,?_⟩;rw[decB,Aj h,hci,Ax,qu3,Bk];intro j hj;rw[Dk] at hj;rw[Bk];intro k hk2;rw[Dk] at hk2;have e:(((finI s i).toNat:Nat):Int)=finI s i:=by omega
  rw[decP,hci,Ax,e,qk hj,qk oM,Wq hE h1 h2 hk (AX _),Wq hE h1 h2 hk (AX _)]
  grind
 ·obtain⟨i,hci,h1,h2,hk⟩:=hlv 3 (hnd.between h).1 oM;obtain⟨m1,m2⟩:=hm i h1 h2 hk;have hw:=hok.wid h2 h1 oM (lev:=(qg s i).widths.length) oM;rw[hci,m1];refine⟨oM,?_⟩;rw[decB,Aq oM,Aq oM,hci,Ax,Ax];dsimp only;rw[Aq oM,hw.2.2.2.2.2.2.2];simp
 ·obtain⟨i,hci,h1,h2,hk⟩:=hlv 3 (hnd.miss h).1 oM;obtain⟨m1,m2⟩:=hm i h1 h2 hk;rw[hci,m1];refine⟨oM,?_⟩;rw[decB,Aq oM,Aj h,Ax];exact Cx oM
theorem qo4 {s:Sch} (hE:schE s=0) {c:Cnd} (hnd:NdOk s c) (ha:isAt c=true):(decN s c:Int)≤finI s c.col∧decB s c (decN s c)=true∧(∀ m,m<decN s c→decB s c m=false):=by
 obtain⟨h1,h2⟩:=jB9 hE hnd ha;have h3:=YN (c:=c.col) hE;obtain⟨a,b,_,d⟩:=qh6 h2 64 0 oM oM;unfold decN;exact⟨oM,a,fun m hm=>d m oM hm⟩
def zp2 (s:Sch):List Pk→Cnd→List Pk:=fun l a=>qc4 l a.col (decN s a)
theorem zp3 (s:Sch):∀ (L:List Cnd) (l:List Pk),(L.foldl (zp2 s) l).length≤l.length+L.length
 | [],l=>BZ _
 | a::L,l=>by
   have h1:=zp3 s L (zp2 s l a);have h2:=qo3 l a.col (decN s a);rw[Dw,CJ];unfold zp2 at h1 ⊢
   omega
end Go.Proofs
