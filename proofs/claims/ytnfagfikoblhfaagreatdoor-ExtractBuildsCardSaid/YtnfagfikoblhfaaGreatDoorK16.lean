/- A part of the proof: trees of Go values, short forms, contracts. -/
import Derived.WalkKit
import Derived.Still
import Derived.MapKept
import GoSem.Builtin.Cap
import Derived.Laws.Externs
import GoSem.Extern.SlicesOverlaps
import Derived.Carry
import Derived.ProofKit
import Derived.OpenShut
import Derived.HandedShaped
import Derived.Lay
import Derived.LaidLaws
import Derived.MakeChecks
import Derived.SevenTiedAt
import Derived.Test.YtnfagfikoblhfaaGreatDoorChecked
import Derived.Test.YtnfagfikoblhfaaGreatDoorK15
set_option linter.unusedSimpArgs false
set_option linter.unusedVariables false
namespace Go.Proofs
open Go Go.TL
theorem SchOk.sm {s:Sch} (h:SchOk s):jI s:=by
 have h1:=h.nl;have h2:=h.nc;refine⟨oM,oM,fun l hl=>?_⟩;obtain⟨i,hi,rfl⟩:=CX hl;have h3:=h.ls i hi;rw[qg hi] at h3;have:=(ze h3).2.2;omega
theorem Yp {l:CodL} : -1≤zf l∧zf l≤60:=by
 unfold zf;split
 ·omega
 ·rename_i h;obtain⟨hp,h1,h2⟩:=ze (AQ h);have:=qB0 hp (l.codes.length-1) oM;omega
theorem qp3 (s:Sch) (h:SchOk s) (i:Nat) (hi:i<s.cols.length) (v:Int):Spc Tryz.prog 77 [schT s,vI i,vI v] [] (vB (jb s i v)) []:=by
 have hat:qj s i=s.cols[i]:=by rw[qj,qg hi]
 have hk:=za (h.cs i hi);have hcd:=fun e=>h.cdl hi e;have hE:jb s i v=if s.cols[i].kind=1 then inB v 1 1048575
  else if s.cols[i].kind=2 then inB v 0 ((qK s i).codes.length-1)&&(lvlC (qK s i) v==zf (qK s i)-1)
  else (s.cols[i].opt&&(v==kH))||inB v s.cols[i].low s.cols[i].high:=by rw[jb,hat]
 have hcl:qK s i=s.lists.getD s.cols[i].list.toNat default:=by rw[qK,hat]
 rw[hat] at hk hcd;rw[hE];rw[hcl] at hcd ⊢
 refine sIr qV0 fun e _ hst=>?_;unfold Je;simp only[tZ,↓un_u,simprocAttr,Ax,qd hi];generalize s.cols[i]=c at hk hcd ⊢
 simp only[tZ,↓un_u,simprocAttr,AY,Ak];refine⟨oM,fun h1=>?_,fun h1=>⟨fun h2=>?_,fun h2=>?_⟩⟩
 ·rw[Aj h1];refine C1.im (jp v 1 1048575) rF rF ?_;refine sW ?_;exact .oA [] []
 ·obtain⟨d1,d2⟩:=hcd h2;obtain⟨d3,d4⟩:=hk.2.2.2.1 h2;have hgl:s.lists.getD c.list.toNat default=s.lists[c.list.toNat]:=qg d1;rw[Aq h1,Aj h2];rw[hgl] at d2 ⊢
  obtain⟨_,d5,d6⟩:=ze d2;simp only[tZ,↓un_u,simprocAttr,qd d1];generalize s.lists[c.list.toNat]=l at d2 d5 d6 ⊢
  have hw:IntKind.i64.wrap ((l.codes.length:Int)-1)=(l.codes.length:Int)-1:=AK _ oM;have hlv:=Yp (l:=l);have hw2:IntKind.i64.wrap (zf l-1)=zf l-1:=AK _ oM;simp only[tZ,↓un_u,simprocAttr,hw];refine⟨oM,?_⟩;refine C1.im (jp v 0 _) rF rF ?_;refine sW ?_;refine C2.im (fun _=>KW l v oM) (fun _=>rfl) rF ?_;refine sW ?_;refine C2.im (fun _=>JK l oM) (fun _=>rfl) rF ?_;simp only[tZ,↓un_u,simprocAttr,hw2];refine⟨kR,?_⟩;exact .oA [] []
 ·rw[Aq h1,Aq h2];refine C2.im (fun _=>jp v c.low c.high) (fun _=>rfl) rF ?_;refine sW ?_;rw[show (c.opt&&v == -1099511627776)=(c.opt&&(v==kH)) from rfl];exact .oA [] []
theorem zU9 {s:Sch} {row:List Int} {i:Nat} (h1:schE s=0) (h2:row.length=s.cols.length) (hi:i<row.length) (h:jb s i row[i]=false):rowE s row=9:=by
 rw[rowE,Aq (by rw[h1];simp),Aq oM,Aj];exact List.all_eq_false.2 ⟨i,Dk.2 hi,by rw[qg hi,h];simp⟩
theorem qQ0 (s:Sch) (hs:jI s) (row:List Int) (hr:row.length<4611686018427387904):Spc Tryz.prog 112 [schT s,vIs row] [] (vI (rowE s row)) []:=by
 refine sIr zz7 fun e _ hst=>?_;unfold WY;refine sW ?_;refine C1.im (jd s hs) rF rF ?_;simp only[tZ,↓un_u,simprocAttr,Bj,Aw];refine⟨fun h=>?_,fun h=>⟨fun h2=>?_,fun h2=>?_⟩⟩
 ·rw[rowE,Aj h];exact .oA [] []
 ·rw[rowE,Aq (by rw[h];simp),Aj oM];exact .oA [] []
 have hok:=qV h;have h0:=h;refine qk mixm (α:=Nat) [6] (fun i=>i≤row.length∧(∀ j,j<i→jb s j (row.getD j 0)=true)) (fun i=>[(6,vI i)]) (fun i=>[(4096,.arr 2 [schT s] false)]) (fun i=>row.length-i) 0 ⟨oM,?_⟩ ?_ fun i hi=>?_
 ·intro j hj;omega
 ·exact .oA [(4096,some 4096)] []
 simp only[tZ,↓un_u,simprocAttr,AZ,Ay];refine⟨fun h=>?_,fun h=>?_⟩
 ·have hi2:i<row.length:=by omega
  have hwi:=qh (i:=i) oM;simp only[tZ,↓un_u,simprocAttr,Ax,qd hi2,hwi];refine⟨oM,?_⟩;refine C1.im (qp3 s hok i oM row[i]) rF rF ?_;simp only[tZ,↓un_u,simprocAttr,Bx,Bz];refine⟨kR,fun h3=>?_,fun h3=>?_⟩
  ·rw[zU9 h0 oM hi2 h3];exact .oA [] []
  ·refine⟨i+1,⟨oM,fun j hj=>?_⟩,oM,?_⟩
   ·by_cases e:j=i
    ·rw[e,qg hi2];exact h3
    ·exact hi.2 j oM
   ·exact .oA [(4096,some 4096)] []
 ·have hi2:i=row.length:=by omega
  subst hi2;rw[zJ6 h0 oM hi.2];exact .oA [] []
theorem jh (s:Sch) (hs:jI s) (c:Int):Spc Tryz.prog 42 [schT s,vI c] [] (vI (finI s c)) []:=by
 have hs2:=hs.2.1;refine sIr qM2 fun e _ hst=>?_;unfold QX;refine sW ?_;refine C1.im (jd s hs) rF rF ?_;simp only[tZ,↓un_u,simprocAttr,tD,Bj,Aw];refine⟨fun h=>?_,fun h=>?_⟩
 ·rw[finI,Aj oM];exact .oA [] []
 have hok:=qV h.1.1;obtain⟨i,rfl⟩:=AJ (show 0≤c by omega);have hi:i<s.cols.length:=by omega
 have hat:qj s i=s.cols[i]:=by rw[qj,qg hi]
 have hk:=za (hok.cs i hi);have hcd:=fun e=>hok.cdl hi e;have hcl:qK s i=s.lists.getD s.cols[i].list.toNat default:=by rw[qK,hat]
 rw[hat] at hk hcd;rw[hcl] at hcd;rw[finI,Aq oM,Ax,hcl,hat];simp only[tZ,↓un_u,simprocAttr,Ax,qd hi];generalize s.cols[i]=x at hk hcd ⊢
 simp only[tZ,↓un_u,simprocAttr,AY,Ak];refine⟨oM,fun h2=>?_,fun h2=>?_⟩
 ·obtain⟨d1,d2⟩:=hcd h2;obtain⟨d3,d4⟩:=hk.2.2.2.1 h2;have hgl:s.lists.getD x.list.toNat default=s.lists[x.list.toNat]:=qg d1;rw[Aj h2];rw[hgl] at d2 ⊢
  obtain⟨_,d5,d6⟩:=ze d2;simp only[tZ,↓un_u,simprocAttr,qd d1];generalize s.lists[x.list.toNat]=l at d2 d5 d6 ⊢
  have hlv:=Yp (l:=l);have hw2:IntKind.i64.wrap (zf l-1)=zf l-1:=AK _ oM;refine⟨oM,?_⟩;refine C1.im (JK l oM) rF rF ?_;simp only[tZ,↓un_u,simprocAttr,hw2];exact .oA [] []
 ·rw[Aq h2];exact .oA [] []
theorem zm9 {a b:Int} (hb:0<b):qJ a b=if a.tmod b<0 then a.tdiv b-1 else a.tdiv b:=by
 have h1:=Int.mul_tdiv_add_tmod a b;have h2:=Int.tmod_lt_of_pos a hb;have h3:=Int.lt_tmod_of_pos a hb;unfold qJ;rw[DW _ oM];split
 ·refine ((Int.ediv_emod_unique (r:=a.tmod b+b) hb).2 ⟨?_,oM,oM⟩).1;rw[Int.mul_sub];omega
 ·refine ((Int.ediv_emod_unique (r:=a.tmod b) hb).2 ⟨oM,oM,oM⟩).1
theorem qp4 (a b:Int) (hb:0<b) (ha : -4611686018427387904<a∧a<4611686018427387904):Spc Tryz.prog 80 [vI a,vI b] [] (vI (qJ a b)) []:=by
 rw[zm9 hb];have hq:=Int.natAbs_tdiv_le_natAbs a b;have hw:IntKind.i64.wrap (a.tdiv b)=a.tdiv b:=AK _ oM;have hw2:IntKind.i64.wrap (a.tdiv b-1)=a.tdiv b-1:=AK _ oM;refine sIr qV4 fun e _ hst=>?_;unfold Jg;simp only[tZ,↓un_u,simprocAttr,hw,hw2,tD];refine⟨oM,oM,fun h=>?_,fun h=>?_⟩
 ·rw[Aj h];exact .oA [] []
 ·rw[Aq h];exact .oA [] []
theorem QJ (c:Col) (lev:Int) (h1:1≤lev∧lev≤c.widths.length) (h2:c.widths.length<4611686018427387904):Spc Tryz.prog 79 [colT c,vI lev] [] (vI (qE c lev)) []:=by
 have hw:IntKind.i64.wrap ((c.widths.length:Int)-lev)=(c.widths.length:Int)-lev:=AK _ oM;have hk:((c.widths.length:Int)-lev).toNat<c.widths.length:=by omega
 refine sIr qV2 fun e _ hst=>?_;unfold Jf;simp only[tZ,↓un_u,simprocAttr,hw,qd hk];rw[qE,qg hk];refine⟨oM,?_⟩;exact .oA [] []
end Go.Proofs
namespace Go.Proofs
open Go Go.TL
namespace Cnd
mutual
theorem ind' {p:Cnd→Prop} (h:∀ c,(∀ k∈c.kids,p k)→p c):∀ c,p c
 | .mk _ _ _ _ _ ks=>h _ (inds h ks)
theorem inds {p:Cnd→Prop} (h:∀ c,(∀ k∈c.kids,p k)→p c):∀ ks:List Cnd,∀ k∈ks,p k
 | [],_,hk=>absurd hk sMp
 | x::r,k,hk=>by
   rcases Ck.1 hk with e | hk
   ·rw[e];exact ind' h x
   ·exact inds h r k hk
end
end Cnd
mutual
def cntC:Cnd→Int→Int
 | .mk _ _ _ _ _ ks,m=>jW ks m 1
def jW:List Cnd→Int→Int→Int
 | [],_,n=>n
 | k::r,m,n=>if n<m then jW r m (n+cntC k (m-n)) else n
end
theorem JL (c:Cnd) (m:Int):cntC c m=jW c.kids m 1:=by cases c;rw[cntC];rfl
mutual
def depC:Cnd→Nat
 | .mk _ _ _ _ _ ks=>jx ks+1
def jx:List Cnd→Nat
 | []=>0
 | k::r=>max (depC k) (jx r)
end
theorem qw6 (c:Cnd):depC c=jx c.kids+1:=by cases c;rw[depC];rfl
def isB (s:Sch) (col kind:Int):Bool:=decide (0≤col)&&decide (col<s.cols.length)&&((qj s col.toNat).kind==kind)
def arC (op:Int):Nat:=if op=5∨op=6 then 2 else if op=7 then 1 else 0
def ndE (s:Sch) (c:Cnd):Int:=
 if c.op<1∨7<c.op then 4
 else if c.kids.length≠arC c.op∨(c.op≠2∧c.op≠3∧c.op≠4∧c.col≠0)∨(c.op≠2∧c.code≠0)∨(c.op≠3∧(c.lo≠0∨c.hi≠0)) then 11
 else if (c.op=2∧isB s c.col 2=false)∨(c.op=3∧isB s c.col 3=false)∨(c.op=4∧(isB s c.col 3=false∨(qj s c.col.toNat).opt=false)) then 7
 else if c.op=2∧(c.code<0∨c.code≥(qK s c.col.toNat).codes.length) then 6
 else if c.op=3∧(c.lo < -1000000∨c.hi>1000000∨c.lo>c.hi) then 2 else 0
mutual
def nodE (s:Sch):Cnd→Int
 | .mk op col code lo hi ks=>if ndE s (.mk op col code lo hi ks)≠0 then ndE s (.mk op col code lo hi ks) else yc s ks
def yc (s:Sch):List Cnd→Int
 | []=>0
 | k::r=>if nodE s k≠0 then nodE s k else yc s r
end
theorem zn0 (s:Sch) (c:Cnd):nodE s c=if ndE s c≠0 then ndE s c else yc s c.kids:=by cases c;rw[nodE];rfl
def chkC (s:Sch) (c:Cnd):Int:=if schE s≠0 then schE s else if cntC c 41>40 then 1 else if depC c>10 then 22 else nodE s c
theorem zB1 {s:Sch}:∀ {l:List Cnd},yc s l=0→∀ k∈l,nodE s k=0
 | [],_,k,hk=>absurd hk sMp
 | x::r,h,k,hk=>by
   rw[yc] at h;split at h
   ·rename_i h1;exact absurd h h1
   ·rename_i h1;rcases Ck.1 hk with e | hk
    ·rw[e];exact AQ h1
    ·exact zB1 h k hk
theorem zJ7 {s:Sch} {c:Cnd} (h:nodE s c=0):ndE s c=0∧∀ k∈c.kids,nodE s k=0:=by
 rw[zn0] at h;split at h
 ·rename_i h1;exact absurd h h1
 ·rename_i h1;exact⟨AQ h1,zB1 h⟩
theorem zl {s:Sch} {col kind:Int}:isB s col kind=true↔0≤col∧col<s.cols.length∧(qj s col.toNat).kind=kind:=by
 unfold isB;simp only[Bq,AZ,AY,and_assoc]
structure NdOk (s:Sch) (c:Cnd):Prop where
 op:1≤c.op∧c.op≤7
 nk:c.kids.length=arC c.op
 under:c.op=2→isB s c.col 2=true∧0≤c.code∧c.code<(qK s c.col.toNat).codes.length
 between:c.op=3→isB s c.col 3=true∧-1000000≤c.lo∧c.hi≤1000000∧c.lo≤c.hi
 miss:c.op=4→isB s c.col 3=true∧(qj s c.col.toNat).opt=true
theorem zV0 {s:Sch} {c:Cnd} (h:ndE s c=0):NdOk s c:=by
 unfold ndE at h;split at h
 ·cases h
 rename_i h1;split at h
 ·cases h
 rename_i h2;split at h
 ·cases h
 rename_i h3;split at h
 ·cases h
 rename_i h4;split at h
 ·cases h
 rename_i h5;refine⟨oM,AQ fun e=>h2 (.inl e),fun e=>⟨?_,oM,oM⟩,fun e=>⟨?_,oM,oM,oM⟩,fun e=>⟨?_,?_⟩⟩
 ·cases e2:isB s c.col 2 with
  | true=>rfl
  | false=>exact absurd (.inl ⟨e,e2⟩) h3
 ·cases e2:isB s c.col 3 with
  | true=>rfl
  | false=>exact absurd (.inr (.inl ⟨e,e2⟩)) h3
 ·cases e2:isB s c.col 3 with
  | true=>rfl
  | false=>exact absurd (.inr (.inr ⟨e,.inl e2⟩)) h3
 ·cases e2:(qj s c.col.toNat).opt with
  | true=>rfl
  | false=>exact absurd (.inr (.inr ⟨e,.inr e2⟩)) h3
def isAt (c:Cnd):Bool:=(c.op==2)||(c.op==3)||(c.op==4)
def tf (b:Bool):Int:=if b then 1 else -1
def wU (s:Sch) (c:Cnd) (v:Int):Int:=
 if c.op=2 then tf (Yo (qK s c.col.toNat) v c.code)
 else if c.op=3 then (if v=kH then 0 else tf (decide (c.lo≤v)&&decide (v≤c.hi)))
 else if c.op=4 then tf (v==kH) else -1
def qi0 (op:Int) (ks:List Int):Int:=if op=7 then-ks.getD 0 0 else if op=5 then min (ks.getD 0 0) (ks.getD 1 0) else if op=6 then max (ks.getD 0 0) (ks.getD 1 0) else 1
mutual
def evC (s:Sch) (row:List Int):Cnd→Int
 | .mk op col code lo hi ks=>if isAt (.mk op col code lo hi ks)=true then wU s (.mk op col code lo hi ks) (row.getD col.toNat 0) else qi0 op (evCs s row ks)
def evCs (s:Sch) (row:List Int):List Cnd→List Int
 | []=>[]
 | k::r=>evC s row k::evCs s row r
end
theorem zV1 (s:Sch) (row:List Int):∀ l,evCs s row l=l.map (evC s row)
 | []=>by simp [evCs]
 | k::r=>by simp [evCs,zV1 s row r]
theorem jq9 (s:Sch) (row:List Int) (c:Cnd):evC s row c=if isAt c=true then wU s c (row.getD c.col.toNat 0) else qi0 c.op (c.kids.map (evC s row)):=by
 cases c;rw[evC,zV1];rfl
def zn1 (s:Sch) (c:Cnd) (row:List Int):Int:=if chkC s c≠0∨rowE s row≠0 then 0 else evC s row c
mutual
def atsC:Cnd→List Cnd
 | .mk op col code lo hi ks=>if isAt (.mk op col code lo hi ks)=true then [.mk op col code lo hi ks] else ZM ks
def ZM:List Cnd→List Cnd
 | []=>[]
 | k::r=>atsC k++ZM r
end
theorem qw7 (c:Cnd):atsC c=if isAt c=true then [c] else ZM c.kids:=by cases c;rw[atsC];rfl
theorem Kf:∀ (l:List Cnd) (k:Cnd),ZM (l++[k])=ZM l++atsC k
 | [],k=>by simp [ZM]
 | x::r,k=>by simp [ZM,Kf r k]
theorem jr0 {s:Sch}:∀ c,nodE s c=0→∀ a∈atsC c,NdOk s a∧isAt a=true:=by
 refine Cnd.ind' fun c ih h a ha=>?_;obtain⟨h1,h2⟩:=zJ7 h;rw[qw7] at ha;split at ha
 ·rename_i h3;rw[Ey] at ha;rw[ha];exact⟨zV0 h1,h3⟩
 ·have key:∀ l:List Cnd,(∀ k∈l,k∈c.kids)→a∈ZM l→NdOk s a∧isAt a=true:=by
   intro l
   induction l with
   | nil=>intro _ h;simp [ZM] at h
   | cons k r ihl=>
     intro hk h;rw[ZM,Dz] at h;rcases h with h | h
     ·exact ih k (hk k sMp) (h2 k (hk k sMp)) a h
     ·exact ihl (fun x hx=>hk x (CQ _ hx)) h
  exact key c.kids (fun k hk=>hk) ha
def qi1 (n:Nat) (p:Nat→Nat→Bool):Bool:=(List.range n).all fun i=>(List.range i).all fun k=>p i k
theorem qp5 {p:Nat→Bool} {n:Nat}:(List.range (n+1)).all p=((List.range n).all p&&p n):=by rw[List.range_succ,FK];simp
theorem zV2 {p:Nat→Bool} {n i:Nat} (h:i<n) (hp:p i=false):(List.range n).all p=false:=List.all_eq_false.2 ⟨i,Dk.2 h,by rw[hp];simp⟩
theorem qw8 {p:Nat→Nat→Bool} {n:Nat}:qi1 (n+1) p=(qi1 n p&&(List.range n).all (p n)):=qp5
theorem zn2 {p:Nat→Nat→Bool} {n i k:Nat} (h:i<n) (hk:k<i) (hp:p i k=false):qi1 n p=false:=zV2 h (zV2 hk hp)
def decP (s:Sch) (c:Cnd) (lev:Nat) (i k:Nat):Bool:=
 !((qU s c.col lev ((qT s c.col.toNat).getD i 0)==qU s c.col lev ((qT s c.col.toNat).getD k 0))&&!(wU s c ((qT s c.col.toNat).getD i 0)==wU s c ((qT s c.col.toNat).getD k 0)))
def decB (s:Sch) (c:Cnd) (lev:Nat):Bool:=
 if c.op=2 then qi1 (qT s c.col.toNat).length (decP s c lev)
 else if c.op=4 then decide (0<lev)
 else
  let x:=qj s c.col.toNat
  let first:=decide (x.low<c.lo)&&decide (c.lo≤x.high)
  let behind:=decide (x.low≤c.hi)&&decide (c.hi<x.high)
  if lev=0 then !x.opt&&!first&&!behind
  else (!first||(c.lo.tmod (qE x lev)==0))&&(!behind||((c.hi+1).tmod (qE x lev)==0))
def Zu (p:Nat→Bool):Nat→Nat→Nat
 | 0,n=>n
 | f+1,n=>if p n=true then n else Zu p f (n+1)
theorem qQ1 {p:Nat→Bool} {N:Nat} (h:p N=true):∀ (f n:Nat),n≤N→N-n≤f→p (Zu p f n)=true∧Zu p f n≤N∧n≤Zu p f n∧∀ m,n≤m→m<Zu p f n→p m=false
 | 0,n,h1,h2=>by
   have:n=N:=by omega
   subst this;exact⟨h,BZ _,BZ _,fun m h3 h4=>by rw[Zu] at h4;omega⟩
 | f+1,n,h1,h2=>by
   rw[Zu];split
   ·rename_i hp;exact⟨hp,h1,BZ _,fun m h3 h4=>by omega⟩
   ·rename_i hp;have hn:n≠N:=fun e=>hp (e ▸ h);obtain⟨a,b,c,d⟩:=qQ1 h f (n+1) oM oM;refine⟨a,b,oM,fun m h3 h4=>?_⟩;by_cases e:m=n
    ·rw[e];simpa using hp
    ·exact d m oM h4
def decN (s:Sch) (c:Cnd):Nat:=Zu (decB s c) 64 0
def Wz (col lev:Int):List Pk×Bool→Pk→List Pk×Bool:=fun x p=>
 let y:=if p.col>col∧x.2=false then (x.1++[⟨col,lev⟩],true) else x
 if p.col=col then (y.1++[⟨p.col,max p.lev lev⟩],true) else (y.1++[p],y.2)
def QK (l:List Pk) (col lev:Int):List Pk:=
 let x:=l.foldl (Wz col lev) ([],decide (lev≤0))
 if x.2 then x.1 else x.1++[⟨col,lev⟩]
def zR (s:Sch) (c:Cnd):List Pk:=if chkC s c≠0 then [] else (atsC c).foldl (fun l a=>QK l a.col (decN s a)) []
def covB (a b:List Pk):Bool:=a.all fun x=>b.any fun y=>(y.col==x.col)&&decide (y.lev≥x.lev)
mutual
def Kg:Cnd→Cnd→Bool
 | .mk a1 a2 a3 a4 a5 ks,.mk b1 b2 b3 b4 b5 ls=>(a1==b1)&&(a2==b2)&&(a3==b3)&&(a4==b4)&&(a5==b5)&&wq ks ls
def wq:List Cnd→List Cnd→Bool
 | [],[]=>true
 | k::r,l::t=>Kg k l&&wq r t
 | [],_::_=>false
 | _::_,[]=>false
end
theorem zV3 (a b:Cnd):Kg a b=((a.op==b.op)&&(a.col==b.col)&&(a.code==b.code)&&(a.lo==b.lo)&&(a.hi==b.hi)&&wq a.kids b.kids):=by cases a;cases b;rw[Kg];rfl
theorem qB2:∀ c,∀ m,1≤m→1≤cntC c m∧cntC c m≤m:=by
 refine Cnd.ind' fun c ih m hm=>?_;rw[JL];have key:∀ l:List Cnd,(∀ k∈l,k∈c.kids)→∀ n,1≤n→n≤m→1≤jW l m n∧jW l m n≤m:=by
  intro l
  induction l with
  | nil=>intro _ n h1 h2;rw[jW];exact⟨h1,h2⟩
  | cons k r ihl=>
    intro hk n h1 h2;rw[jW];split
    ·have:=ih k (hk k sMp) (m-n) oM;exact ihl (fun x hx=>hk x (CQ _ hx)) _ oM oM
    ·exact⟨h1,h2⟩
 exact key c.kids (fun k hk=>hk) 1 oM hm
theorem zn3:∀ (l:List Cnd) (m n:Int),n≤m→n≤jW l m n
 | [],m,n,_=>by rw[jW];omega
 | k::r,m,n,h=>by
   rw[jW];split
   ·have:=qB2 k (m-n) oM;have:=zn3 r m (n+cntC k (m-n)) oM;omega
   ·omega
theorem jr1:∀ c,∀ m,1≤m→cntC c m<m→(depC c:Int)≤cntC c m:=by
 refine Cnd.ind' fun c ih m hm h=>?_;rw[JL] at h ⊢
 rw[qw6];have key:∀ l:List Cnd,(∀ k∈l,k∈c.kids)→∀ n,1≤n→n≤m→jW l m n<m→n+jx l≤jW l m n:=by
  intro l
  induction l with
  | nil=>intro _ n h1 h2 _;rw[jW,jx];omega
  | cons k r ihl=>
    intro hk n h1 h2 h3;rw[jW] at h3 ⊢
    rw[jx];split at h3
    ·rename_i h4;rw[Aj h4];have c1:=qB2 k (m-n) oM;have c2:=zn3 r m (n+cntC k (m-n)) oM;have c3:=ih k (hk k sMp) (m-n) oM oM;have c4:=ihl (fun x hx=>hk x (CQ _ hx)) (n+cntC k (m-n)) oM oM h3;omega
    ·omega
 have:=key c.kids (fun k hk=>hk) 1 oM oM h;omega
end Go.Proofs
namespace Go.Proofs
open Go Go.TL
def zm (f:Nat→Int):Nat→Int
 | 0=>0
 | n+1=>if zm f n≠0 then zm f n else f n
theorem zB2 {f:Nat→Int} {i:Nat} (h:zm f i≠0):∀ n,i≤n→zm f n=zm f i:=by
 intro n hn
 induction n with
 | zero=>have:i=0:=by omega
         rw[this]
 | succ n ih=>
   by_cases e:i=n+1
   ·rw[e]
   ·have:=ih oM;rw[zm,this,Aj h]
theorem yF {f:Nat→Int}:∀ {n:Nat},zm f n=0→∀ i,i<n→f i=0
 | 0,_,i,h=>by omega
 | n+1,h,i,hi=>by
   rw[zm] at h;split at h
   ·rename_i h2;exact absurd h h2
   ·rename_i h2;by_cases e:i=n
    ·rw[e];exact h
    ·exact yF (AQ h2) i oM
theorem Kh {f:Nat→Int}:∀ {n:Nat},(∀ i,i<n→f i=0)→zm f n=0
 | 0,_=>rfl
 | n+1,h=>by
   rw[zm,Kh fun i hi=>h i oM,Aq sMp];exact h n oM
theorem zC {f:Nat→Int} {n:Nat} (h:zm f n=0):zm f (n+1)=f n:=by rw[zm,Aq (by rw[h];simp)]
theorem jy {f:Nat→Int} {i n:Nat} (h:zm f i=0) (hi:i<n) (hf:f i≠0):zm f n=f i:=by
 rw[zB2 (i:=i+1) (by rw[zC h];exact hf) n oM,zC h]
def kI (s:Sch) (p:Pk):Int:=if schE s≠0 then schE s else if p.col<1∨p.col≥s.cols.length then 7 else if inB p.lev 0 (finI s p.col)=false then 8 else 0
abbrev pkAt (l:List Pk) (i:Nat):Pk:=l.getD i default
def qp6 (s:Sch) (l:List Pk) (i:Nat):Int:=if kI s (pkAt l i)≠0 then kI s (pkAt l i) else if 0<i∧(pkAt l i).col≤(pkAt l (i-1)).col then 10 else 0
def kp (s:Sch) (l:List Pk):Int:=if schE s≠0 then schE s else zm (qp6 s l) l.length
def dimE (s:Sch) (l:List Pk) (i:Nat):Int:=if kI s (pkAt l i)≠0 then kI s (pkAt l i) else if isB s (pkAt l i).col 2=false then 7 else if ((l.take i).any fun x=>x.col==(pkAt l i).col)=true then 10 else 0
def Zv (s:Sch) (l:List Pk):Int:=if l.length<1∨l.length>3 then 1 else zm (dimE s l) l.length
def qQ2 (s:Sch) (m:Int) (l:List Int) (i:Nat):Int:=if isB s (l.getD i 0) 3=false then 7 else if l.getD i 0=m∨(l.take i).contains (l.getD i 0)=true then 10 else 0
def kJ (s:Sch) (m:Int) (l:List Int):Int:=if l.length<1∨l.length>3 then 1 else zm (qQ2 s m l) l.length
def kr (s:Sch) (q:Qst):Int:=
 if q.kind=1 then (if Zv s q.dims≠0 then Zv s q.dims else if q.meas≠-1∧isB s q.meas 3=false then 7 else 0)
 else if q.kind=2 then (if isB s q.meas 3=false then 7 else kJ s q.meas q.terms)
 else if isB s q.meas 3=false then 7 else if (qj s q.meas.toNat).low<0 then 2 else chkC s q.event
def qstE (s:Sch) (q:Qst):Int:=
 if schE s≠0 then schE s else if zT q.name=false then 3 else if q.kind<1∨3<q.kind then 4
 else if chkC s q.filt≠0 then chkC s q.filt else if kr s q≠0 then kr s q
 else if (q.kind≠1∧0<q.dims.length)∨(q.kind≠2∧0<q.terms.length)∨(q.kind≠3∧Kg q.event cnd0=false) then 11 else 0
abbrev qAt (l:List Qst) (i:Nat):Qst:=l.getD i default
def qsE (s:Sch) (l:List Qst) (i:Nat):Int:=if qstE s (qAt l i)≠0 then qstE s (qAt l i) else if ((l.take i).any fun x=>eqB x.name (qAt l i).name)=true then 10 else 0
def smpE (x:Smp):Int:=if x.of<1∨x.of>1000∨x.part<1∨x.part>x.of∨x.seed<0∨x.seed>1099511627776 then 2 else 0
def dclE (s:Sch) (d:Dcl):Int:=
 if schE s≠0 then schE s else if zT d.proj=false∨zT d.src=false then 3 else if chkC s d.coh≠0 then chkC s d.coh
 else if smpE d.smp≠0 then 2 else if d.qs.length<1∨d.qs.length>8 then 1 else zm (qsE s d.qs) d.qs.length
theorem qw9 {s:Sch} {d:Dcl} (h:dclE s d=0):schE s=0∧zT d.proj=true∧zT d.src=true∧chkC s d.coh=0∧smpE d.smp=0∧1≤d.qs.length∧d.qs.length≤8∧∀ i,i<d.qs.length→qstE s (qAt d.qs i)=0:=by
 unfold dclE at h;split at h
 ·rename_i h1;exact absurd h h1
 rename_i h1;split at h
 ·cases h
 rename_i h2;split at h
 ·rename_i h3;exact absurd h h3
 rename_i h3;split at h
 ·cases h
 rename_i h4;split at h
 ·cases h
 rename_i h5;refine⟨AQ h1,?_,?_,AQ h3,AQ h4,oM,oM,fun i hi=>?_⟩
 ·cases e:zT d.proj with
  | true=>rfl
  | false=>exact absurd (.inl e) h2
 ·cases e:zT d.src with
  | true=>rfl
  | false=>exact absurd (.inr e) h2
 ·have:=yF h i hi;unfold qsE at this;split at this
  ·rename_i h6;exact absurd this h6
  ·rename_i h6;exact AQ h6
theorem Yq {s:Sch} {l:List Pk} (h:kp s l=0):schE s=0∧(∀ p∈l,kI s p=0)∧l.Pairwise fun a b=>a.col<b.col:=by
 unfold kp at h;split at h
 ·rename_i h1;exact absurd h h1
 rename_i h1;have key:∀ i,i<l.length→kI s (pkAt l i)=0∧¬ (0<i∧(pkAt l i).col≤(pkAt l (i-1)).col):=fun i hi=>by
  have:=yF h i hi;unfold qp6 at this;split at this
  ·rename_i h2;exact absurd this h2
  rename_i h2;split at this
  ·cases this
  ·rename_i h3;exact⟨AQ h2,h3⟩
 refine⟨AQ h1,fun p hp=>?_,?_⟩
 ·obtain⟨i,hi,rfl⟩:=CX hp;have:=(key i hi).1;rw[pkAt,qg hi] at this;exact this
 ·rw[DX];have k2:∀ (d i:Nat) (hj:i+d+1<l.length),(l[i]'oM).col<l[i+d+1].col:=by
   intro d
   induction d with
   | zero=>
     intro i hj;have:=(key (i+1) oM).2;rw[pkAt,pkAt,qg oM,qg oM] at this;simp at this;simpa using this
   | succ d ih=>
     intro i hj;have h1:=ih i oM;have h2:=(key (i+d+1+1) oM).2;rw[pkAt,pkAt,qg oM,qg oM] at h2;simp only[Nat.add_sub_cancel] at h2;have e:i+(d+1)+1=i+d+1+1:=by omega
     simp only[e];omega
  intro i j hi hj hij;have:=k2 (j-i-1) i oM;have e:i+(j-i-1)+1=j:=by omega
  simp only[e] at this;exact this
theorem YQ {s:Sch} {p:Pk} (h:kI s p=0):schE s=0∧1≤p.col∧p.col<s.cols.length∧0≤p.lev∧p.lev≤finI s p.col:=by
 unfold kI at h;split at h
 ·rename_i h1;exact absurd h h1
 rename_i h1;split at h
 ·cases h
 rename_i h2;split at h
 ·cases h
 rename_i h3;rw[Ez,inB,Bq,AZ,AZ] at h3;exact⟨AQ h1,oM,oM,h3.1,h3.2⟩
end Go.Proofs
namespace Go.Proofs
open Go Go.TL
def divM (high w wo:Int):Nat→Int→Bool
 | 0,_=>true
 | k+1,f=>if f>high then true else if f.tmod wo≠0 then false else divM high w wo k (f+w)
def divP (s:Sch) (col:Nat) (L:List Int) (other lev:Nat) (i k:Nat):Bool:=
 !(!(qU s col lev (L.getD i 0)==qU s col lev (L.getD k 0))&&(qU s col other (L.getD i 0)==qU s col other (L.getD k 0)))
def divB (s:Sch) (col other lev:Nat):Bool:=
 if lev=0∨lev≤other then true
 else if (qj s col).kind=2 then qi1 (qT s col).length (divP s col (qT s col) other lev)
 else
  let x:=qj s col
  let w:=qE x lev
  let first:=(qJ x.low w+1)*w
  if other=0 then !x.opt&&decide (first>x.high)
  else divM x.high w (qE x other) 2 first
def jX (s:Sch) (col lev:Int):Int:=if inB lev 0 (finI s col)=false then -1 else Zu (fun n=>divB s col.toNat n lev.toNat) 64 0
def ja5 (q:Qst) (k:Int):Bool:=(q.meas==k)||q.terms.contains k
def wu (l m:List Pk):List Pk:=m.foldl (fun l p=>QK l p.col p.lev) l
def wV (s:Sch) (q:Qst):List Pk→Nat→List Pk:=fun l k=>if ja5 q (k+1)=true then QK l (k+1) (jX s (k+1) (finI s (k+1))) else l
def jO2 (s:Sch) (q:Qst) (l:List Pk):List Pk:=(List.range (s.cols.length-1)).foldl (wV s q) l
def kK (s:Sch) (q:Qst):List Pk:=if qstE s q≠0 then [] else
 jO2 s q (q.dims.foldl (fun l p=>QK l p.col (jX s p.col p.lev)) (if q.kind=3 then wu (zR s q.filt) (zR s q.event) else zR s q.filt))
def sufB (s:Sch) (q:Qst) (l:List Pk):Bool:=(qstE s q==0)&&(kp s l==0)&&covB (kK s q) l
def qx0 (s:Sch) (d:Dcl):List Pk:=if dclE s d≠0 then [] else d.qs.foldl (fun l q=>wu l (kK s q)) []
def qF9 (s:Sch) (d:Dcl) (l:List Pk):Int:=if dclE s d≠0 then dclE s d else if kp s l≠0 then kp s l else zm (fun i=>if sufB s (qAt d.qs i) l=true then 0 else 23) d.qs.length
end Go.Proofs
namespace Go.Proofs
open Go Go.TL
theorem wW {s:Sch} {c:Int} (h:0≤finI s c):schE s=0∧1≤c∧c<s.cols.length∧finI s c=(if (qj s c.toNat).kind=2 then zf (qK s c.toNat)-1 else (qj s c.toNat).widths.length):=by
 unfold finI at h ⊢
 split at h
 ·omega
 ·rename_i h1;rw[Aq h1];exact⟨oM,oM,oM,rfl⟩
theorem Qy {n lo hi:Int}:inB n lo hi=true↔lo≤n∧n≤hi:=by simp [inB]
theorem Yr {n lo hi:Int}:inB n lo hi=false↔n<lo∨hi<n:=by
 rw[← Bool.not_eq_true,Qy];omega
theorem SchOk.wid {s:Sch} (h:SchOk s) {i:Nat} (hi:i<s.cols.length) (h0:0<i) (hk:(qj s i).kind≠2) {lev:Int} (hl:1≤lev∧lev≤(qj s i).widths.length) :
 1≤qE (qj s i) lev∧qE (qj s i) lev≤1000000∧(qj s i).kind=3∧(qj s i).widths.length≤4∧-1000000≤(qj s i).low∧(qj s i).high≤1000000∧(qj s i).low≤(qj s i).high∧qE (qj s i) (qj s i).widths.length=1:=by
 have hk2:=za (h.cs i hi);have hk3:(qj s i).kind=3:=by have:=hk2.2.2.1 h0;omega
 have hm:=hk2.2.2.2.2 hk3;generalize qj s i=c at hl hm hk3 ⊢
 unfold measE at hm;split at hm
 ·cases hm
 rename_i h1;split at hm
 ·cases hm
 rename_i h2;split at hm
 ·cases hm
 rename_i h3;rw[Ez] at h3;have hw:∀ j,j<c.widths.length→wdOk c.widths j=true:=fun j hj=>Bk.1 h3 j (Dk.2 hj);have e1:inB c.low (-1000000) 1000000=true:=by grind
 have e2:inB c.high (-1000000) 1000000=true:=by grind
 rw[Qy] at e1 e2;have hn:((c.widths.length:Int)-lev).toNat<c.widths.length:=by omega
 have hp:=zB0 (ws:=c.widths) hw _ hn;have h0:=hw 0 oM;rw[wdOk,Aj rfl,AY] at h0;have hmax:c.widths.getD ((c.widths.length:Int)-lev).toNat 0≤1000000:=by
  have:=hw _ hn;unfold wdOk at this;split at this
  ·rename_i e;rw[e,h0];omega
  ·simp only[Bq,AZ] at this;omega
 refine⟨hp,hmax,hk3,oM,oM,oM,oM,?_⟩;rw[qE,show ((c.widths.length:Int)-c.widths.length).toNat=0 by omega,h0]
theorem Ys {v w:Int} (hw:0<w):v-w<qJ v w*w∧qJ v w*w≤v:=by
 unfold qJ;rw[DW _ oM,Int.mul_comm];have h1:=Int.mul_ediv_add_emod v w;have h2:=Int.emod_nonneg v (b:=w) oM;have h3:=Int.emod_lt_of_pos v hw;omega
theorem jA7 {v w:Int} (hw:0<w) (hv : -4611686018427387904<v∧v<4611686018427387904) : -4611686018427387904<qJ v w∧qJ v w<4611686018427387904:=by
 have hq:=Int.natAbs_tdiv_le_natAbs v w;have h1:=Int.mul_tdiv_add_tmod v w;rw[zm9 hw];unfold qJ at *
 split
 ·rename_i h;have h2:v<0:=AQ fun k=>by
   have:=Int.tmod_nonneg w (show 0≤v by omega);omega
  have h3 : -4611686018427387904<v.tdiv w-1:=by
   by_cases e:w=1
   ·subst e;rw[Int.tmod_one] at h;omega
   ·refine AQ fun k=>?_;have h4:v.tdiv w≤-4611686018427387903:=by omega
    have h5:w*v.tdiv w≤2*v.tdiv w:=Int.mul_le_mul_of_nonpos_right oM oM;have h6:=Int.lt_tmod_of_pos v hw;have h7:=Int.tmod_lt_of_pos v hw;omega
  omega
 ·omega
theorem ji (s:Sch) (hs:jI s) (c lev v:Int):Spc Tryz.prog 23 [schT s,vI c,vI lev,vI v] [] (vI (qU s c lev v)) []:=by
 refine sIr qL8 fun e _ hst=>?_;unfold QV;refine sW ?_;refine C1.im (jh s hs c) rF rF ?_;refine sW ?_;refine C1.im (jp lev 0 (finI s c)) rF rF ?_;simp only[tZ,↓un_u,simprocAttr,Bx,Bz];refine⟨fun h=>?_,fun h=>?_⟩
 ·rw[qU,Aj h];exact .oA [] []
 rw[Qy] at h;obtain⟨hE,c1,c2,hfin⟩:=wW (s:=s) (c:=c) oM;have hok:=qV hE;obtain⟨i,rfl⟩:=AJ (show 0≤c by omega);rw[Ax] at hfin;have hi:i<s.cols.length:=by omega
 have hat:qj s i=s.cols[i]:=by rw[qj,qg hi]
 have hk:=za (hok.cs i hi);have hcd:=fun e=>hok.cdl hi e;have hwd:=fun e l=>hok.wid hi oM e (lev:=l);have hcl:qK s i=s.lists.getD s.cols[i].list.toNat default:=by rw[qK,hat]
 have hE2:qU s i lev v=if s.cols[i].kind=2 then (if jb s i v=false then -1 else upC (qK s i) v lev)
  else if v≠kH∧inB v (-1000000) 1000000=false then -1
  else if lev=0 then 0 else if v=kH then v else qJ v (qE s.cols[i] lev)*qE s.cols[i] lev:=by
  rw[qU,Aq (by rw[Ez,Qy];exact h),Ax,hat]
 rw[hE2];rw[hat] at hk hcd hwd hfin;rw[hcl] at hcd ⊢
 simp only[tZ,↓un_u,simprocAttr,Ax,qd hi];have hho:=qp3 s hok i hi v;generalize s.cols[i]=x at hk hcd hwd hfin ⊢
 simp only[tZ,↓un_u,simprocAttr,AY,Ak];refine⟨oM,fun h2=>?_,fun h2=>?_⟩
 ·rw[Aj h2];obtain⟨d1,d2⟩:=hcd h2;obtain⟨d3,d4⟩:=hk.2.2.2.1 h2;have hgl:s.lists.getD x.list.toNat default=s.lists[x.list.toNat]:=qg d1;rw[hgl] at d2 ⊢
  obtain⟨_,d5,d6⟩:=ze d2;refine C1.im hho rF rF ?_;simp only[tZ,↓un_u,simprocAttr,Bx,Bz];refine⟨fun h3=>?_,fun h3=>?_⟩
  ·rw[Aj h3];exact .oA [] []
  rw[Aq (by rw[h3];simp)];simp only[tZ,↓un_u,simprocAttr,qd d1];generalize s.lists[x.list.toNat]=l at d2 d5 d6 ⊢
  refine⟨oM,?_⟩;refine C1.im (zf5 l v lev oM) rF rF ?_;refine sW ?_;exact .oA [] []
 rw[Aq h2];rw[Aq h2] at hfin;refine C2.im (fun _=>jp v (-1000000) 1000000) (fun _=>rfl) rF ?_;simp only[tZ,↓un_u,simprocAttr,tD,Bj,Aw,Bx,Bz,AY,Ak];rw[show (-1099511627776:Int)=kH from rfl];refine⟨fun h3=>?_,fun h3=>?_⟩
 ·rw[Aj h3];exact .oA [] []
 rw[Aq (by grind)];refine⟨fun h4=>?_,fun h4=>?_⟩
 ·rw[Aj h4];exact .oA [] []
 rw[Aq h4];refine⟨fun h5=>?_,fun h5=>?_⟩
 ·rw[Aj h5];exact .oA [] []
 rw[Aq h5];have hv:inB v (-1000000) 1000000=true:=by grind
 rw[Qy] at hv;obtain⟨w1,w2,w3,w4,_⟩:=hwd h2 lev oM;have hfm:=Ys (v:=v) (w:=qE x lev) oM;have hw:IntKind.i64.wrap (qJ v (qE x lev)*qE x lev)=qJ v (qE x lev)*qE x lev:=AK _ oM;refine C1.im (QJ x lev oM oM) rF rF ?_;refine sW ?_;refine C1.im (qp4 v (qE x lev) oM oM) rF rF ?_;simp only[tZ,↓un_u,simprocAttr,hw];exact .oA [] []
theorem JM (s:Sch) (hok:SchOk s) (i:Nat) (hi:i<s.cols.length) (h2:(qj s i).kind=2):Spc Tryz.prog 110 [schT s,vI i] [] (vIs (qT s i)) []:=by
 have hat:qj s i=s.cols[i]:=by rw[qj,qg hi]
 obtain⟨d1,d2⟩:=hok.cdl hi h2;obtain⟨d3,d4⟩:=(za (hok.cs i hi)).2.2.2.1 h2;have hcl:qK s i=s.lists.getD s.cols[i].list.toNat default:=by rw[qK,hat]
 rw[hcl] at d2;rw[hat] at d1 d3 d4;have hgl:s.lists.getD s.cols[i].list.toNat default=s.lists[s.cols[i].list.toNat]:=qg d1;rw[hgl] at d2;obtain⟨_,d5,d6⟩:=ze d2;rw[qT,hcl,hgl];have hlv:=Yp (l:=s.lists[s.cols[i].list.toNat]);have hw2:IntKind.i64.wrap (zf s.lists[s.cols[i].list.toNat]-1)=zf s.lists[s.cols[i].list.toNat]-1:=AK _ oM;refine sIr qN7 fun e _ hst=>?_;unfold Zf;simp only[tZ,↓un_u,simprocAttr,Ax,qd hi,qd d1];refine⟨oM,oM,kR,?_⟩;refine C1.im (JK _ oM) rF rF ?_;simp only[tZ,↓un_u,simprocAttr,hw2];refine C1.im (ja3 _ _ oM) rF rF ?_;refine sW ?_;refine⟨kR,?_⟩;exact .oA [] []
theorem qB3 (s:Sch) (hs:jI s) (p:Pk):Spc Tryz.prog 128 [schT s,pkT p] [] (vI (kI s p)) []:=by
 refine sIr zl1 fun e _ hst=>?_;unfold KL;refine sW ?_;refine C1.im (jd s hs) rF rF ?_;simp only[tZ,↓un_u,simprocAttr,tD,Bj,Aw];refine⟨fun h=>?_,fun h=>⟨fun h2=>?_,fun h2=>?_⟩⟩
 ·rw[kI,Aj h];exact .oA [] []
 ·rw[kI,Aq (by rw[h];simp),Aj oM];exact .oA [] []
 rw[kI,Aq (by rw[h];simp),Aq oM];refine C1.im (jh s hs p.col) rF rF ?_;refine sW ?_;refine C1.im (jp p.lev 0 (finI s p.col)) rF rF ?_;simp only[tZ,↓un_u,simprocAttr,Bx,Bz];refine⟨kR,fun h3=>?_,fun h3=>?_⟩
 ·rw[Aj h3];exact .oA [] []
 ·rw[Aq (by rw[h3];simp)];exact .oA [] []
theorem qp7 (s:Sch) (hs:jI s) (l:List Pk) (hl:l.length<4611686018427387904):Spc Tryz.prog 65 [schT s,vPs l] [] (vI (kp s l)) []:=by
 refine sIr qU8 fun e _ hst=>?_;unfold Jd;refine sW ?_;refine C1.im (jd s hs) rF rF ?_;simp only[tZ,↓un_u,simprocAttr,Bj,Aw];refine⟨fun h=>?_,fun hE=>?_⟩
 ·rw[kp,Aj h];exact .oA [] []
 rw[kp,Aq (by rw[hE];simp)];refine qk mixm (α:=Nat) [6] (fun i=>i≤l.length∧(zm (qp6 s l) i=0)) (fun i=>[(6,vI i)]) (fun i=>[(4096,.arr 2 [schT s] false)]) (fun i=>l.length-i) 0 ⟨oM,?_⟩ ?_ fun i hi=>?_
 ·rfl
 ·exact .oA [(4096,some 4096)] []
 simp only[tZ,↓un_u,simprocAttr,AZ,Ay];refine⟨fun h=>?_,fun h=>?_⟩
 ·have hi2:i<l.length:=by omega
  have hpi:pkAt l i=l[i]:=by rw[pkAt,qg hi2]
  have hstep:=jy hi.2 hi2;have hnext:=zC hi.2;have hA:qp6 s l i=if kI s l[i]≠0 then kI s l[i] else if 0<i∧l[i].col≤(pkAt l (i-1)).col then 10 else 0:=by rw[qp6,hpi]
  have hi2:i<l.length:=by omega
  have hwi:=qh (i:=i) oM;simp only[tZ,↓un_u,simprocAttr,Ax,qd hi2,hwi];refine⟨oM,?_⟩;refine C1.im (qB3 s hs l[i]) rF rF ?_;simp only[tZ,↓un_u,simprocAttr,Bj,Aw];refine⟨kR,fun h3=>?_,fun h3=>?_⟩
  ·rw[Aj h3] at hA;rw[hstep (by rw[hA];exact h3),hA];exact .oA [] []
  rw[Aq (by rw[h3];simp)] at hA;rcases DQ i with h0 | h0
  ·subst h0;rw[Aq oM] at hA;have hz:((0:Nat):Int)=0:=rfl;have hz2:(IntKind.i64.wrap (-1)).toNat=0:=by decide
   have hz3:=qh (i:=0) oM;rw[hz] at hz3;simp only[tZ,↓un_u,simprocAttr,Ax,hz,beq_self_eq_true,gt_iff_lt,Int.lt_irrefl,Fq,hz2,qd hi2,hz3];refine⟨kR,1,⟨oM,by rw[hnext,hA]⟩,oM,?_⟩;exact .oA [(4096,some 4096)] []
  ·obtain⟨k,rfl⟩:∃ k,i=k+1:=⟨i-1,oM⟩;have hk3:k<l.length:=by omega
   have e2:decide (((k+1:Nat):Int)>0)=true:=Cx oM;have e3:=zG (i:=k+1) oM oM;rw[Nat.add_sub_cancel] at e3 hA;rw[pkAt,qg hk3] at hA;simp only[tZ,↓un_u,simprocAttr,Ax,qd hi2,qd hk3,e2,e3,hwi,tD];refine⟨oM,oM,kR,fun h4=>?_,fun h4=>?_⟩
   ·rw[Aj ⟨oM,h4⟩] at hA;rw[hstep (by rw[hA];simp),hA];exact .oA [] []
   ·rw[Aq oM] at hA;refine⟨k+2,⟨oM,by rw[hnext,hA]⟩,oM,?_⟩;exact .oA [(4096,some 4096)] []
 ·have hi2:i=l.length:=by omega
  subst hi2;rw[hi.2];exact .oA [] []
theorem jA8 {x y:Pk}:eqPk x y=true↔x=y:=by
 cases x;cases y;simp [eqPk]
theorem ja6 {a b:List Pk}:qp1 a b=true↔a=b:=qk6 fun x y=>jA8
theorem qx1 (a b:List Pk) (ha:a.length<4611686018427387904):Spc Tryz.prog 16 [vPs a,vPs b] [] (vB (qp1 a b)) []:=by
 refine sIr ql0 fun e _ hst=>?_;unfold wA;simp only[tZ,↓un_u,simprocAttr,Bj,Aw];refine⟨fun h=>?_,fun h=>?_⟩
 ·rw[qp1,qH7 oM];exact .oA [] []
 have hl:a.length=b.length:=by omega
 refine qk mixm (α:=Nat) [5] (fun i=>i≤a.length∧(qp1 (a.take i) (b.take i)=true)) (fun i=>[(5,vI i)]) (fun i=>[]) (fun i=>a.length-i) 0 ⟨oM,?_⟩ ?_ fun i hi=>?_
 ·rfl
 ·exact .oA [] []
 simp only[tZ,↓un_u,simprocAttr,AZ,Ay];refine⟨fun h=>?_,fun h=>?_⟩
 ·have hib:i<b.length:=by omega
  have hi2:i<a.length:=by omega
  have hwi:=qh (i:=i) oM;simp only[tZ,↓un_u,simprocAttr,Ax,qd hi2,hwi,qd hib];rw[show (a[i].col==b[i].col&&a[i].lev==b[i].lev)=eqPk a[i] b[i] from rfl];refine⟨oM,oM,kR,fun h3=>?_,fun h3=>⟨i+1,⟨oM,?_⟩,oM,?_⟩⟩
  ·rw[qp1,qe8 (i:=i) hl oM h3];exact .oA [] []
  ·rw[qp1,YO hi2 hib,← qp1,hi.2];simpa using h3
  ·exact .oA [] []
 ·have hi2:i=a.length:=by omega
  subst hi2;have h3:=hi.2;rw[Bw,List.take_of_length_le oM] at h3;rw[h3];exact .oA [] []
end Go.Proofs
namespace Go.Proofs
open Go Go.TL
theorem Ki {s:Sch} (h:SchOk s) {i:Nat} (hi:i<s.cols.length) (h2:(qj s i).kind=2):(qT s i).length≤60:=by
 obtain⟨d1,d2⟩:=h.cdl hi h2;obtain⟨_,d5,d6⟩:=ze d2;unfold qT atL;rw[Aq (by rw[d2];simp),BY];have:=Fx (fun i=>(dep (qK s i).codes i:Int)==zf (qK s i)-1) (List.range (qK s i).codes.length);refine FZ (Fx _ _) ?_;rw[List.length_range];exact d6
theorem qQ3 (s:Sch) (hok:SchOk s) (i o lev:Nat) (hi:i<s.cols.length) (h0:0<i) (hl:(lev:Int)≤finI s i):Spc Tryz.prog 189 [schT s,vI i,vI o,vI lev] [] (vB (divB s i o lev)) []:=by
 have hat:qj s i=s.cols[i]:=by rw[qj,qg hi]
 obtain⟨hE,c1,c2,hfin⟩:=wW (s:=s) (c:=i) oM;rw[Ax,hat] at hfin;have hwd:=fun e l=>hok.wid hi oM e (lev:=l);have hlv:=JM s hok i hi;have hll:=Ki hok hi;rw[hat] at hwd hlv hll;have hE2:divB s i o lev=if lev=0∨lev≤o then true
  else if s.cols[i].kind=2 then qi1 (qT s i).length (divP s i (qT s i) o lev)
  else if o=0 then !s.cols[i].opt&&decide ((qJ s.cols[i].low (qE s.cols[i] lev)+1)*qE s.cols[i] lev>s.cols[i].high)
  else divM s.cols[i].high (qE s.cols[i] lev) (qE s.cols[i] o) 2 ((qJ s.cols[i].low (qE s.cols[i] lev)+1)*qE s.cols[i] lev):=by rw[divB,hat]
 rw[hE2];refine sIr qE5 fun e _ hst=>?_;unfold Qn;simp only[tZ,↓un_u,simprocAttr,Ax,qd hi];generalize s.cols[i]=x at hwd hlv hfin hll ⊢
 simp only[tZ,↓un_u,simprocAttr,tD,AY,Ak];refine⟨oM,fun h=>?_,fun h=>?_⟩
 ·rw[Aj oM];exact .oA [] []
 rw[Aq oM];refine⟨fun h2=>?_,fun h2=>?_⟩
 ·rw[Aj h2];refine C1.im (hlv h2) rF rF ?_;generalize qT s i=L at hll ⊢
  have hll:=hll h2;refine sW ?_;refine qk mixm (α:=Nat) [11] (fun j=>j≤L.length∧qi1 j (divP s i L o lev)=true) (fun j=>[(11,vI j)]) (fun j=>[(4096,.arr 2 [schT s] false),(8212,.arr 7 [colT x] false)]) (fun j=>L.length-j) 0 ⟨oM,rfl⟩ ?_ fun j hj=>?_
  ·exact .oA [(4096,some 4096),(8212,some 8212)] []
  obtain⟨j1,j2⟩:=hj;refine sD ?_;refine⟨fun h3=>?_,fun h3=>?_⟩
  ·have hj2:j<L.length:=by omega
   have hwj:=qh (i:=j) oM;have hgj:L.getD j 0=L[j]:=qg hj2;refine qk mixm (α:=Nat) [12] (fun k=>k≤j∧(List.range k).all (divP s i L o lev j)=true) (fun k=>[(12,vI k)]) (fun k=>[(4096,.arr 2 [schT s] false),(8212,.arr 7 [colT x] false)]) (fun k=>j-k) 0 ⟨oM,rfl⟩ ?_ fun k hk=>?_
   ·exact .oA [(4096,some 4096),(8212,some 8212)] []
   obtain⟨k1,k2⟩:=hk;refine sD ?_;refine⟨fun h4=>?_,fun h4=>?_⟩
   ·have hk2:k<L.length:=by omega
    have hwk:=qh (i:=k) oM;have hgk:L.getD k 0=L[k]:=qg hk2;have hP:divP s i L o lev j k=!(!(qU s i lev L[j]==qU s i lev L[k])&&(qU s i o L[j]==qU s i o L[k])):=by rw[divP,hgj,hgk]
    have hC1:=ji s hok.sm i o L[j];have hC2:=ji s hok.sm i o L[k];simp only[tZ,↓un_u,simprocAttr,Ax,qd hj2,qd hk2];refine⟨oM,?_⟩;refine C1.im (ji s hok.sm i lev L[j]) rF rF ?_;simp only[tZ,↓un_u,simprocAttr,Ax,qd hj2,qd hk2];refine⟨oM,?_⟩;refine C1.im (ji s hok.sm i lev L[k]) rF rF ?_;simp only[tZ,↓un_u,simprocAttr,Ax,qd hj2,qd hk2];refine⟨fun _=>by omega,?_⟩;refine C2.im (fun _=>hC1) (fun _=>rfl) rF ?_;simp only[tZ,↓un_u,simprocAttr,Ax,qd hj2,qd hk2];refine⟨fun _=>by omega,?_⟩;refine C2.im (fun _=>hC2) (fun _=>rfl) rF ?_;simp only[tZ,↓un_u,simprocAttr,hwk,tD,Bj,Aw,AY,Ak];refine⟨kR,fun h5=>?_,fun h5=>?_⟩
    ·rw[zn2 hj2 (show k<j by omega) (by rw[hP];grind)];exact .oA [] []
    ·refine⟨k+1,⟨oM,?_⟩,oM,?_⟩
     ·rw[qp5,k2,hP];grind
     ·exact .oA [(4096,some 4096),(8212,some 8212)] []
   ·have hkj:k=j:=by omega
    subst hkj;simp only[tZ,↓un_u,simprocAttr,hwj];refine⟨k+1,⟨oM,?_⟩,oM,?_⟩
    ·rw[qw8,j2,k2];rfl
    ·exact .oA [(4096,some 4096),(8212,some 8212)] []
  ·have hjl:j=L.length:=by omega
   subst hjl;rw[j2];exact .oA [] []
 rw[Aq h2] at hfin;rw[Aq h2];obtain⟨w1,w2,w3,w4,w5,w6,w7,_⟩:=hwd h2 lev oM;generalize hW:qE x lev=w at w1 w2 ⊢
 have hfm:=Ys (v:=x.low) (w:=w) oM;have hfl:=jA7 (v:=x.low) (w:=w) oM oM;have hw1:IntKind.i64.wrap (qJ x.low w+1)=qJ x.low w+1:=AK _ oM;have hw2:IntKind.i64.wrap ((qJ x.low w+1)*w)=(qJ x.low w+1)*w:=AK _ (by rw[Int.add_mul];omega);have hF : -3000000≤(qJ x.low w+1)*w∧(qJ x.low w+1)*w≤3000000:=by rw[Int.add_mul];omega
 refine C1.im (QJ x lev oM oM) rF rF ?_;rw[hW];refine sW ?_;refine C1.im (qp4 x.low w oM oM) rF rF ?_;simp only[tZ,↓un_u,simprocAttr,hw1,hw2];generalize (qJ x.low w+1)*w=F at hF ⊢
 simp only[tZ,↓un_u,simprocAttr,AY,Ak];refine⟨fun h3=>?_,fun h3=>?_⟩
 ·rw[Aj oM];exact .oA [] []
 rw[Aq oM];obtain⟨v1,v2,_⟩:=hwd h2 o oM;have hwo:=QJ x o oM oM;generalize qE x o=wo at v1 v2 hwo ⊢
 refine qk mixm (α:=Nat×Int) [14,15] (fun y=>y.1≤2∧divM x.high w wo 2 F=divM x.high w wo (2-y.1) y.2∧-3000000-1000000*y.1≤y.2∧y.2≤3000000+1000000*y.1) (fun y=>[(14,vI y.2),(15,vI y.1)]) (fun y=>[(4096,.arr 2 [schT s] false),(8212,.arr 7 [colT x] false)]) (fun y=>2-y.1) (0,F) ⟨sMp,rfl,by simp;omega,by simp;omega⟩ ?_ fun y hy=>?_
 ·exact .oA [(4096,some 4096),(8212,some 8212)] []
 obtain⟨n,f⟩:=y;obtain⟨y1,y2,y3,y4⟩:=hy;dsimp only at y1 y2 y3 y4;have hwn:=qh (i:=n) oM;have hwf:IntKind.i64.wrap (f+w)=f+w:=AK _ oM;rw[y2];refine sD ?_;refine⟨fun h4=>?_,fun h4=>?_⟩
 ·obtain⟨m,hm⟩:∃ m,2-n=m+1:=⟨1-n,oM⟩;refine C1.im hwo rF rF ?_;simp only[tZ,↓un_u,simprocAttr,Bj,Aw];rw[hm,divM,Aq oM];refine⟨oM,fun h5=>?_,fun h5=>?_⟩
  ·rw[Aj h5];exact .oA [] []
  ·simp only[tZ,↓un_u,simprocAttr,hwn,hwf];refine⟨(n+1,f+w),⟨by dsimp only;omega,?_,by dsimp only;omega,by dsimp only;omega⟩,by dsimp only;omega,?_⟩
   ·dsimp only;rw[Aq (by rw[h5];simp),show 2-(n+1)=m by omega]
   ·exact .oA [(4096,some 4096),(8212,some 8212)] []
 ·have:divM x.high w wo (2-n) f=true:=by
   by_cases e:n=2
   ·subst e;rfl
   ·obtain⟨m,hm⟩:∃ m,2-n=m+1:=⟨1-n,oM⟩;rw[hm,divM,Aj oM]
  rw[this];exact .oA [] []
theorem zV4 (s:Sch) (i lev:Nat):divB s i lev lev=true:=by unfold divB;rw[Aj oM]
theorem qx2 {s:Sch} {c:Int} (h:schE s=0):finI s c≤59:=by
 by_cases h0:0≤finI s c
 ·obtain⟨_,h1,h2,h3⟩:=wW h0;rw[h3];split
  ·have:=Yp (l:=qK s c.toNat);omega
  ·rename_i h4;have hok:=qV h;by_cases e:(qj s c.toNat).widths.length=0
   ·omega
   ·have:=hok.wid (i:=c.toNat) oM oM h4 (lev:=1) oM;omega
 ·omega
theorem qp8 (s:Sch) (hs:jI s) (c lev:Int):Spc Tryz.prog 126 [schT s,vI c,vI lev] [] (vI (jX s c lev)) []:=by
 refine sIr qW8 fun e _ hst=>?_;unfold Jn;refine sW ?_;refine C1.im (jh s hs c) rF rF ?_;refine sW ?_;refine C1.im (jp lev 0 (finI s c)) rF rF ?_;simp only[tZ,↓un_u,simprocAttr,Bx,Bz];refine⟨fun h=>?_,fun h=>?_⟩
 ·rw[jX,Aj h];exact .oA [] []
 rw[jX,Aq (by rw[h];simp)];rw[Qy] at h;obtain⟨hE,c1,c2,hfin⟩:=wW (s:=s) (c:=c) oM;have hfl:=qx2 (c:=c) hE;have hok:=qV hE;obtain⟨i,rfl⟩:=AJ (show 0≤c by omega);obtain⟨v,rfl⟩:=AJ h.1;simp only[Ax];refine qk mixm (α:=Nat) [7] (fun n=>n≤v∧Zu (fun n=>divB s i n v) 64 0=Zu (fun n=>divB s i n v) (64-n) n) (fun n=>[(7,vI n)]) (fun n=>[(4096,.arr 2 [schT s] false)]) (fun n=>v-n) 0 ⟨oM,rfl⟩ ?_ fun n hn=>?_
 ·exact .oA [(4096,some 4096)] []
 obtain⟨n1,n2⟩:=hn;have hwn:=qh (i:=n) oM;refine sW ?_;refine C1.im (qQ3 s hok i n v oM oM h.2) rF rF ?_;simp only[tZ,↓un_u,simprocAttr,Bx,Bz,hwn];have e:64-n=(63-n)+1:=by omega
 rw[n2,e,Zu];refine⟨fun h3=>?_,fun h3=>?_⟩
 ·have hnv:n≠v:=fun k=>by rw[k,zV4] at h3;cases h3
  refine⟨n+1,⟨oM,?_⟩,oM,?_⟩
  ·rw[Aq (by rw[h3];simp),show 63-n=64-(n+1) by omega]
  ·exact .oA [(4096,some 4096)] []
 ·rw[Aj h3];exact .oA [] []
end Go.Proofs
namespace Go.Proofs
open Go Go.TL
abbrev cnT (c:Cnd):T:=.agg [vI c.op,vI c.col,vI c.code,vI c.lo,vI c.hi,vCs c.kids]
theorem jA9 (c:Cnd):(cndT c).cells.length=6∧imL (cndT c).cells=true:=by rw[zh];exact⟨rfl,rfl⟩
theorem ZT {α:Type} {f:α→T} {l:List α} {i:Nat} (h:l.length≤i):(l.map f).getD i .junk = .junk:=by simp [List.getD,h]
theorem zn4 {α:Type} {l:List α} {i:Nat} (h:i<l.length):l.drop i=l[i]::l.drop (i+1):=List.drop_eq_getElem_cons h
theorem zn5:∀ (c:Cnd) (m:Int),1≤m→m≤1000→Spc Tryz.prog 178 [cnT c,vI m] [] (vI (cntC c m)) []:=by
 refine Cnd.ind' fun c ih m hm hm2=>?_;rw[JL];refine sIr qZ6 fun e _ hst=>?_;unfold JB;refine sW ?_;refine qk mixm (α:=Nat×Int) [5,6] (fun y=>y.1≤c.kids.length∧jW c.kids m 1=jW (c.kids.drop y.1) m y.2∧y.2≤m∧y.1+1≤y.2) (fun y=>[(5,vI y.2),(6,vI y.1)]) (fun y=>[(4096,.arr 6 [cnT c] false)]) (fun y=>c.kids.length-y.1) (0,1) ⟨sMp,rfl,hm,sMp⟩ ?_ fun y hy=>?_
 ·exact .oA [(4096,some 4096)] []
 obtain⟨i,n⟩:=y;obtain⟨y1,y2,y3,y4⟩:=hy;dsimp only at y1 y2 y3 y4;rw[y2];refine sD ?_;refine⟨fun h=>?_,fun h=>?_⟩
 ·have hi:i<c.kids.length:=by omega
  have hwi:=qh (i:=i) oM;have hw:IntKind.i64.wrap (m-n)=m-n:=AK _ oM;have hc:=qB2 c.kids[i] (m-n) oM;have hw2:IntKind.i64.wrap (n+cntC c.kids[i] (m-n))=n+cntC c.kids[i] (m-n):=AK _ oM;simp only[tZ,↓un_u,simprocAttr,Ax,qd hi,zh,hw];refine⟨oM,?_⟩;refine C1.im (ih _ (AX hi) (m-n) oM oM) rF rF ?_;simp only[tZ,↓un_u,simprocAttr,hw2,hwi];refine⟨(i+1,n+cntC c.kids[i] (m-n)),⟨by dsimp only;omega,?_,by dsimp only;omega,by dsimp only;omega⟩,by dsimp only;omega,?_⟩
  ·dsimp only;rw[zn4 hi,jW,Aj oM]
  ·exact .oA [(4096,some 4096)] []
 ·have:jW (c.kids.drop i) m n=n:=by
   by_cases hi:i<c.kids.length
   ·rw[zn4 hi,jW,Aq oM]
   ·rw[List.drop_of_length_le oM,jW]
  rw[this];exact .oA [] []
theorem qx3:∀ (l:List Cnd) (k:Cnd),jx (l++[k])=max (jx l) (depC k)
 | [],k=>by simp [jx]
 | x::r,k=>by rw[BW,jx,qx3 r k,jx];omega
theorem qx4:∀ (l:List Cnd) (i:Nat),jx (l.take i)≤jx l
 | [],i=>by simp
 | x::r,0=>by simp [jx]
 | x::r,i+1=>by rw[List.take_succ_cons,jx,jx];have:=qx4 r i;omega
theorem qp9:∀ {l:List Cnd} {m n:Int},n≤m→jW l m n<m→n+l.length≤jW l m n∧∀ k∈l,∃ m',1≤m'∧m'≤m-n∧cntC k m'<m'
 | [],m,n,_,h=>by rw[jW];simp
 | x::r,m,n,h1,h=>by
   rw[jW] at h ⊢
   split at h
   ·rename_i h2;rw[Aj h2];have h3:=qB2 x (m-n) oM;obtain⟨h4,h5⟩:=qp9 (l:=r) oM h;refine⟨by rw[CJ];omega,fun k hk=>?_⟩;rcases Ck.1 hk with e | hk
    ·subst e;exact⟨m-n,oM,oM,oM⟩
    ·obtain⟨m',a,b,c⟩:=h5 k hk;exact⟨m',a,oM,c⟩
   ·omega
theorem zn6:∀ (c:Cnd) (m:Int),1≤m→m≤1000→cntC c m<m→Spc Tryz.prog 179 [cnT c] [] (vI (depC c)) []:=by
 refine Cnd.ind' fun c ih m hm hm2 hc=>?_;have hd:=jr1 c m hm hc;rw[JL] at hc hd;obtain⟨hk1,hk2⟩:=qp9 oM hc;rw[qw6] at hd ⊢
 refine sIr qZ8 fun e _ hst=>?_;unfold JC;refine sW ?_;refine qk mixm (α:=Nat) [3,4] (fun i=>i≤c.kids.length) (fun i=>[(3,vI (jx (c.kids.take i))),(4,vI i)]) (fun i=>[(4096,.arr 6 [cnT c] false)]) (fun i=>c.kids.length-i) 0 oM ?_ fun i hi=>?_
 ·refine .of [(4096,some 4096)] [] rfl (by first | rfl | (rw[hst];rfl)) ?_ ?_
  all_goals (try simp only[tL,simprocAttr,By,List.map_cons,List.map_nil,BW,Cy,List.take_zero,jx])
  all_goals (try (repeat' (first | exact qZ | (apply zk;intro _;exact⟨rfl,rfl⟩) | (apply qA;intro _;exact⟨rfl,rfl⟩) | with_reducible apply qW | with_reducible refine qQ ⟨rfl,rfl⟩ ?_ | exact qY | with_reducible apply qR | with_reducible refine qX ⟨rfl,rfl,?_⟩ ?_ | with_reducible apply Az | exact qS rfl | exact qS (by assumption) | (refine⟨⟨?_,rfl,?_,rfl,?_⟩,trivial⟩ <;> first | (simp;done) | (apply qA;intro _;exact⟨rfl,rfl⟩)) | trivial | rfl | (rw[qh oM]) | omega)))
 have hdt:=qx4 c.kids i;refine sD ?_;refine⟨fun h=>?_,fun h=>?_⟩
 ·have hi2:i<c.kids.length:=by omega
  have hwi:=qh (i:=i) oM;have hs:jx (c.kids.take (i+1))=max (jx (c.kids.take i)) (depC c.kids[i]):=by rw[qH hi2,qx3]
  obtain⟨m',a1,a2,a3⟩:=hk2 _ (AX hi2);simp only[tZ,↓un_u,simprocAttr,Ax,qd hi2,zh];refine⟨oM,?_⟩;refine C1.im (ih _ (AX hi2) m' a1 oM a3) rF rF ?_;have hmx:maxI (jx (c.kids.take i):Int) (depC c.kids[i])=(jx (c.kids.take (i+1)):Int):=by rw[hs];unfold maxI;omega
  simp only[tZ,↓un_u,simprocAttr,hwi,hmx];refine⟨i+1,oM,oM,?_⟩;exact .oA [(4096,some 4096)] []
 ·have hil:i=c.kids.length:=by omega
  subst hil;rw[Bw] at hdt ⊢
  have hw:=qh (i:=jx c.kids) oM;simp only[tZ,↓un_u,simprocAttr,hw];exact .oA [] []
theorem zc (s:Sch) (col kind:Int):Spc Tryz.prog 237 [schT s,vI col,vI kind] [] (vB (isB s col kind)) []:=by
 by_cases h:0≤col∧col<s.cols.length
 ·obtain⟨i,rfl⟩:=AJ h.1;have hi:i<s.cols.length:=by omega
  have e1:decide ((i:Int)≥0)=true:=Cx oM;have e2:decide ((i:Int)<s.cols.length)=true:=Cx oM;have e3:isB s i kind=(s.cols[i].kind==kind):=by
   rw[isB,Ax,qj,qg hi,Cx h.1,Cx h.2];rfl
  refine sIr qh5 fun e _ hst=>?_;unfold Zt;simp only[tZ,↓un_u,simprocAttr,e1,e2,Ax,qd hi];rw[e3];refine⟨oM,?_⟩;exact .oA [] []
 ·have e1:(decide (col≥0)&&decide (col<(s.cols.length:Int)))=false:=by
   rw[FJ,Ay,Ay];omega
  have e3:isB s col kind=false:=by
   unfold isB;rw[show (decide (0≤col)&&decide (col<(s.cols.length:Int)))=false from e1];rfl
  rcases Nat.lt_or_ge col.toNat s.cols.length with hk | hk
  ·refine sIr qh5 fun e _ hst=>?_;unfold Zt;simp only[tZ,↓un_u,simprocAttr,e1,qd hk];rw[e3];exact .oA [] []
  ·have hj:(s.cols.map colT).getD col.toNat .junk = .junk:=ZT hk;refine sIr qh5 fun e _ hst=>?_;unfold Zt;simp only[tZ,↓un_u,simprocAttr,e1,hj,List.drop_succ_cons,List.drop_nil];rw[e3];exact .oA [] []
end Go.Proofs
