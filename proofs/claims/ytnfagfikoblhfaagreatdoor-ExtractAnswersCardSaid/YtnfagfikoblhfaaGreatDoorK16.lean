/- A part of the proof: trees of Go values, short forms, contracts. -/
import Derived.WalkKit
import Derived.Still
import Derived.MapKept
import GoSem.Builtin.Cap
import Derived.Laws.Externs
import GoSem.Extern.SlicesOverlaps
import Derived.Carry
import Derived.ProofKit
import Derived.OpenShut
import Derived.HandedShaped
import Derived.Lay
import Derived.LaidLaws
import Derived.MakeChecks
import Derived.SevenTiedAt
import Derived.Test.YtnfagfikoblhfaaGreatDoorChecked
import Derived.Test.YtnfagfikoblhfaaGreatDoorK15
set_option linter.unusedSimpArgs false
set_option linter.unusedVariables false
namespace Go.Proofs
open Go Go.TL
theorem SchOk.sm {s:Sch} (h:SchOk s):yX s:=by
 have h1:=h.nl;have h2:=h.nc;refine⟨by omega,by omega,fun l hl=>?_⟩;obtain⟨i,hi,rfl⟩:=CX hl;have h3:=h.ls i hi;rw[qg hi] at h3;have:=(zf h3).2.2;omega
theorem qn2 {l:CodL} : -1≤zk l∧zk l≤60:=by
 unfold zk;split
 ·omega
 ·rename_i h;obtain⟨hp,h1,h2⟩:=zf (AQ h);have:=qQ5 hp (l.codes.length-1) (by omega);omega
theorem zA2 (s:Sch) (h:SchOk s) (i:Nat) (hi:i<s.cols.length) (v:Int):Spc Tryz.prog qc6 [schT s,vI i,vI v] [] (vB (qS s i v)) []:=by
 have hat:qj s i=s.cols[i]:=by rw[qj,qg hi]
 have hk:=qZ (h.cs i hi);have hcd:=fun e=>h.cdl hi e;have hE:qS s i v=if s.cols[i].kind=1 then inB v 1 1048575
  else if s.cols[i].kind=2 then inB v 0 ((qK s i).codes.length-1)&&(lvlC (qK s i) v==zk (qK s i)-1)
  else (s.cols[i].opt&&(v==zz))||inB v s.cols[i].low s.cols[i].high:=by rw[qS,hat]
 have hcl:qK s i=s.lists.getD s.cols[i].list.toNat default:=by rw[qK,hat]
 rw[hat] at hk hcd;rw[hE];rw[hcl] at hcd ⊢
 refine qd zk0 mixm (by simp) fun e _ hst=>qh ?_;unfold Yd;simp only[tZ,↓un_u,simprocAttr,Ax,qe hi];generalize s.cols[i]=c at hk hcd ⊢
 simp only[tZ,↓un_u,simprocAttr,AY,Ak];refine⟨by omega,fun h1=>?_,fun h1=>⟨fun h2=>?_,fun h2=>?_⟩⟩
 ·rw[Aj h1];refine C1.im (ka v 1 1048575) (by rfl) (by rfl) ?_;refine sW ?_;exact .oA [] []
 ·obtain⟨d1,d2⟩:=hcd h2;obtain⟨d3,d4⟩:=hk.2.2.2.1 h2;have hgl:s.lists.getD c.list.toNat default=s.lists[c.list.toNat]:=qg d1;rw[Aq h1,Aj h2];rw[hgl] at d2 ⊢
  obtain⟨_,d5,d6⟩:=zf d2;simp only[tZ,↓un_u,simprocAttr,qe d1];generalize s.lists[c.list.toNat]=l at d2 d5 d6 ⊢
  have hw:IntKind.i64.wrap ((l.codes.length:Int)-1)=(l.codes.length:Int)-1:=AK _ (by omega);have hlv:=qn2 (l:=l);have hw2:IntKind.i64.wrap (zk l-1)=zk l-1:=AK _ (by omega);simp only[tZ,↓un_u,simprocAttr,hw];refine⟨by omega,?_⟩;refine C1.im (ka v 0 _) (by rfl) (by rfl) ?_;refine sW ?_;refine C2.im (fun _=>qf6 l v (by omega)) (fun _=>rfl) (by rfl) ?_;refine sW ?_;refine C2.im (fun _=>YH l (by omega)) (fun _=>rfl) (by rfl) ?_;simp only[tZ,↓un_u,simprocAttr,hw2];refine⟨by kernel_rfl,?_⟩;exact .oA [] []
 ·rw[Aq h1,Aq h2];refine C2.im (fun _=>ka v c.low c.high) (fun _=>rfl) (by rfl) ?_;refine sW ?_;rw[show (c.opt&&v == -1099511627776)=(c.opt&&(v==zz)) from rfl];exact .oA [] []
theorem jO1 {s:Sch} {row:List Int} {i:Nat} (h1:schE s=0) (h2:row.length=s.cols.length) (hi:i<row.length) (h:qS s i row[i]=false):rowE s row=9:=by
 rw[rowE,Aq (by rw[h1];simp),Aq (by omega),Aj];exact List.all_eq_false.2 ⟨i,Dk.2 hi,by rw[qg hi,h];simp⟩
theorem kK (s:Sch) (hs:yX s) (c:Int):Spc Tryz.prog je [schT s,vI c] [] (vI (finI s c)) []:=by
 have hs2:=hs.2.1;refine qd zb7 mixm (by simp) fun e _ hst=>qh ?_;unfold KS;refine sW ?_;refine C1.im (Zb s hs) (by rfl) (by rfl) ?_;simp only[tZ,↓un_u,simprocAttr,tD,Bj,Aw];refine⟨fun h=>?_,fun h=>?_⟩
 ·rw[finI,Aj (by omega)];exact .oA [] []
 have hok:=qO h.1.1;obtain⟨i,rfl⟩:=AJ (show 0≤c by omega);have hi:i<s.cols.length:=by omega
 have hat:qj s i=s.cols[i]:=by rw[qj,qg hi]
 have hk:=qZ (hok.cs i hi);have hcd:=fun e=>hok.cdl hi e;have hcl:qK s i=s.lists.getD s.cols[i].list.toNat default:=by rw[qK,hat]
 rw[hat] at hk hcd;rw[hcl] at hcd;rw[finI,Aq (by omega),Ax,hcl,hat];simp only[tZ,↓un_u,simprocAttr,Ax,qe hi];generalize s.cols[i]=x at hk hcd ⊢
 simp only[tZ,↓un_u,simprocAttr,AY,Ak];refine⟨by omega,fun h2=>?_,fun h2=>?_⟩
 ·obtain⟨d1,d2⟩:=hcd h2;obtain⟨d3,d4⟩:=hk.2.2.2.1 h2;have hgl:s.lists.getD x.list.toNat default=s.lists[x.list.toNat]:=qg d1;rw[Aj h2];rw[hgl] at d2 ⊢
  obtain⟨_,d5,d6⟩:=zf d2;simp only[tZ,↓un_u,simprocAttr,qe d1];generalize s.lists[x.list.toNat]=l at d2 d5 d6 ⊢
  have hlv:=qn2 (l:=l);have hw2:IntKind.i64.wrap (zk l-1)=zk l-1:=AK _ (by omega);refine⟨by omega,?_⟩;refine C1.im (YH l (by omega)) (by rfl) (by rfl) ?_;simp only[tZ,↓un_u,simprocAttr,hw2];exact .oA [] []
 ·rw[Aq h2];exact .oA [] []
theorem zA3 {a b:Int} (hb:0<b):qA a b=if a.tmod b<0 then a.tdiv b-1 else a.tdiv b:=by
 have h1:=Int.mul_tdiv_add_tmod a b;have h2:=Int.tmod_lt_of_pos a hb;have h3:=Int.lt_tmod_of_pos a hb;unfold qA;rw[DW _ (by omega)];split
 ·refine ((Int.ediv_emod_unique (r:=a.tmod b+b) hb).2 ⟨?_,by omega,by omega⟩).1;rw[Int.mul_sub];omega
 ·refine ((Int.ediv_emod_unique (r:=a.tmod b) hb).2 ⟨by omega,by omega,by omega⟩).1
theorem qF6 (a b:Int) (hb:0<b) (ha : -4611686018427387904<a∧a<4611686018427387904):Spc Tryz.prog JZ [vI a,vI b] [] (vI (qA a b)) []:=by
 rw[zA3 hb];have hq:=Int.natAbs_tdiv_le_natAbs a b;have hw:IntKind.i64.wrap (a.tdiv b)=a.tdiv b:=AK _ (by omega);have hw2:IntKind.i64.wrap (a.tdiv b-1)=a.tdiv b-1:=AK _ (by omega);refine qd zk4 mixm (by simp) fun e _ hst=>qh ?_;unfold Yf;simp only[tZ,↓un_u,simprocAttr,hw,hw2,tD];refine⟨by omega,by omega,fun h=>?_,fun h=>?_⟩
 ·rw[Aj h];exact .oA [] []
 ·rw[Aq h];exact .oA [] []
theorem Kr (c:Col) (lev:Int) (h1:1≤lev∧lev≤c.widths.length) (h2:c.widths.length<4611686018427387904):Spc Tryz.prog wH [colT c,vI lev] [] (vI (qD c lev)) []:=by
 have hw:IntKind.i64.wrap ((c.widths.length:Int)-lev)=(c.widths.length:Int)-lev:=AK _ (by omega);have hk:((c.widths.length:Int)-lev).toNat<c.widths.length:=by omega
 refine qd zk2 mixm (by simp) fun e _ hst=>qh ?_;unfold Ye;simp only[tZ,↓un_u,simprocAttr,hw,qe hk];rw[qD,qg hk];refine⟨by omega,?_⟩;exact .oA [] []
end Go.Proofs
namespace Go.Proofs
open Go Go.TL
namespace Cnd
mutual
theorem ind' {p:Cnd→Prop} (h:∀ c,(∀ k∈c.kids,p k)→p c):∀ c,p c
 | .mk _ _ _ _ _ ks=>h _ (inds h ks)
theorem inds {p:Cnd→Prop} (h:∀ c,(∀ k∈c.kids,p k)→p c):∀ ks:List Cnd,∀ k∈ks,p k
 | [],_,hk=>absurd hk (by simp)
 | x::r,k,hk=>by
   rcases Ck.1 hk with e | hk
   ·rw[e];exact ind' h x
   ·exact inds h r k hk
end
end Cnd
mutual
def cntC:Cnd→Int→Int
 | .mk _ _ _ _ _ ks,m=>wA ks m 1
def wA:List Cnd→Int→Int→Int
 | [],_,n=>n
 | k::r,m,n=>if n<m then wA r m (n+cntC k (m-n)) else n
end
theorem YI (c:Cnd) (m:Int):cntC c m=wA c.kids m 1:=by cases c;rw[cntC];rfl
mutual
def depC:Cnd→Nat
 | .mk _ _ _ _ _ ks=>kG ks+1
def kG:List Cnd→Nat
 | []=>0
 | k::r=>max (depC k) (kG r)
end
theorem qM7 (c:Cnd):depC c=kG c.kids+1:=by cases c;rw[depC];rfl
def isB (s:Sch) (col kind:Int):Bool:=decide (0≤col)&&decide (col<s.cols.length)&&((qj s col.toNat).kind==kind)
def arC (op:Int):Nat:=if op=5∨op=6 then 2 else if op=7 then 1 else 0
def ndE (s:Sch) (c:Cnd):Int:=
 if c.op<1∨7<c.op then 4
 else if c.kids.length≠arC c.op∨(c.op≠2∧c.op≠3∧c.op≠4∧c.col≠0)∨(c.op≠2∧c.code≠0)∨(c.op≠3∧(c.lo≠0∨c.hi≠0)) then 11
 else if (c.op=2∧isB s c.col 2=false)∨(c.op=3∧isB s c.col 3=false)∨(c.op=4∧(isB s c.col 3=false∨(qj s c.col.toNat).opt=false)) then 7
 else if c.op=2∧(c.code<0∨c.code≥(qK s c.col.toNat).codes.length) then 6
 else if c.op=3∧(c.lo < -1000000∨c.hi>1000000∨c.lo>c.hi) then 2 else 0
mutual
def nodE (s:Sch):Cnd→Int
 | .mk op col code lo hi ks=>if ndE s (.mk op col code lo hi ks)≠0 then ndE s (.mk op col code lo hi ks) else Zk s ks
def Zk (s:Sch):List Cnd→Int
 | []=>0
 | k::r=>if nodE s k≠0 then nodE s k else Zk s r
end
theorem zA4 (s:Sch) (c:Cnd):nodE s c=if ndE s c≠0 then ndE s c else Zk s c.kids:=by cases c;rw[nodE];rfl
def chkC (s:Sch) (c:Cnd):Int:=if schE s≠0 then schE s else if cntC c 41>40 then 1 else if depC c>10 then 22 else nodE s c
theorem zN9 {s:Sch}:∀ {l:List Cnd},Zk s l=0→∀ k∈l,nodE s k=0
 | [],_,k,hk=>absurd hk (by simp)
 | x::r,h,k,hk=>by
   rw[Zk] at h;split at h
   ·rename_i h1;exact absurd h h1
   ·rename_i h1;rcases Ck.1 hk with e | hk
    ·rw[e];exact AQ h1
    ·exact zN9 h k hk
theorem jD7 {s:Sch} {c:Cnd} (h:nodE s c=0):ndE s c=0∧∀ k∈c.kids,nodE s k=0:=by
 rw[zA4] at h;split at h
 ·rename_i h1;exact absurd h h1
 ·rename_i h1;exact⟨AQ h1,zN9 h⟩
theorem zH {s:Sch} {col kind:Int}:isB s col kind=true↔0≤col∧col<s.cols.length∧(qj s col.toNat).kind=kind:=by
 unfold isB;simp only[Bq,AZ,AY,and_assoc]
structure NdOk (s:Sch) (c:Cnd):Prop where
 op:1≤c.op∧c.op≤7
 nk:c.kids.length=arC c.op
 under:c.op=2→isB s c.col 2=true∧0≤c.code∧c.code<(qK s c.col.toNat).codes.length
 between:c.op=3→isB s c.col 3=true∧-1000000≤c.lo∧c.hi≤1000000∧c.lo≤c.hi
 miss:c.op=4→isB s c.col 3=true∧(qj s c.col.toNat).opt=true
theorem jD8 {s:Sch} {c:Cnd} (h:ndE s c=0):NdOk s c:=by
 unfold ndE at h;split at h
 ·cases h
 rename_i h1;split at h
 ·cases h
 rename_i h2;split at h
 ·cases h
 rename_i h3;split at h
 ·cases h
 rename_i h4;split at h
 ·cases h
 rename_i h5;refine⟨by omega,AQ fun e=>h2 (.inl e),fun e=>⟨?_,by omega,by omega⟩,fun e=>⟨?_,by omega,by omega,by omega⟩,fun e=>⟨?_,?_⟩⟩
 ·cases e2:isB s c.col 2 with
  | true=>rfl
  | false=>exact absurd (.inl ⟨e,e2⟩) h3
 ·cases e2:isB s c.col 3 with
  | true=>rfl
  | false=>exact absurd (.inr (.inl ⟨e,e2⟩)) h3
 ·cases e2:isB s c.col 3 with
  | true=>rfl
  | false=>exact absurd (.inr (.inr ⟨e,.inl e2⟩)) h3
 ·cases e2:(qj s c.col.toNat).opt with
  | true=>rfl
  | false=>exact absurd (.inr (.inr ⟨e,.inr e2⟩)) h3
def isAt (c:Cnd):Bool:=(c.op==2)||(c.op==3)||(c.op==4)
def tf (b:Bool):Int:=if b then 1 else -1
def Zc (s:Sch) (c:Cnd) (v:Int):Int:=
 if c.op=2 then tf (qn1 (qK s c.col.toNat) v c.code)
 else if c.op=3 then (if v=zz then 0 else tf (decide (c.lo≤v)&&decide (v≤c.hi)))
 else if c.op=4 then tf (v==zz) else -1
def zp7 (op:Int) (ks:List Int):Int:=if op=7 then-ks.getD 0 0 else if op=5 then min (ks.getD 0 0) (ks.getD 1 0) else if op=6 then max (ks.getD 0 0) (ks.getD 1 0) else 1
mutual
def evC (s:Sch) (row:List Int):Cnd→Int
 | .mk op col code lo hi ks=>if isAt (.mk op col code lo hi ks)=true then Zc s (.mk op col code lo hi ks) (row.getD col.toNat 0) else zp7 op (evCs s row ks)
def evCs (s:Sch) (row:List Int):List Cnd→List Int
 | []=>[]
 | k::r=>evC s row k::evCs s row r
end
theorem jh4 (s:Sch) (row:List Int):∀ l,evCs s row l=l.map (evC s row)
 | []=>by simp [evCs]
 | k::r=>by simp [evCs,jh4 s row r]
theorem jW5 (s:Sch) (row:List Int) (c:Cnd):evC s row c=if isAt c=true then Zc s c (row.getD c.col.toNat 0) else zp7 c.op (c.kids.map (evC s row)):=by
 cases c;rw[evC,jh4];rfl
def kb2 (s:Sch) (c:Cnd) (row:List Int):Int:=if chkC s c≠0∨rowE s row≠0 then 0 else evC s row c
mutual
def atsC:Cnd→List Cnd
 | .mk op col code lo hi ks=>if isAt (.mk op col code lo hi ks)=true then [.mk op col code lo hi ks] else WH ks
def WH:List Cnd→List Cnd
 | []=>[]
 | k::r=>atsC k++WH r
end
theorem qM8 (c:Cnd):atsC c=if isAt c=true then [c] else WH c.kids:=by cases c;rw[atsC];rfl
theorem qa5:∀ (l:List Cnd) (k:Cnd),WH (l++[k])=WH l++atsC k
 | [],k=>by simp [WH]
 | x::r,k=>by simp [WH,qa5 r k]
theorem jh5 {s:Sch}:∀ c,nodE s c=0→∀ a∈atsC c,NdOk s a∧isAt a=true:=by
 refine Cnd.ind' fun c ih h a ha=>?_;obtain⟨h1,h2⟩:=jD7 h;rw[qM8] at ha;split at ha
 ·rename_i h3;rw[Ey] at ha;rw[ha];exact⟨jD8 h1,h3⟩
 ·have key:∀ l:List Cnd,(∀ k∈l,k∈c.kids)→a∈WH l→NdOk s a∧isAt a=true:=by
   intro l
   induction l with
   | nil=>intro _ h;simp [WH] at h
   | cons k r ihl=>
     intro hk h;rw[WH,Dz] at h;rcases h with h | h
     ·exact ih k (hk k (by simp)) (h2 k (hk k (by simp))) a h
     ·exact ihl (fun x hx=>hk x (CQ _ hx)) h
  exact key c.kids (fun k hk=>hk) ha
def qs7 (n:Nat) (p:Nat→Nat→Bool):Bool:=(List.range n).all fun i=>(List.range i).all fun k=>p i k
theorem zA5 {p:Nat→Bool} {n:Nat}:(List.range (n+1)).all p=((List.range n).all p&&p n):=by rw[List.range_succ,FK];simp
theorem jW6 {p:Nat→Bool} {n i:Nat} (h:i<n) (hp:p i=false):(List.range n).all p=false:=List.all_eq_false.2 ⟨i,Dk.2 h,by rw[hp];simp⟩
theorem qM9 {p:Nat→Nat→Bool} {n:Nat}:qs7 (n+1) p=(qs7 n p&&(List.range n).all (p n)):=zA5
theorem zA6 {p:Nat→Nat→Bool} {n i k:Nat} (h:i<n) (hk:k<i) (hp:p i k=false):qs7 n p=false:=jW6 h (jW6 hk hp)
def decP (s:Sch) (c:Cnd) (lev:Nat) (i k:Nat):Bool:=
 !((qu s c.col lev ((qJ s c.col.toNat).getD i 0)==qu s c.col lev ((qJ s c.col.toNat).getD k 0))&&!(Zc s c ((qJ s c.col.toNat).getD i 0)==Zc s c ((qJ s c.col.toNat).getD k 0)))
def decB (s:Sch) (c:Cnd) (lev:Nat):Bool:=
 if c.op=2 then qs7 (qJ s c.col.toNat).length (decP s c lev)
 else if c.op=4 then decide (0<lev)
 else
  let x:=qj s c.col.toNat
  let first:=decide (x.low<c.lo)&&decide (c.lo≤x.high)
  let behind:=decide (x.low≤c.hi)&&decide (c.hi<x.high)
  if lev=0 then !x.opt&&!first&&!behind
  else (!first||(c.lo.tmod (qD x lev)==0))&&(!behind||((c.hi+1).tmod (qD x lev)==0))
def Wo (p:Nat→Bool):Nat→Nat→Nat
 | 0,n=>n
 | f+1,n=>if p n=true then n else Wo p f (n+1)
theorem qy5 {p:Nat→Bool} {N:Nat} (h:p N=true):∀ (f n:Nat),n≤N→N-n≤f→p (Wo p f n)=true∧Wo p f n≤N∧n≤Wo p f n∧∀ m,n≤m→m<Wo p f n→p m=false
 | 0,n,h1,h2=>by
   have:n=N:=by omega
   subst this;exact⟨h,BZ _,BZ _,fun m h3 h4=>by rw[Wo] at h4;omega⟩
 | f+1,n,h1,h2=>by
   rw[Wo];split
   ·rename_i hp;exact⟨hp,h1,BZ _,fun m h3 h4=>by omega⟩
   ·rename_i hp;have hn:n≠N:=fun e=>hp (e ▸ h);obtain⟨a,b,c,d⟩:=qy5 h f (n+1) (by omega) (by omega);refine⟨a,b,by omega,fun m h3 h4=>?_⟩;by_cases e:m=n
    ·rw[e];simpa using hp
    ·exact d m (by omega) h4
def decN (s:Sch) (c:Cnd):Nat:=Wo (decB s c) 64 0
def qi5 (col lev:Int):List Pk×Bool→Pk→List Pk×Bool:=fun x p=>
 let y:=if p.col>col∧x.2=false then (x.1++[⟨col,lev⟩],true) else x
 if p.col=col then (y.1++[⟨p.col,max p.lev lev⟩],true) else (y.1++[p],y.2)
def Ks (l:List Pk) (col lev:Int):List Pk:=
 let x:=l.foldl (qi5 col lev) ([],decide (lev≤0))
 if x.2 then x.1 else x.1++[⟨col,lev⟩]
def ji (s:Sch) (c:Cnd):List Pk:=if chkC s c≠0 then [] else (atsC c).foldl (fun l a=>Ks l a.col (decN s a)) []
def covB (a b:List Pk):Bool:=a.all fun x=>b.any fun y=>(y.col==x.col)&&decide (y.lev≥x.lev)
mutual
def qa6:Cnd→Cnd→Bool
 | .mk a1 a2 a3 a4 a5 ks,.mk b1 b2 b3 b4 b5 ls=>(a1==b1)&&(a2==b2)&&(a3==b3)&&(a4==b4)&&(a5==b5)&&Qg ks ls
def Qg:List Cnd→List Cnd→Bool
 | [],[]=>true
 | k::r,l::t=>qa6 k l&&Qg r t
 | [],_::_=>false
 | _::_,[]=>false
end
theorem jh6 (a b:Cnd):qa6 a b=((a.op==b.op)&&(a.col==b.col)&&(a.code==b.code)&&(a.lo==b.lo)&&(a.hi==b.hi)&&Qg a.kids b.kids):=by cases a;cases b;rw[qa6];rfl
theorem qQ7:∀ c,∀ m,1≤m→1≤cntC c m∧cntC c m≤m:=by
 refine Cnd.ind' fun c ih m hm=>?_;rw[YI];have key:∀ l:List Cnd,(∀ k∈l,k∈c.kids)→∀ n,1≤n→n≤m→1≤wA l m n∧wA l m n≤m:=by
  intro l
  induction l with
  | nil=>intro _ n h1 h2;rw[wA];exact⟨h1,h2⟩
  | cons k r ihl=>
    intro hk n h1 h2;rw[wA];split
    ·have:=ih k (hk k (by simp)) (m-n) (by omega);exact ihl (fun x hx=>hk x (CQ _ hx)) _ (by omega) (by omega)
    ·exact⟨h1,h2⟩
 exact key c.kids (fun k hk=>hk) 1 (by omega) hm
theorem zA7:∀ (l:List Cnd) (m n:Int),n≤m→n≤wA l m n
 | [],m,n,_=>by rw[wA];omega
 | k::r,m,n,h=>by
   rw[wA];split
   ·have:=qQ7 k (m-n) (by omega);have:=zA7 r m (n+cntC k (m-n)) (by omega);omega
   ·omega
theorem jD9:∀ c,∀ m,1≤m→cntC c m<m→(depC c:Int)≤cntC c m:=by
 refine Cnd.ind' fun c ih m hm h=>?_;rw[YI] at h ⊢
 rw[qM7];have key:∀ l:List Cnd,(∀ k∈l,k∈c.kids)→∀ n,1≤n→n≤m→wA l m n<m→n+kG l≤wA l m n:=by
  intro l
  induction l with
  | nil=>intro _ n h1 h2 _;rw[wA,kG];omega
  | cons k r ihl=>
    intro hk n h1 h2 h3;rw[wA] at h3 ⊢
    rw[kG];split at h3
    ·rename_i h4;rw[Aj h4];have c1:=qQ7 k (m-n) (by omega);have c2:=zA7 r m (n+cntC k (m-n)) (by omega);have c3:=ih k (hk k (by simp)) (m-n) (by omega) (by omega);have c4:=ihl (fun x hx=>hk x (CQ _ hx)) (n+cntC k (m-n)) (by omega) (by omega) h3;omega
    ·omega
 have:=key c.kids (fun k hk=>hk) 1 (by omega) (by omega) h;omega
end Go.Proofs
namespace Go.Proofs
open Go Go.TL
def zI (f:Nat→Int):Nat→Int
 | 0=>0
 | n+1=>if zI f n≠0 then zI f n else f n
theorem zO0 {f:Nat→Int} {i:Nat} (h:zI f i≠0):∀ n,i≤n→zI f n=zI f i:=by
 intro n hn
 induction n with
 | zero=>have:i=0:=by omega
         rw[this]
 | succ n ih=>
   by_cases e:i=n+1
   ·rw[e]
   ·have:=ih (by omega);rw[zI,this,Aj h]
theorem Qh {f:Nat→Int}:∀ {n:Nat},zI f n=0→∀ i,i<n→f i=0
 | 0,_,i,h=>by omega
 | n+1,h,i,hi=>by
   rw[zI] at h;split at h
   ·rename_i h2;exact absurd h h2
   ·rename_i h2;by_cases e:i=n
    ·rw[e];exact h
    ·exact Qh (AQ h2) i (by omega)
theorem Wp {f:Nat→Int}:∀ {n:Nat},(∀ i,i<n→f i=0)→zI f n=0
 | 0,_=>rfl
 | n+1,h=>by
   rw[zI,Wp fun i hi=>h i (by omega),Aq (by simp)];exact h n (by omega)
theorem jO {f:Nat→Int} {n:Nat} (h:zI f n=0):zI f (n+1)=f n:=by rw[zI,Aq (by rw[h];simp)]
theorem Qi {f:Nat→Int} {i n:Nat} (h:zI f i=0) (hi:i<n) (hf:f i≠0):zI f n=f i:=by
 rw[zO0 (i:=i+1) (by rw[jO h];exact hf) n (by omega),jO h]
def Ql (s:Sch) (p:Pk):Int:=if schE s≠0 then schE s else if p.col<1∨p.col≥s.cols.length then 7 else if inB p.lev 0 (finI s p.col)=false then 8 else 0
abbrev pkAt (l:List Pk) (i:Nat):Pk:=l.getD i default
def zu0 (s:Sch) (l:List Pk) (i:Nat):Int:=if Ql s (pkAt l i)≠0 then Ql s (pkAt l i) else if 0<i∧(pkAt l i).col≤(pkAt l (i-1)).col then 10 else 0
def kY (s:Sch) (l:List Pk):Int:=if schE s≠0 then schE s else zI (zu0 s l) l.length
def dimE (s:Sch) (l:List Pk) (i:Nat):Int:=if Ql s (pkAt l i)≠0 then Ql s (pkAt l i) else if isB s (pkAt l i).col 2=false then 7 else if ((l.take i).any fun x=>x.col==(pkAt l i).col)=true then 10 else 0
def Wq (s:Sch) (l:List Pk):Int:=if l.length<1∨l.length>3 then 1 else zI (dimE s l) l.length
def qV2 (s:Sch) (m:Int) (l:List Int) (i:Nat):Int:=if isB s (l.getD i 0) 3=false then 7 else if l.getD i 0=m∨(l.take i).contains (l.getD i 0)=true then 10 else 0
def wU (s:Sch) (m:Int) (l:List Int):Int:=if l.length<1∨l.length>3 then 1 else zI (qV2 s m l) l.length
def wV (s:Sch) (q:Qst):Int:=
 if q.kind=1 then (if Wq s q.dims≠0 then Wq s q.dims else if q.meas≠-1∧isB s q.meas 3=false then 7 else 0)
 else if q.kind=2 then (if isB s q.meas 3=false then 7 else wU s q.meas q.terms)
 else if isB s q.meas 3=false then 7 else if (qj s q.meas.toNat).low<0 then 2 else chkC s q.event
def qstE (s:Sch) (q:Qst):Int:=
 if schE s≠0 then schE s else if jq q.name=false then 3 else if q.kind<1∨3<q.kind then 4
 else if chkC s q.filt≠0 then chkC s q.filt else if wV s q≠0 then wV s q
 else if (q.kind≠1∧0<q.dims.length)∨(q.kind≠2∧0<q.terms.length)∨(q.kind≠3∧qa6 q.event cnd0=false) then 11 else 0
abbrev qAt (l:List Qst) (i:Nat):Qst:=l.getD i default
def qsE (s:Sch) (l:List Qst) (i:Nat):Int:=if qstE s (qAt l i)≠0 then qstE s (qAt l i) else if ((l.take i).any fun x=>eqB x.name (qAt l i).name)=true then 10 else 0
def smpE (x:Smp):Int:=if x.of<1∨x.of>1000∨x.part<1∨x.part>x.of∨x.seed<0∨x.seed>1099511627776 then 2 else 0
def dclE (s:Sch) (d:Dcl):Int:=
 if schE s≠0 then schE s else if jq d.proj=false∨jq d.src=false then 3 else if chkC s d.coh≠0 then chkC s d.coh
 else if smpE d.smp≠0 then 2 else if d.qs.length<1∨d.qs.length>8 then 1 else zI (qsE s d.qs) d.qs.length
theorem qn3 {s:Sch} {d:Dcl} (h:dclE s d=0):schE s=0∧jq d.proj=true∧jq d.src=true∧chkC s d.coh=0∧smpE d.smp=0∧1≤d.qs.length∧d.qs.length≤8∧∀ i,i<d.qs.length→qstE s (qAt d.qs i)=0:=by
 unfold dclE at h;split at h
 ·rename_i h1;exact absurd h h1
 rename_i h1;split at h
 ·cases h
 rename_i h2;split at h
 ·rename_i h3;exact absurd h h3
 rename_i h3;split at h
 ·cases h
 rename_i h4;split at h
 ·cases h
 rename_i h5;refine⟨AQ h1,?_,?_,AQ h3,AQ h4,by omega,by omega,fun i hi=>?_⟩
 ·cases e:jq d.proj with
  | true=>rfl
  | false=>exact absurd (.inl e) h2
 ·cases e:jq d.src with
  | true=>rfl
  | false=>exact absurd (.inr e) h2
 ·have:=Qh h i hi;unfold qsE at this;split at this
  ·rename_i h6;exact absurd this h6
  ·rename_i h6;exact AQ h6
theorem Zd {s:Sch} {l:List Pk} (h:kY s l=0):schE s=0∧(∀ p∈l,Ql s p=0)∧l.Pairwise fun a b=>a.col<b.col:=by
 unfold kY at h;split at h
 ·rename_i h1;exact absurd h h1
 rename_i h1;have key:∀ i,i<l.length→Ql s (pkAt l i)=0∧¬ (0<i∧(pkAt l i).col≤(pkAt l (i-1)).col):=fun i hi=>by
  have:=Qh h i hi;unfold zu0 at this;split at this
  ·rename_i h2;exact absurd this h2
  rename_i h2;split at this
  ·cases this
  ·rename_i h3;exact⟨AQ h2,h3⟩
 refine⟨AQ h1,fun p hp=>?_,?_⟩
 ·obtain⟨i,hi,rfl⟩:=CX hp;have:=(key i hi).1;rw[pkAt,qg hi] at this;exact this
 ·rw[DX];have k2:∀ (d i:Nat) (hj:i+d+1<l.length),(l[i]'(by omega)).col<l[i+d+1].col:=by
   intro d
   induction d with
   | zero=>
     intro i hj;have:=(key (i+1) (by omega)).2;rw[pkAt,pkAt,qg (by omega),qg (by omega)] at this;simp at this;simpa using this
   | succ d ih=>
     intro i hj;have h1:=ih i (by omega);have h2:=(key (i+d+1+1) (by omega)).2;rw[pkAt,pkAt,qg (by omega),qg (by omega)] at h2;simp only[Nat.add_sub_cancel] at h2;have e:i+(d+1)+1=i+d+1+1:=by omega
     simp only[e];omega
  intro i j hi hj hij;have:=k2 (j-i-1) i (by omega);have e:i+(j-i-1)+1=j:=by omega
  simp only[e] at this;exact this
theorem Jb {s:Sch} {p:Pk} (h:Ql s p=0):schE s=0∧1≤p.col∧p.col<s.cols.length∧0≤p.lev∧p.lev≤finI s p.col:=by
 unfold Ql at h;split at h
 ·rename_i h1;exact absurd h h1
 rename_i h1;split at h
 ·cases h
 rename_i h2;split at h
 ·cases h
 rename_i h3;rw[Ez,inB,Bq,AZ,AZ] at h3;exact⟨AQ h1,by omega,by omega,h3.1,h3.2⟩
end Go.Proofs
namespace Go.Proofs
open Go Go.TL
def divM (high w wo:Int):Nat→Int→Bool
 | 0,_=>true
 | k+1,f=>if f>high then true else if f.tmod wo≠0 then false else divM high w wo k (f+w)
def divP (s:Sch) (col:Nat) (L:List Int) (other lev:Nat) (i k:Nat):Bool:=
 !(!(qu s col lev (L.getD i 0)==qu s col lev (L.getD k 0))&&(qu s col other (L.getD i 0)==qu s col other (L.getD k 0)))
def divB (s:Sch) (col other lev:Nat):Bool:=
 if lev=0∨lev≤other then true
 else if (qj s col).kind=2 then qs7 (qJ s col).length (divP s col (qJ s col) other lev)
 else
  let x:=qj s col
  let w:=qD x lev
  let first:=(qA x.low w+1)*w
  if other=0 then !x.opt&&decide (first>x.high)
  else divM x.high w (qD x other) 2 first
def jr (s:Sch) (col lev:Int):Int:=if inB lev 0 (finI s col)=false then -1 else Wo (fun n=>divB s col.toNat n lev.toNat) 64 0
def zW1 (q:Qst) (k:Int):Bool:=(q.meas==k)||q.terms.contains k
def Qm (l m:List Pk):List Pk:=m.foldl (fun l p=>Ks l p.col p.lev) l
def Ze (s:Sch) (q:Qst):List Pk→Nat→List Pk:=fun l k=>if zW1 q (k+1)=true then Ks l (k+1) (jr s (k+1) (finI s (k+1))) else l
def kb3 (s:Sch) (q:Qst) (l:List Pk):List Pk:=(List.range (s.cols.length-1)).foldl (Ze s q) l
def yp (s:Sch) (q:Qst):List Pk:=if qstE s q≠0 then [] else
 kb3 s q (q.dims.foldl (fun l p=>Ks l p.col (jr s p.col p.lev)) (if q.kind=3 then Qm (ji s q.filt) (ji s q.event) else ji s q.filt))
def sufB (s:Sch) (q:Qst) (l:List Pk):Bool:=(qstE s q==0)&&(kY s l==0)&&covB (yp s q) l
def kZ (s:Sch) (d:Dcl):List Pk:=if dclE s d≠0 then [] else d.qs.foldl (fun l q=>Qm l (yp s q)) []
def zf3 (s:Sch) (d:Dcl) (l:List Pk):Int:=if dclE s d≠0 then dclE s d else if kY s l≠0 then kY s l else zI (fun i=>if sufB s (qAt d.qs i) l=true then 0 else 23) d.qs.length
end Go.Proofs
namespace Go.Proofs
open Go Go.TL
theorem yY {s:Sch} {c:Int} (h:0≤finI s c):schE s=0∧1≤c∧c<s.cols.length∧finI s c=(if (qj s c.toNat).kind=2 then zk (qK s c.toNat)-1 else (qj s c.toNat).widths.length):=by
 unfold finI at h ⊢
 split at h
 ·omega
 ·rename_i h1;rw[Aq h1];exact⟨by omega,by omega,by omega,rfl⟩
theorem wB {n lo hi:Int}:inB n lo hi=true↔lo≤n∧n≤hi:=by simp [inB]
theorem qa7 {n lo hi:Int}:inB n lo hi=false↔n<lo∨hi<n:=by
 rw[← Bool.not_eq_true,wB];omega
theorem SchOk.wid {s:Sch} (h:SchOk s) {i:Nat} (hi:i<s.cols.length) (h0:0<i) (hk:(qj s i).kind≠2) {lev:Int} (hl:1≤lev∧lev≤(qj s i).widths.length) :
 1≤qD (qj s i) lev∧qD (qj s i) lev≤1000000∧(qj s i).kind=3∧(qj s i).widths.length≤4∧-1000000≤(qj s i).low∧(qj s i).high≤1000000∧(qj s i).low≤(qj s i).high∧qD (qj s i) (qj s i).widths.length=1:=by
 have hk2:=qZ (h.cs i hi);have hk3:(qj s i).kind=3:=by have:=hk2.2.2.1 h0;omega
 have hm:=hk2.2.2.2.2 hk3;generalize qj s i=c at hl hm hk3 ⊢
 unfold measE at hm;split at hm
 ·cases hm
 rename_i h1;split at hm
 ·cases hm
 rename_i h2;split at hm
 ·cases hm
 rename_i h3;rw[Ez] at h3;have hw:∀ j,j<c.widths.length→wdOk c.widths j=true:=fun j hj=>Bk.1 h3 j (Dk.2 hj);have e1:inB c.low (-1000000) 1000000=true:=by grind
 have e2:inB c.high (-1000000) 1000000=true:=by grind
 rw[wB] at e1 e2;have hn:((c.widths.length:Int)-lev).toNat<c.widths.length:=by omega
 have hp:=zN8 (ws:=c.widths) hw _ hn;have h0:=hw 0 (by omega);rw[wdOk,Aj rfl,AY] at h0;have hmax:c.widths.getD ((c.widths.length:Int)-lev).toNat 0≤1000000:=by
  have:=hw _ hn;unfold wdOk at this;split at this
  ·rename_i e;rw[e,h0];omega
  ·simp only[Bq,AZ] at this;omega
 refine⟨hp,hmax,hk3,by omega,by omega,by omega,by omega,?_⟩;rw[qD,show ((c.widths.length:Int)-c.widths.length).toNat=0 by omega,h0]
theorem yq {v w:Int} (hw:0<w):v-w<qA v w*w∧qA v w*w≤v:=by
 unfold qA;rw[DW _ (by omega),Int.mul_comm];have h1:=Int.mul_ediv_add_emod v w;have h2:=Int.emod_nonneg v (b:=w) (by omega);have h3:=Int.emod_lt_of_pos v hw;omega
theorem jO2 {v w:Int} (hw:0<w) (hv : -4611686018427387904<v∧v<4611686018427387904) : -4611686018427387904<qA v w∧qA v w<4611686018427387904:=by
 have hq:=Int.natAbs_tdiv_le_natAbs v w;have h1:=Int.mul_tdiv_add_tmod v w;rw[zA3 hw];unfold qA at *
 split
 ·rename_i h;have h2:v<0:=AQ fun k=>by
   have:=Int.tmod_nonneg w (show 0≤v by omega);omega
  have h3 : -4611686018427387904<v.tdiv w-1:=by
   by_cases e:w=1
   ·subst e;rw[Int.tmod_one] at h;omega
   ·refine AQ fun k=>?_;have h4:v.tdiv w≤-4611686018427387903:=by omega
    have h5:w*v.tdiv w≤2*v.tdiv w:=Int.mul_le_mul_of_nonpos_right (by omega) (by omega);have h6:=Int.lt_tmod_of_pos v hw;have h7:=Int.tmod_lt_of_pos v hw;omega
  omega
 ·omega
theorem jP (s:Sch) (hs:yX s) (c lev v:Int):Spc Tryz.prog zJ [schT s,vI c,vI lev,vI v] [] (vI (qu s c lev v)) []:=by
 refine qd zb5 mixm (by simp) fun e _ hst=>qh ?_;unfold KR;refine sW ?_;refine C1.im (kK s hs c) (by rfl) (by rfl) ?_;refine sW ?_;refine C1.im (ka lev 0 (finI s c)) (by rfl) (by rfl) ?_;simp only[tZ,↓un_u,simprocAttr,Bx,Bz];refine⟨fun h=>?_,fun h=>?_⟩
 ·rw[qu,Aj h];exact .oA [] []
 rw[wB] at h;obtain⟨hE,c1,c2,hfin⟩:=yY (s:=s) (c:=c) (by omega);have hok:=qO hE;obtain⟨i,rfl⟩:=AJ (show 0≤c by omega);rw[Ax] at hfin;have hi:i<s.cols.length:=by omega
 have hat:qj s i=s.cols[i]:=by rw[qj,qg hi]
 have hk:=qZ (hok.cs i hi);have hcd:=fun e=>hok.cdl hi e;have hwd:=fun e l=>hok.wid hi (by omega) e (lev:=l);have hcl:qK s i=s.lists.getD s.cols[i].list.toNat default:=by rw[qK,hat]
 have hE2:qu s i lev v=if s.cols[i].kind=2 then (if qS s i v=false then -1 else upC (qK s i) v lev)
  else if v≠zz∧inB v (-1000000) 1000000=false then -1
  else if lev=0 then 0 else if v=zz then v else qA v (qD s.cols[i] lev)*qD s.cols[i] lev:=by
  rw[qu,Aq (by rw[Ez,wB];exact h),Ax,hat]
 rw[hE2];rw[hat] at hk hcd hwd hfin;rw[hcl] at hcd ⊢
 simp only[tZ,↓un_u,simprocAttr,Ax,qe hi];have hho:=zA2 s hok i hi v;generalize s.cols[i]=x at hk hcd hwd hfin ⊢
 simp only[tZ,↓un_u,simprocAttr,AY,Ak];refine⟨by omega,fun h2=>?_,fun h2=>?_⟩
 ·rw[Aj h2];obtain⟨d1,d2⟩:=hcd h2;obtain⟨d3,d4⟩:=hk.2.2.2.1 h2;have hgl:s.lists.getD x.list.toNat default=s.lists[x.list.toNat]:=qg d1;rw[hgl] at d2 ⊢
  obtain⟨_,d5,d6⟩:=zf d2;refine C1.im hho (by rfl) (by rfl) ?_;simp only[tZ,↓un_u,simprocAttr,Bx,Bz];refine⟨fun h3=>?_,fun h3=>?_⟩
  ·rw[Aj h3];exact .oA [] []
  rw[Aq (by rw[h3];simp)];simp only[tZ,↓un_u,simprocAttr,qe d1];generalize s.lists[x.list.toNat]=l at d2 d5 d6 ⊢
  refine⟨by omega,?_⟩;refine C1.im (zt9 l v lev (by omega)) (by rfl) (by rfl) ?_;refine sW ?_;exact .oA [] []
 rw[Aq h2];rw[Aq h2] at hfin;refine C2.im (fun _=>ka v (-1000000) 1000000) (fun _=>rfl) (by rfl) ?_;simp only[tZ,↓un_u,simprocAttr,tD,Bj,Aw,Bx,Bz,AY,Ak];rw[show (-1099511627776:Int)=zz from rfl];refine⟨fun h3=>?_,fun h3=>?_⟩
 ·rw[Aj h3];exact .oA [] []
 rw[Aq (by grind)];refine⟨fun h4=>?_,fun h4=>?_⟩
 ·rw[Aj h4];exact .oA [] []
 rw[Aq h4];refine⟨fun h5=>?_,fun h5=>?_⟩
 ·rw[Aj h5];exact .oA [] []
 rw[Aq h5];have hv:inB v (-1000000) 1000000=true:=by grind
 rw[wB] at hv;obtain⟨w1,w2,w3,w4,_⟩:=hwd h2 lev (by omega);have hfm:=yq (v:=v) (w:=qD x lev) (by omega);have hw:IntKind.i64.wrap (qA v (qD x lev)*qD x lev)=qA v (qD x lev)*qD x lev:=AK _ (by omega);refine C1.im (Kr x lev (by omega) (by omega)) (by rfl) (by rfl) ?_;refine sW ?_;refine C1.im (qF6 v (qD x lev) (by omega) (by omega)) (by rfl) (by rfl) ?_;simp only[tZ,↓un_u,simprocAttr,hw];exact .oA [] []
theorem YJ (s:Sch) (hok:SchOk s) (i:Nat) (hi:i<s.cols.length) (h2:(qj s i).kind=2):Spc Tryz.prog yo [schT s,vI i] [] (vIs (qJ s i)) []:=by
 have hat:qj s i=s.cols[i]:=by rw[qj,qg hi]
 obtain⟨d1,d2⟩:=hok.cdl hi h2;obtain⟨d3,d4⟩:=(qZ (hok.cs i hi)).2.2.2.1 h2;have hcl:qK s i=s.lists.getD s.cols[i].list.toNat default:=by rw[qK,hat]
 rw[hcl] at d2;rw[hat] at d1 d3 d4;have hgl:s.lists.getD s.cols[i].list.toNat default=s.lists[s.cols[i].list.toNat]:=qg d1;rw[hgl] at d2;obtain⟨_,d5,d6⟩:=zf d2;rw[qJ,hcl,hgl];have hlv:=qn2 (l:=s.lists[s.cols[i].list.toNat]);have hw2:IntKind.i64.wrap (zk s.lists[s.cols[i].list.toNat]-1)=zk s.lists[s.cols[i].list.toNat]-1:=AK _ (by omega);refine qd zd0 mixm (by simp) fun e _ hst=>qh ?_;unfold KZ;simp only[tZ,↓un_u,simprocAttr,Ax,qe hi,qe d1];refine⟨by omega,by omega,by kernel_rfl,?_⟩;refine C1.im (YH _ (by omega)) (by rfl) (by rfl) ?_;simp only[tZ,↓un_u,simprocAttr,hw2];refine C1.im (jn1 _ _ (by omega)) (by rfl) (by rfl) ?_;refine sW ?_;refine⟨by kernel_rfl,?_⟩;exact .oA [] []
theorem zO1 (s:Sch) (hs:yX s) (p:Pk):Spc Tryz.prog qk7 [schT s,pkT p] [] (vI (Ql s p)) []:=by
 refine qd zy9 mixm (by simp) fun e _ hst=>qh ?_;unfold qe7;refine sW ?_;refine C1.im (Zb s hs) (by rfl) (by rfl) ?_;simp only[tZ,↓un_u,simprocAttr,tD,Bj,Aw];refine⟨fun h=>?_,fun h=>⟨fun h2=>?_,fun h2=>?_⟩⟩
 ·rw[Ql,Aj h];exact .oA [] []
 ·rw[Ql,Aq (by rw[h];simp),Aj (by omega)];exact .oA [] []
 rw[Ql,Aq (by rw[h];simp),Aq (by omega)];refine C1.im (kK s hs p.col) (by rfl) (by rfl) ?_;refine sW ?_;refine C1.im (ka p.lev 0 (finI s p.col)) (by rfl) (by rfl) ?_;simp only[tZ,↓un_u,simprocAttr,Bx,Bz];refine⟨by kernel_rfl,fun h3=>?_,fun h3=>?_⟩
 ·rw[Aj h3];exact .oA [] []
 ·rw[Aq (by rw[h3];simp)];exact .oA [] []
end Go.Proofs
namespace Go.Proofs
open Go Go.TL
theorem qa8 {s:Sch} (h:SchOk s) {i:Nat} (hi:i<s.cols.length) (h2:(qj s i).kind=2):(qJ s i).length≤60:=by
 obtain⟨d1,d2⟩:=h.cdl hi h2;obtain⟨_,d5,d6⟩:=zf d2;unfold qJ atL;rw[Aq (by rw[d2];simp),BY];have:=Fx (fun i=>(dep (qK s i).codes i:Int)==zk (qK s i)-1) (List.range (qK s i).codes.length);refine FZ (Fx _ _) ?_;rw[List.length_range];exact d6
theorem zf4 (s:Sch) (hok:SchOk s) (i o lev:Nat) (hi:i<s.cols.length) (h0:0<i) (hl:(lev:Int)≤finI s i):Spc Tryz.prog KN [schT s,vI i,vI o,vI lev] [] (vB (divB s i o lev)) []:=by
 have hat:qj s i=s.cols[i]:=by rw[qj,qg hi]
 obtain⟨hE,c1,c2,hfin⟩:=yY (s:=s) (c:=i) (by omega);rw[Ax,hat] at hfin;have hwd:=fun e l=>hok.wid hi (by omega) e (lev:=l);have hlv:=YJ s hok i hi;have hll:=qa8 hok hi;rw[hat] at hwd hlv hll;have hE2:divB s i o lev=if lev=0∨lev≤o then true
  else if s.cols[i].kind=2 then qs7 (qJ s i).length (divP s i (qJ s i) o lev)
  else if o=0 then !s.cols[i].opt&&decide ((qA s.cols[i].low (qD s.cols[i] lev)+1)*qD s.cols[i] lev>s.cols[i].high)
  else divM s.cols[i].high (qD s.cols[i] lev) (qD s.cols[i] o) 2 ((qA s.cols[i].low (qD s.cols[i] lev)+1)*qD s.cols[i] lev):=by rw[divB,hat]
 rw[hE2];refine qd qT8 mixm (by simp) fun e _ hst=>qh ?_;unfold JM;simp only[tZ,↓un_u,simprocAttr,Ax,qe hi];generalize s.cols[i]=x at hwd hlv hfin hll ⊢
 simp only[tZ,↓un_u,simprocAttr,tD,AY,Ak];refine⟨by omega,fun h=>?_,fun h=>?_⟩
 ·rw[Aj (by omega)];exact .oA [] []
 rw[Aq (by omega)];refine⟨fun h2=>?_,fun h2=>?_⟩
 ·rw[Aj h2];refine C1.im (hlv h2) (by rfl) (by rfl) ?_;generalize qJ s i=L at hll ⊢
  have hll:=hll h2;refine sW ?_;refine qw mixm (α:=Nat) [11] (fun j=>j≤L.length∧qs7 j (divP s i L o lev)=true) (fun j=>[(11,vI j)]) (fun j=>[(4096,.arr 2 [schT s] false),(8212,.arr 7 [colT x] false)]) (fun j=>L.length-j) 0 ⟨by omega,rfl⟩ ?_ fun j hj=>?_
  ·exact .oA [(4096,some 4096),(8212,some 8212)] []
  obtain⟨j1,j2⟩:=hj;refine sD ?_;refine⟨fun h3=>?_,fun h3=>?_⟩
  ·have hj2:j<L.length:=by omega
   have hwj:=qk (i:=j) (by omega);have hgj:L.getD j 0=L[j]:=qg hj2;refine qw mixm (α:=Nat) [12] (fun k=>k≤j∧(List.range k).all (divP s i L o lev j)=true) (fun k=>[(12,vI k)]) (fun k=>[(4096,.arr 2 [schT s] false),(8212,.arr 7 [colT x] false)]) (fun k=>j-k) 0 ⟨by omega,rfl⟩ ?_ fun k hk=>?_
   ·exact .oA [(4096,some 4096),(8212,some 8212)] []
   obtain⟨k1,k2⟩:=hk;refine sD ?_;refine⟨fun h4=>?_,fun h4=>?_⟩
   ·have hk2:k<L.length:=by omega
    have hwk:=qk (i:=k) (by omega);have hgk:L.getD k 0=L[k]:=qg hk2;have hP:divP s i L o lev j k=!(!(qu s i lev L[j]==qu s i lev L[k])&&(qu s i o L[j]==qu s i o L[k])):=by rw[divP,hgj,hgk]
    have hC1:=jP s hok.sm i o L[j];have hC2:=jP s hok.sm i o L[k];simp only[tZ,↓un_u,simprocAttr,Ax,qe hj2,qe hk2];refine⟨by omega,?_⟩;refine C1.im (jP s hok.sm i lev L[j]) (by rfl) (by rfl) ?_;simp only[tZ,↓un_u,simprocAttr,Ax,qe hj2,qe hk2];refine⟨by omega,?_⟩;refine C1.im (jP s hok.sm i lev L[k]) (by rfl) (by rfl) ?_;simp only[tZ,↓un_u,simprocAttr,Ax,qe hj2,qe hk2];refine⟨fun _=>by omega,?_⟩;refine C2.im (fun _=>hC1) (fun _=>rfl) (by rfl) ?_;simp only[tZ,↓un_u,simprocAttr,Ax,qe hj2,qe hk2];refine⟨fun _=>by omega,?_⟩;refine C2.im (fun _=>hC2) (fun _=>rfl) (by rfl) ?_;simp only[tZ,↓un_u,simprocAttr,hwk,tD,Bj,Aw,AY,Ak];refine⟨by kernel_rfl,fun h5=>?_,fun h5=>?_⟩
    ·rw[zA6 hj2 (show k<j by omega) (by rw[hP];grind)];exact .oA [] []
    ·refine⟨k+1,⟨by omega,?_⟩,by omega,?_⟩
     ·rw[zA5,k2,hP];grind
     ·exact .oA [(4096,some 4096),(8212,some 8212)] []
   ·have hkj:k=j:=by omega
    subst hkj;simp only[tZ,↓un_u,simprocAttr,hwj];refine⟨k+1,⟨by omega,?_⟩,by omega,?_⟩
    ·rw[qM9,j2,k2];rfl
    ·exact .oA [(4096,some 4096),(8212,some 8212)] []
  ·have hjl:j=L.length:=by omega
   subst hjl;rw[j2];exact .oA [] []
 rw[Aq h2] at hfin;rw[Aq h2];obtain⟨w1,w2,w3,w4,w5,w6,w7,_⟩:=hwd h2 lev (by omega);generalize hW:qD x lev=w at w1 w2 ⊢
 have hfm:=yq (v:=x.low) (w:=w) (by omega);have hfl:=jO2 (v:=x.low) (w:=w) (by omega) (by omega);have hw1:IntKind.i64.wrap (qA x.low w+1)=qA x.low w+1:=AK _ (by omega);have hw2:IntKind.i64.wrap ((qA x.low w+1)*w)=(qA x.low w+1)*w:=AK _ (by rw[Int.add_mul];omega);have hF : -3000000≤(qA x.low w+1)*w∧(qA x.low w+1)*w≤3000000:=by rw[Int.add_mul];omega
 refine C1.im (Kr x lev (by omega) (by omega)) (by rfl) (by rfl) ?_;rw[hW];refine sW ?_;refine C1.im (qF6 x.low w (by omega) (by omega)) (by rfl) (by rfl) ?_;simp only[tZ,↓un_u,simprocAttr,hw1,hw2];generalize (qA x.low w+1)*w=F at hF ⊢
 simp only[tZ,↓un_u,simprocAttr,AY,Ak];refine⟨fun h3=>?_,fun h3=>?_⟩
 ·rw[Aj (by omega)];exact .oA [] []
 rw[Aq (by omega)];obtain⟨v1,v2,_⟩:=hwd h2 o (by omega);have hwo:=Kr x o (by omega) (by omega);generalize qD x o=wo at v1 v2 hwo ⊢
 refine qw mixm (α:=Nat×Int) [14,15] (fun y=>y.1≤2∧divM x.high w wo 2 F=divM x.high w wo (2-y.1) y.2∧-3000000-1000000*y.1≤y.2∧y.2≤3000000+1000000*y.1) (fun y=>[(14,vI y.2),(15,vI y.1)]) (fun y=>[(4096,.arr 2 [schT s] false),(8212,.arr 7 [colT x] false)]) (fun y=>2-y.1) (0,F) ⟨by simp,rfl,by simp;omega,by simp;omega⟩ ?_ fun y hy=>?_
 ·exact .oA [(4096,some 4096),(8212,some 8212)] []
 obtain⟨n,f⟩:=y;obtain⟨y1,y2,y3,y4⟩:=hy;dsimp only at y1 y2 y3 y4;have hwn:=qk (i:=n) (by omega);have hwf:IntKind.i64.wrap (f+w)=f+w:=AK _ (by omega);rw[y2];refine sD ?_;refine⟨fun h4=>?_,fun h4=>?_⟩
 ·obtain⟨m,hm⟩:∃ m,2-n=m+1:=⟨1-n,by omega⟩;refine C1.im hwo (by rfl) (by rfl) ?_;simp only[tZ,↓un_u,simprocAttr,Bj,Aw];rw[hm,divM,Aq (by omega)];refine⟨by omega,fun h5=>?_,fun h5=>?_⟩
  ·rw[Aj h5];exact .oA [] []
  ·simp only[tZ,↓un_u,simprocAttr,hwn,hwf];refine⟨(n+1,f+w),⟨by dsimp only;omega,?_,by dsimp only;omega,by dsimp only;omega⟩,by dsimp only;omega,?_⟩
   ·dsimp only;rw[Aq (by rw[h5];simp),show 2-(n+1)=m by omega]
   ·exact .oA [(4096,some 4096),(8212,some 8212)] []
 ·have:divM x.high w wo (2-n) f=true:=by
   by_cases e:n=2
   ·subst e;rfl
   ·obtain⟨m,hm⟩:∃ m,2-n=m+1:=⟨1-n,by omega⟩;rw[hm,divM,Aj (by omega)]
  rw[this];exact .oA [] []
theorem zA8 (s:Sch) (i lev:Nat):divB s i lev lev=true:=by unfold divB;rw[Aj (by omega)]
theorem qn4 {s:Sch} {c:Int} (h:schE s=0):finI s c≤59:=by
 by_cases h0:0≤finI s c
 ·obtain⟨_,h1,h2,h3⟩:=yY h0;rw[h3];split
  ·have:=qn2 (l:=qK s c.toNat);omega
  ·rename_i h4;have hok:=qO h;by_cases e:(qj s c.toNat).widths.length=0
   ·omega
   ·have:=hok.wid (i:=c.toNat) (by omega) (by omega) h4 (lev:=1) (by omega);omega
 ·omega
theorem qF7 (s:Sch) (hs:yX s) (c lev:Int):Spc Tryz.prog Kd [schT s,vI c,vI lev] [] (vI (jr s c lev)) []:=by
 refine qd zl6 mixm (by simp) fun e _ hst=>qh ?_;unfold Yl;refine sW ?_;refine C1.im (kK s hs c) (by rfl) (by rfl) ?_;refine sW ?_;refine C1.im (ka lev 0 (finI s c)) (by rfl) (by rfl) ?_;simp only[tZ,↓un_u,simprocAttr,Bx,Bz];refine⟨fun h=>?_,fun h=>?_⟩
 ·rw[jr,Aj h];exact .oA [] []
 rw[jr,Aq (by rw[h];simp)];rw[wB] at h;obtain⟨hE,c1,c2,hfin⟩:=yY (s:=s) (c:=c) (by omega);have hfl:=qn4 (c:=c) hE;have hok:=qO hE;obtain⟨i,rfl⟩:=AJ (show 0≤c by omega);obtain⟨v,rfl⟩:=AJ h.1;simp only[Ax];refine qw mixm (α:=Nat) [7] (fun n=>n≤v∧Wo (fun n=>divB s i n v) 64 0=Wo (fun n=>divB s i n v) (64-n) n) (fun n=>[(7,vI n)]) (fun n=>[(4096,.arr 2 [schT s] false)]) (fun n=>v-n) 0 ⟨by omega,rfl⟩ ?_ fun n hn=>?_
 ·exact .oA [(4096,some 4096)] []
 obtain⟨n1,n2⟩:=hn;have hwn:=qk (i:=n) (by omega);refine sW ?_;refine C1.im (zf4 s hok i n v (by omega) (by omega) h.2) (by rfl) (by rfl) ?_;simp only[tZ,↓un_u,simprocAttr,Bx,Bz,hwn];have e:64-n=(63-n)+1:=by omega
 rw[n2,e,Wo];refine⟨fun h3=>?_,fun h3=>?_⟩
 ·have hnv:n≠v:=fun k=>by rw[k,zA8] at h3;cases h3
  refine⟨n+1,⟨by omega,?_⟩,by omega,?_⟩
  ·rw[Aq (by rw[h3];simp),show 63-n=64-(n+1) by omega]
  ·exact .oA [(4096,some 4096)] []
 ·rw[Aj h3];exact .oA [] []
end Go.Proofs
namespace Go.Proofs
open Go Go.TL
abbrev cnT (c:Cnd):T:=.agg [vI c.op,vI c.col,vI c.code,vI c.lo,vI c.hi,vCs c.kids]
theorem jO3 (c:Cnd):(cndT c).cells.length=6∧imL (cndT c).cells=true:=by rw[zw];exact⟨rfl,rfl⟩
theorem qp8 {α:Type} {f:α→T} {l:List α} {i:Nat} (h:l.length≤i):(l.map f).getD i .junk = .junk:=by simp [List.getD,h]
theorem zA9 {α:Type} {l:List α} {i:Nat} (h:i<l.length):l.drop i=l[i]::l.drop (i+1):=List.drop_eq_getElem_cons h
theorem zB0:∀ (c:Cnd) (m:Int),1≤m→m≤1000→Spc Tryz.prog Kh [cnT c,vI m] [] (vI (cntC c m)) []:=by
 refine Cnd.ind' fun c ih m hm hm2=>?_;rw[YI];refine qd zo2 mixm (by simp) fun e _ hst=>qh ?_;unfold Yy;refine sW ?_;refine qw mixm (α:=Nat×Int) [5,6] (fun y=>y.1≤c.kids.length∧wA c.kids m 1=wA (c.kids.drop y.1) m y.2∧y.2≤m∧y.1+1≤y.2) (fun y=>[(5,vI y.2),(6,vI y.1)]) (fun y=>[(4096,.arr 6 [cnT c] false)]) (fun y=>c.kids.length-y.1) (0,1) ⟨by simp,rfl,hm,by simp⟩ ?_ fun y hy=>?_
 ·exact .oA [(4096,some 4096)] []
 obtain⟨i,n⟩:=y;obtain⟨y1,y2,y3,y4⟩:=hy;dsimp only at y1 y2 y3 y4;rw[y2];refine sD ?_;refine⟨fun h=>?_,fun h=>?_⟩
 ·have hi:i<c.kids.length:=by omega
  have hwi:=qk (i:=i) (by omega);have hw:IntKind.i64.wrap (m-n)=m-n:=AK _ (by omega);have hc:=qQ7 c.kids[i] (m-n) (by omega);have hw2:IntKind.i64.wrap (n+cntC c.kids[i] (m-n))=n+cntC c.kids[i] (m-n):=AK _ (by omega);simp only[tZ,↓un_u,simprocAttr,Ax,qe hi,zw,hw];refine⟨by omega,?_⟩;refine C1.im (ih _ (AX hi) (m-n) (by omega) (by omega)) (by rfl) (by rfl) ?_;simp only[tZ,↓un_u,simprocAttr,hw2,hwi];refine⟨(i+1,n+cntC c.kids[i] (m-n)),⟨by dsimp only;omega,?_,by dsimp only;omega,by dsimp only;omega⟩,by dsimp only;omega,?_⟩
  ·dsimp only;rw[zA9 hi,wA,Aj (by omega)]
  ·exact .oA [(4096,some 4096)] []
 ·have:wA (c.kids.drop i) m n=n:=by
   by_cases hi:i<c.kids.length
   ·rw[zA9 hi,wA,Aq (by omega)]
   ·rw[List.drop_of_length_le (by omega),wA]
  rw[this];exact .oA [] []
theorem qN0:∀ (l:List Cnd) (k:Cnd),kG (l++[k])=max (kG l) (depC k)
 | [],k=>by simp [kG]
 | x::r,k=>by rw[BW,kG,qN0 r k,kG];omega
theorem qN1:∀ (l:List Cnd) (i:Nat),kG (l.take i)≤kG l
 | [],i=>by simp
 | x::r,0=>by simp [kG]
 | x::r,i+1=>by rw[List.take_succ_cons,kG,kG];have:=qN1 r i;omega
theorem qF8:∀ {l:List Cnd} {m n:Int},n≤m→wA l m n<m→n+l.length≤wA l m n∧∀ k∈l,∃ m',1≤m'∧m'≤m-n∧cntC k m'<m'
 | [],m,n,_,h=>by rw[wA];simp
 | x::r,m,n,h1,h=>by
   rw[wA] at h ⊢
   split at h
   ·rename_i h2;rw[Aj h2];have h3:=qQ7 x (m-n) (by omega);obtain⟨h4,h5⟩:=qF8 (l:=r) (by omega) h;refine⟨by rw[CJ];omega,fun k hk=>?_⟩;rcases Ck.1 hk with e | hk
    ·subst e;exact⟨m-n,by omega,by omega,by omega⟩
    ·obtain⟨m',a,b,c⟩:=h5 k hk;exact⟨m',a,by omega,c⟩
   ·omega
theorem zB1:∀ (c:Cnd) (m:Int),1≤m→m≤1000→cntC c m<m→Spc Tryz.prog Ki [cnT c] [] (vI (depC c)) []:=by
 refine Cnd.ind' fun c ih m hm hm2 hc=>?_;have hd:=jD9 c m hm hc;rw[YI] at hc hd;obtain⟨hk1,hk2⟩:=qF8 (by omega) hc;rw[qM7] at hd ⊢
 refine qd zo4 mixm (by simp) fun e _ hst=>qh ?_;unfold Yz;refine sW ?_;refine qw mixm (α:=Nat) [3,4] (fun i=>i≤c.kids.length) (fun i=>[(3,vI (kG (c.kids.take i))),(4,vI i)]) (fun i=>[(4096,.arr 6 [cnT c] false)]) (fun i=>c.kids.length-i) 0 (by omega) ?_ fun i hi=>?_
 ·refine .of [(4096,some 4096)] [] rfl (by first | rfl | (rw[hst];rfl)) ?_ ?_
  all_goals (try simp only[tL,simprocAttr,By,List.map_cons,List.map_nil,BW,Cy,List.take_zero,kG])
  all_goals (try (repeat' (first | exact ze | (apply zB;intro _;exact⟨rfl,rfl⟩) | (apply qH;intro _;exact⟨rfl,rfl⟩) | with_reducible apply qX | with_reducible refine qT ⟨rfl,rfl⟩ ?_ | exact qY | with_reducible apply qU | with_reducible refine qW ⟨rfl,rfl,?_⟩ ?_ | with_reducible apply Az | exact qV rfl | exact qV (by assumption) | (refine⟨⟨?_,rfl,?_,rfl,?_⟩,trivial⟩ <;> first | (simp;done) | (apply qH;intro _;exact⟨rfl,rfl⟩)) | trivial | rfl | (rw[qk (by omega)]) | omega)))
 have hdt:=qN1 c.kids i;refine sD ?_;refine⟨fun h=>?_,fun h=>?_⟩
 ·have hi2:i<c.kids.length:=by omega
  have hwi:=qk (i:=i) (by omega);have hs:kG (c.kids.take (i+1))=max (kG (c.kids.take i)) (depC c.kids[i]):=by rw[qM hi2,qN0]
  obtain⟨m',a1,a2,a3⟩:=hk2 _ (AX hi2);simp only[tZ,↓un_u,simprocAttr,Ax,qe hi2,zw];refine⟨by omega,?_⟩;refine C1.im (ih _ (AX hi2) m' a1 (by omega) a3) (by rfl) (by rfl) ?_;have hmx:maxI (kG (c.kids.take i):Int) (depC c.kids[i])=(kG (c.kids.take (i+1)):Int):=by rw[hs];unfold maxI;omega
  simp only[tZ,↓un_u,simprocAttr,hwi,hmx];refine⟨i+1,by omega,by omega,?_⟩;exact .oA [(4096,some 4096)] []
 ·have hil:i=c.kids.length:=by omega
  subst hil;rw[Bw] at hdt ⊢
  have hw:=qk (i:=kG c.kids) (by omega);simp only[tZ,↓un_u,simprocAttr,hw];exact .oA [] []
theorem zh (s:Sch) (col kind:Int):Spc Tryz.prog YW [schT s,vI col,vI kind] [] (vB (isB s col kind)) []:=by
 by_cases h:0≤col∧col<s.cols.length
 ·obtain⟨i,rfl⟩:=AJ h.1;have hi:i<s.cols.length:=by omega
  have e1:decide ((i:Int)≥0)=true:=Cx (by omega);have e2:decide ((i:Int)<s.cols.length)=true:=Cx (by omega);have e3:isB s i kind=(s.cols[i].kind==kind):=by
   rw[isB,Ax,qj,qg hi,Cx h.1,Cx h.2];rfl
  refine qd qx9 mixm (by simp) fun e _ hst=>qh ?_;unfold Wn;simp only[tZ,↓un_u,simprocAttr,e1,e2,Ax,qe hi];rw[e3];refine⟨by omega,?_⟩;exact .oA [] []
 ·have e1:(decide (col≥0)&&decide (col<(s.cols.length:Int)))=false:=by
   rw[FJ,Ay,Ay];omega
  have e3:isB s col kind=false:=by
   unfold isB;rw[show (decide (0≤col)&&decide (col<(s.cols.length:Int)))=false from e1];rfl
  rcases Nat.lt_or_ge col.toNat s.cols.length with hk | hk
  ·refine qd qx9 mixm (by simp) fun e _ hst=>qh ?_;unfold Wn;simp only[tZ,↓un_u,simprocAttr,e1,qe hk];rw[e3];exact .oA [] []
  ·have hj:(s.cols.map colT).getD col.toNat .junk = .junk:=qp8 hk;refine qd qx9 mixm (by simp) fun e _ hst=>qh ?_;unfold Wn;simp only[tZ,↓un_u,simprocAttr,e1,hj,List.drop_succ_cons,List.drop_nil];rw[e3];exact .oA [] []
end Go.Proofs
