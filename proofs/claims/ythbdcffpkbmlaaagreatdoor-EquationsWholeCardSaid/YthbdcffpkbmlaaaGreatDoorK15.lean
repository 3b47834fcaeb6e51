/- A part of the proof: trees of Go values, short forms, contracts. -/
import Derived.Test.YthbdcffpkbmlaaaGreatDoorK14
namespace Go.Proofs
open Go Go.TL
theorem mid {K G:Prop} (main:K→G) (rest:K):G:=main rest
abbrev Sp (f:FuncId) (ts:List T) (s:Sto) (r:T) (s':Sto):Prop:=Spc (Tryz.prog) f ts s r s'
abbrev aR (i k:Nat) (l:List T):Nat×Ob:=(i,.arr k l false)
abbrev U1 (a:Nat):Ren:=[(a,some a)]
abbrev U2 (a b:Nat):Ren:=[(a,some a),(b,some b)]
abbrev U3 (a b c:Nat):Ren:=[(a,some a),(b,some b),(c,some c)]
abbrev U4 (a b c d:Nat):Ren:=[(a,some a),(b,some b),(c,some c),(d,some d)]
abbrev U5 (a b c d e:Nat):Ren:=[(a,some a),(b,some b),(c,some c),(d,some d),(e,some e)]
abbrev U6 (a b c d e f:Nat):Ren:=[(a,some a),(b,some b),(c,some c),(d,some d),(e,some e),(f,some f)]
abbrev U7 (a b c d e f g:Nat):Ren:=[(a,some a),(b,some b),(c,some c),(d,some d),(e,some e),(f,some f),(g,some g)]
abbrev uI (a:Nat):Nat×Option Nat:=(a,some a)
theorem mixm:Tryz.prog.follows .mixedOrders=true:=by kernel_rfl
theorem sIr {f:FuncId} {n:Nat} {kss:List (Nat×List Nat)} {rc:RC} {rs:List RR} (h:FnIR Tryz.prog f n kss rc rs) {ts:List T} {st st':Sto} {r:T} (hw:∀ e:Env,e.n=n→e.st0=st→W Tryz.prog e kss (endR st rs r st') rc [] (ZY 0 ts) st) (hn:ts.length≤n:=by simp) (hnm:noMp st=true:=by rfl):Sp f ts st r st':=Wh h mixm hn (fun e he hst=>wW (hw e he hst)) hnm
theorem zR5 (l:List UInt8):Sp 5 [vL l] [] (.ptr 0 1 0 0) [(0,oC (l.take 400) 0)]:=by
 refine sIr zx3 fun e _ hst=>?_;unfold WX;obtain⟨m,hm,hm2⟩:∃ m:Nat,minI (l.length:Int) 400=m∧m≤l.length∧l.take m=l.take 400:=by
  unfold minI;split
  ·exact⟨400,rfl,oM,rfl⟩
  ·exact⟨l.length,rfl,oM,by rw[Bw,List.take_of_length_le oM]⟩
 simp only[tZ,↓uU,simprocAttr,hm,Kt,zl1,hm2];refine⟨oM,.of [(0,some 8216)] [] rfl rfl ?_ ?_⟩
 ·simp only[tL,simprocAttr];exact zf ⟨rfl,rfl,rfl,rfl,trivial⟩ zq
 ·simp only[tL,simprocAttr]
theorem zQ (l:List UInt8) (at_:Nat) (n:Int) (hl:l.length≤400) (ha:at_≤l.length) (hn:n≤1000000):Sp 39 [.ptr 0 1 0 0,vI n] [(0,oC l at_)] (vI (nx l at_ n).1) [(0,oC l (nx l at_ n).2)]:=by
 refine sIr qb9 fun e _ hst=>?_;unfold kO;simp only[tZ,↓uU,simprocAttr,DZ,FX,AZ,Ay];refine⟨kR,fun h1=>?_,fun h1=>?_⟩
 ·have e:nx l at_ n=(0,at_):=by unfold nx;rw[Aj oM]
  rw[e];refine .of (U1 0) [] rfl rfl ?_ ?_
  ·simp only[tL,simprocAttr];exact zf ⟨rfl,rfl,rfl,rfl,trivial⟩ zq
  ·simp only[tL,simprocAttr]
 ·have h2:at_<l.length:=by omega
  have hw1:IntKind.i64.wrap ((at_:Int)+1)=((at_+1:Nat):Int):=by rw[AK _ oM];omega
  have hw2:IntKind.i64.wrap (((at_+1:Nat):Int)-1)=(at_:Int):=by rw[AK _ oM];omega
  simp only[tZ,↓uU,simprocAttr,hw1,hw2,Ax,qO9 h2];refine⟨oM,kR,kR,fun h3=>?_,fun h3=>?_⟩
  ·simp only[Bq,AZ] at h3;have h4:at_+1<l.length:=by omega
   have hb:=zw7 (l.getD at_ 0);have hb2:=zw7 (l.getD (at_+1) 0);have e:nx l at_ n=(((l.getD at_ 0).toNat*256+(l.getD (at_+1) 0).toNat) % n,at_+2):=by
    unfold nx;rw[Aq oM,Aj oM]
   have hw3:IntKind.i64.wrap (((at_+1:Nat):Int)+1)=((at_+2:Nat):Int):=by rw[AK _ oM];omega
   have hv1:IntKind.i64.wrap ((l.getD at_ 0).toNat:Int)=(l.getD at_ 0).toNat:=AK _ oM;have hv2:IntKind.i64.wrap ((l.getD (at_+1) 0).toNat:Int)=(l.getD (at_+1) 0).toNat:=AK _ oM;have hv3:IntKind.i64.wrap (((l.getD at_ 0).toNat:Int)*256)=(l.getD at_ 0).toNat*256:=AK _ oM;have hv4:IntKind.i64.wrap (((l.getD at_ 0).toNat:Int)*256+(l.getD (at_+1) 0).toNat)=(l.getD at_ 0).toNat*256+(l.getD (at_+1) 0).toNat:=AK _ oM;simp only[tZ,↓uU,simprocAttr,hw3,Ax,qO9 h4,hv1,hv2,hv3,hv4];rw[e,Int.tmod_eq_emod_of_nonneg oM];refine⟨oM,kR,oM,.of (U1 0) [] rfl rfl ?_ ?_⟩
   ·simp only[tL,simprocAttr];exact zf ⟨rfl,rfl,rfl,rfl,trivial⟩ zq
   ·simp only[tL,simprocAttr]
  ·have e:nx l at_ n=((l.getD at_ 0).toNat % n,at_+1):=by
    unfold nx;rw[Aq oM,Aq];simp only[FJ,Ay] at h3;omega
   have hb:=zw7 (l.getD at_ 0);rw[e,AK _ oM,Int.tmod_eq_emod_of_nonneg oM];refine⟨oM,.of (U1 0) [] rfl rfl ?_ ?_⟩
   ·simp only[tL,simprocAttr];exact zf ⟨rfl,rfl,rfl,rfl,trivial⟩ zq
   ·simp only[tL,simprocAttr]
structure Cod where
 name:ByteArray
 par:Int
structure CodL where
 name:ByteArray
 codes:List Cod
structure Col where
 name:ByteArray
 kind:Int
 list:Int
 low:Int
 high:Int
 widths:List Int
 opt:Bool
structure Sch where
 lists:List CodL
 cols:List Col
structure Pk where
 col:Int
 lev:Int
inductive Cnd where
 | mk (op col code lo hi:Int) (kids:List Cnd)
structure Qst where
 name:ByteArray
 kind:Int
 filt:Cnd
 dims:List Pk
 meas:Int
 terms:List Int
 event:Cnd
structure Smp where
 part:Int
 of:Int
 seed:Int
structure Dcl where
 proj:ByteArray
 src:ByteArray
 coh:Cnd
 smp:Smp
 qs:List Qst
structure Src where
 sch:Sch
 rows:List (List Int)
 gone:List Int
 ver:Int
structure Edt where
 kind:Int
 row:List Int
 id:Int
structure Ext where
 proj:ByteArray
 ver:Int
 picks:List Pk
 rows:List (List Int)
structure Chg where
 ver:Int
 gone:List Int
 rows:List (List Int)
namespace Cnd
def op:Cnd→Int | .mk a _ _ _ _ _=>a
def col:Cnd→Int | .mk _ a _ _ _ _=>a
def code:Cnd→Int | .mk _ _ a _ _ _=>a
def lo:Cnd→Int | .mk _ _ _ a _ _=>a
def hi:Cnd→Int | .mk _ _ _ _ a _=>a
def kids:Cnd→List Cnd | .mk _ _ _ _ _ a=>a
end Cnd
abbrev cnd0:Cnd:=.mk 0 0 0 0 0 []
instance:Inhabited Cod:=⟨⟨⟨#[]⟩,0⟩⟩
instance:Inhabited CodL:=⟨⟨⟨#[]⟩,[]⟩⟩
instance:Inhabited Col:=⟨⟨⟨#[]⟩,0,0,0,0,[],false⟩⟩
instance:Inhabited Sch:=⟨⟨[],[]⟩⟩
instance:Inhabited Pk:=⟨⟨0,0⟩⟩
instance:Inhabited Cnd:=⟨cnd0⟩
instance:Inhabited Qst:=⟨⟨⟨#[]⟩,0,cnd0,[],0,[],cnd0⟩⟩
instance:Inhabited Edt:=⟨⟨0,[],0⟩⟩
abbrev codT (c:Cod):T:=.agg [vS c.name,vI c.par]
abbrev cdlT (l:CodL):T:=.agg [vS l.name,.sl 2 (l.codes.map codT)]
abbrev colT (c:Col):T:=.agg [vS c.name,vI c.kind,vI c.list,vI c.low,vI c.high,vIs c.widths,vB c.opt]
abbrev schT (s:Sch):T:=.agg [.sl 2 (s.lists.map cdlT),.sl 7 (s.cols.map colT)]
abbrev pkT (p:Pk):T:=.agg [vI p.col,vI p.lev]
abbrev vPs (l:List Pk):T:=.sl 2 (l.map pkT)
mutual
def cndT:Cnd→T
 | .mk op col code lo hi kids=>.agg [vI op,vI col,vI code,vI lo,vI hi,.sl 6 (ji9 kids)]
def ji9:List Cnd→List T
 | []=>[]
 | c::r=>cndT c::ji9 r
end
theorem zn5:∀ l:List Cnd,ji9 l=l.map cndT
 | []=>by simp [ji9]
 | c::r=>by simp [ji9,zn5 r]
theorem Qn (c:Cnd):cndT c = .agg [vI c.op,vI c.col,vI c.code,vI c.lo,vI c.hi,.sl 6 (c.kids.map cndT)]:=by
 cases c;simp only[cndT,zn5,Cnd.op,Cnd.col,Cnd.code,Cnd.lo,Cnd.hi,Cnd.kids]
abbrev vCs (l:List Cnd):T:=.sl 6 (l.map cndT)
abbrev qstT (q:Qst):T:=.agg [vS q.name,vI q.kind,vI q.filt.op,vI q.filt.col,vI q.filt.code,vI q.filt.lo,vI q.filt.hi,vCs q.filt.kids,vPs q.dims,vI q.meas,vIs q.terms,vI q.event.op,vI q.event.col,vI q.event.code,vI q.event.lo,vI q.event.hi,vCs q.event.kids]
abbrev smpT (x:Smp):T:=.agg [vI x.part,vI x.of,vI x.seed]
abbrev dclT (d:Dcl):T:=.agg [vS d.proj,vS d.src,vI d.coh.op,vI d.coh.col,vI d.coh.code,vI d.coh.lo,vI d.coh.hi,vCs d.coh.kids,vI d.smp.part,vI d.smp.of,vI d.smp.seed,.sl 17 (d.qs.map qstT)]
abbrev vRw (l:List (List Int)):T:=.sl 1 (l.map vIs)
abbrev srcT (s:Src):T:=.agg [.sl 2 (s.sch.lists.map cdlT),.sl 7 (s.sch.cols.map colT),vRw s.rows,vIs s.gone,vI s.ver]
abbrev extT (x:Ext):T:=.agg [vS x.proj,vI x.ver,vPs x.picks,vRw x.rows]
theorem cQ:type_of% (Az @Cnd.op.eq_1 (Az @Cnd.col.eq_1 (Az @Cnd.code.eq_1 (Az @Cnd.lo.eq_1 (Az @Cnd.hi.eq_1 @Cnd.kids.eq_1))))):=Az @Cnd.op.eq_1 (Az @Cnd.col.eq_1 (Az @Cnd.code.eq_1 (Az @Cnd.lo.eq_1 (Az @Cnd.hi.eq_1 @Cnd.kids.eq_1))))
def qX (l:List Int):Int:=l.foldl (·*·) 1
def szOk (k:Int):Bool:=decide (1≤k)&&decide (k≤8)
def chkS (l:List Int):Int:=if l.length<1∨l.length>4 then 55 else if l.all szOk=false then 55 else if qX l>48 then 55 else 0
def cntS (l:List Int):Int:=if chkS l=0 then qX l else 0
theorem qP7 (l:List Int):∀ a:Int,l.foldl (·*·) a=a*qX l:=by
 induction l with
 | nil=>intro a;simp [qX]
 | cons k r ih=>
   intro a;have e:qX (k::r)=k*qX r:=by
    show r.foldl (·*·) (1*k)=_;rw[ih,Int.one_mul]
   rw[Dw,ih,e,Int.mul_assoc]
theorem jX (k:Int) (r:List Int):qX (k::r)=k*qX r:=by
 show r.foldl (·*·) (1*k)=_;rw[qP7,Int.one_mul]
theorem zz0 (a b:List Int):qX (a++b)=qX a*qX b:=by
 unfold qX;rw[Gx,qP7]
 rfl
theorem jj0 {l:List Int} {i:Nat} (h:i<l.length):qX (l.take (i+1))=qX (l.take i)*l[i]:=by
 rw[qy h,zz0]
 congr 1
 exact Int.one_mul _
theorem KM:∀ {l:List Int},l.all szOk=true→1≤qX l∧qX l≤8 ^ l.length
 | [],_=>by simp [qX]
 | k::r,h=>by
   simp only[List.all_cons,Bq] at h;obtain⟨h1,h2⟩:=KM h.2;have hk:1≤k∧k≤8:=by simpa [szOk] using h.1
   rw[jX,CJ,Int.pow_succ];refine⟨Int.mul_pos oM oM,?_⟩
   calc k*qX r≤8*qX r:=Int.mul_le_mul_of_nonneg_right hk.2 oM
    _≤8*8 ^ r.length:=Int.mul_le_mul_of_nonneg_left h2 oM
    _=8 ^ r.length*8:=Int.mul_comm _ _
theorem qi5 {l:List Int} (h:l.all szOk=true) (hl:l.length≤4):1≤qX l∧qX l≤4096:=by
 obtain⟨h1,h2⟩:=KM h;refine⟨h1,Int.le_trans h2 ?_⟩;have:l.length=0∨l.length=1∨l.length=2∨l.length=3∨l.length=4:=by omega
 rcases this with e | e | e | e | e <;> rw[e] <;> decide
structure SpOk (l:List Int):Prop where
 len:1≤l.length∧l.length≤4
 all:l.all szOk=true
 prod:1≤qX l∧qX l≤48
theorem kY {l:List Int}:chkS l=0↔SpOk l:=by
 constructor
 ·intro h;unfold chkS at h;split at h
  ·cases h
  ·split at h
   ·cases h
   ·split at h
    ·cases h
    ·rename_i h1 h2 h3;have ha:l.all szOk=true:=by simpa using h2
     exact⟨oM,ha,(KM ha).1,oM⟩
 ·rintro ⟨h1,h2,h3⟩;unfold chkS;rw[Aq oM,Aq (by rw[h2];simp),Aq oM]
theorem SpOk.get {l:List Int} (h:SpOk l) {i:Nat} (hi:i<l.length):1≤l[i]∧l[i]≤8:=by
 have:=Bk.1 h.all l[i] (AX hi);simpa [szOk] using this
def zz:List Int→Int→List Int×Int
 | [],n=>([],n)
 | k::r,n=>((zz r n).2 % k::(zz r n).1,(zz r n).2 / k)
def zd (l:List Int) (n:Int):List Int:=(zz l n).1
theorem ZM:∀ (l:List Int) (n:Int),(zd l n).length=l.length
 | [],_=>rfl
 | k::r,n=>by
   show (_::zd r n).length=_;rw[CJ,ZM r n,CJ]
def numL (sz at_:List Int):Int:=(sz.zip at_).foldl (fun n p=>n*p.1+p.2) 0
theorem jw7 {sz at_:List Int} {i:Nat} (h:i<sz.length) (h2:i<at_.length):numL (sz.take (i+1)) (at_.take (i+1))=numL (sz.take i) (at_.take i)*sz[i]+at_[i]:=by
 unfold numL;rw[qy h,qy h2,List.zip_append (by simp;omega),Gx]
 rfl
def inR:List Int→List Int→Prop
 | [],[]=>True
 | k::r,a::s=>(0≤a∧a<k)∧inR r s
 | _,_=>False
theorem Yy:∀ {sz at_:List Int},inR sz at_→sz.length=at_.length
 | [],[],_=>rfl
 | [],_::_,h=>h.elim
 | _::_,[],h=>h.elim
 | k::r,a::s,h=>by simp [Yy h.2]
theorem jj1 (l:List (Int×Int)):∀ a:Int,l.foldl (fun n p=>n*p.1+p.2) a=a*qX (l.map (·.1))+l.foldl (fun n p=>n*p.1+p.2) 0:=by
 induction l with
 | nil=>intro a;simp [qX]
 | cons p r ih=>
   intro a;rw[Dw,ih,Dw,ih (0*p.1+p.2),List.map_cons,jX];rw[Int.zero_mul,Int.zero_add,Int.add_mul,← Int.mul_assoc];omega
theorem qZ1 {k a:Int} {r s:List Int} (h:r.length=s.length):numL (k::r) (a::s)=a*qX r+numL r s:=by
 unfold numL;rw[List.zip_cons_cons,Dw,jj1]
 congr 2
 ·simp
 ·rw[List.map_fst_zip oM]
theorem KN:∀ {sz at_:List Int},sz.all szOk=true→inR sz at_→0≤numL sz at_∧numL sz at_<qX sz
 | [],[],_,_=>by simp [numL,qX]
 | [],_::_,_,h=>h.elim
 | _::_,[],_,h=>h.elim
 | k::r,a::s,ha,h=>by
   simp only[List.all_cons,Bq] at ha;obtain⟨h1,h2⟩:=KN ha.2 h.2;obtain⟨p1,_⟩:=KM ha.2;rw[qZ1 (Yy h.2),jX];obtain⟨⟨q1,q2⟩,_⟩:=h;have h5:0≤a*qX r:=Int.mul_nonneg q1 oM;have h6:a*qX r≤(k-1)*qX r:=Int.mul_le_mul_of_nonneg_right oM oM;rw[Int.sub_mul,Int.one_mul] at h6;omega
theorem jg:∀ {sz:List Int} {n:Int},sz.all szOk=true→0≤n→inR sz (zd sz n)∧(zz sz n).2=n / qX sz
 | [],n,_,hn=>⟨trivial,by simp [zz,qX]⟩
 | k::r,n,ha,hn=>by
   simp only[List.all_cons,Bq] at ha;have hk:1≤k∧k≤8:=by simpa [szOk] using ha.1
   obtain⟨h1,h2⟩:=jg (n:=n) ha.2 hn;obtain⟨p1,_⟩:=KM ha.2;refine⟨⟨⟨Int.emod_nonneg _ oM,Int.emod_lt_of_pos _ oM⟩,h1⟩,?_⟩;show (zz r n).2 / k=_;rw[h2,jX,Int.ediv_ediv_of_nonneg oM,Int.mul_comm]
theorem zn6:∀ {sz at_:List Int},sz.all szOk=true→inR sz at_→∀ m:Int,0≤m→zz sz (m*qX sz+numL sz at_)=(at_,m)
 | [],[],_,_,m,_=>by simp [zz,qX,numL]
 | [],_::_,_,h,_,_=>h.elim
 | _::_,[],_,h,_,_=>h.elim
 | k::r,a::s,ha,h,m,hm=>by
   simp only[List.all_cons,Bq] at ha;have hk:1≤k∧k≤8:=by simpa [szOk] using ha.1
   obtain⟨⟨q1,q2⟩,q3⟩:=h;have ih:=zn6 ha.2 q3 (m*k+a) (by have:=Int.mul_nonneg hm (show (0:Int)≤k by omega);omega);have e:m*qX (k::r)+numL (k::r) (a::s)=(m*k+a)*qX r+numL r s:=by
    rw[qZ1 (Yy q3),jX,Int.add_mul,Int.mul_assoc];omega
   rw[e];simp only[zz,ih];have h1:(m*k+a) % k=a:=by rw[Int.add_comm,Int.add_mul_emod_self_right];exact Int.emod_eq_of_lt q1 q2
   have h2:(m*k+a) / k=m:=by
    rw[Int.add_comm,Int.add_mul_ediv_right _ _ oM,Int.ediv_eq_zero_of_lt q1 q2];omega
   rw[h1,h2]
theorem qP8 {sz at_:List Int} (ha:sz.all szOk=true) (h:inR sz at_):zd sz (numL sz at_)=at_:=by
 have:=zn6 ha h 0 oM;rw[Int.zero_mul,Int.zero_add] at this;unfold zd;rw[this]
set_option maxRecDepth 4000
set_option maxHeartbeats 8000000
def jM0 (n g:Int):Int:=maxI n (g+1)
def gN (l:List Int):Int:=l.foldl jM0 0
def KO (o:Option Int) (g:Int):Option Int:=match o with | some n=>if g < -1∨g>n then none else some (if g=n then n+1 else n) | none=>none
def nbF (l:List Int):Option Int:=l.foldl KO (some 0)
theorem jH2 {l:List Int} {i:Nat} (h:i<l.length):gN (l.take (i+1))=maxI (gN (l.take i)) (l[i]+1):=by
 unfold gN;rw[qy h,Gx]
 rfl
theorem jj2 {l:List Int} {i:Nat} (h:i<l.length):nbF (l.take (i+1))=KO (nbF (l.take i)) l[i]:=by
 unfold nbF;rw[qy h,Gx]
 rfl
theorem jj3:∀ l:List Int,l.foldl KO none=none
 | []=>rfl
 | x::r=>jj3 r
theorem jw8 {l:List Int} {i:Nat} (h:nbF (l.take i)=none):nbF l=none:=by
 have e:nbF l=(l.drop i).foldl KO (nbF (l.take i)):=by
  unfold nbF;rw[← Gx,List.take_append_drop]
 rw[e,h,jj3]
structure NbOk (l:List Int) (n:Int):Prop where
 pos:0≤n∧n≤l.length
 g:gN l=n
 all:∀ x∈l,-1≤x∧x<n
 has:∀ j:Int,0≤j→j<n→j∈l
theorem jM1 {l:List Int}:∀ {i:Nat},i≤l.length→∀ {n:Int},nbF (l.take i)=some n→NbOk (l.take i) n
 | 0,_,n,h=>by
   simp [nbF] at h;subst h;exact⟨sMp,by simp [gN],sMp,oM⟩
 | i+1,hi,n,h=>by
   have hlt:i<l.length:=by omega
   rw[jj2 hlt] at h;cases hp:nbF (l.take i) with
   | none=>rw[hp] at h;cases h
   | some m=>
     rw[hp] at h;have ih:=jM1 oM hp;simp only[KO] at h;split at h
     ·cases h
     ·rename_i hc;injection h with h;have hl:(l.take (i+1)).length=(l.take i).length+1:=by simp;omega
      rw[qy hlt];have hpos:=ih.pos;refine⟨?_,?_,?_,?_⟩
      ·rw[AW,CJ,Cw];subst h;split <;> omega
      ·rw[← qy hlt,jH2 hlt,ih.g];unfold maxI;subst h;split <;> split <;> omega
      ·intro x hx;rcases Dz.1 hx with hx | hx
       ·have:=ih.all x hx;subst h;split <;> omega
       ·simp only[Ck,List.not_mem_nil,or_false] at hx;subst hx h;split <;> omega
      ·intro j h0 hj;rw[Dz];by_cases hjm:j<m
       ·exact .inl (ih.has j h0 hjm)
       ·right
        subst h;split at hj
        ·rename_i he;rw[he,show j=m by omega];simp
        ·omega
theorem jH3 {l:List Int} {n:Int} (h:nbF l=some n):NbOk l n:=by
 have:=jM1 (l:=l) (BZ _) (n:=n) (by rw[Bw];exact h)
 rwa [Bw] at this
def okG (k:Int) (g:List Int):Bool:=((g.length:Int)==k)&&(match nbF g with | some n=>decide (n>0) | none=>false)
def okGs:List Int→List (List Int)→Bool
 | k::r,g::s=>okG k g&&okGs r s
 | _,_=>true
def qp6 (sz:List Int) (gs:List (List Int)):Int:=if chkS sz≠0 then chkS sz else if gs.length≠sz.length then 55 else if okGs sz gs=true then 0 else 55
structure VwOk (sz:List Int) (gs:List (List Int)):Prop where
 sp:SpOk sz
 len:gs.length=sz.length
 ok:okGs sz gs=true
theorem Wj {sz:List Int} {gs:List (List Int)}:qp6 sz gs=0↔VwOk sz gs:=by
 unfold qp6;constructor
 ·intro h;split at h
  ·rename_i h1;exact absurd h h1
  ·split at h
   ·cases h
   ·split at h
    ·rename_i h1 h2 h3;exact⟨kY.1 (AQ h1),AQ h2,h3⟩
    ·cases h
 ·rintro ⟨h1,h2,h3⟩;rw[Aq (fun h=>h (kY.2 h1)),Aq (fun h=>h h2),Aj h3]
theorem Yz:∀ {a c:List Int} {b d:List (List Int)},a.length=b.length→okGs (a++c) (b++d)=(okGs a b&&okGs c d)
 | [],c,[],d,_=>by simp [okGs]
 | [],_,_::_,_,h=>by simp at h
 | _::_,_,[],_,h=>by simp at h
 | k::a,c,g::b,d,h=>by
   simp only[BW,okGs];rw[Yz (by simpa using h),Bool.and_assoc]
theorem zn7 {sz:List Int} {gs:List (List Int)} {i:Nat} (h:i<sz.length) (h2:i<gs.length):okGs (sz.take (i+1)) (gs.take (i+1))=(okGs (sz.take i) (gs.take i)&&okG sz[i] gs[i]):=by
 rw[qy h,qy h2,Yz (by simp;omega)];simp [okGs]
theorem zR6 {sz:List Int} {gs:List (List Int)} {i:Nat} (hl:gs.length=sz.length) (h:i<sz.length) (hf:okG sz[i] (gs[i]'oM)=false):okGs sz gs=false:=by
 have e:okGs sz gs=okGs (sz.take (i+1)++sz.drop (i+1)) (gs.take (i+1)++gs.drop (i+1)):=by rw[List.take_append_drop,List.take_append_drop]
 rw[e,Yz (by simp;omega),zn7 h oM,hf];simp
theorem zK0:∀ {sz:List Int} {gs:List (List Int)},okGs sz gs=true→∀ {i:Nat} (h:i<sz.length) (h2:i<gs.length),okG sz[i] gs[i]=true
 | [],_,_,i,h,_=>by simp at h
 | _::_,[],_,i,_,h=>by simp at h
 | k::r,g::s,h,i,h1,h2=>by
   simp only[okGs,Bq] at h;cases i with
   | zero=>exact h.1
   | succ i=>exact zK0 h.2 (i:=i) (by simpa using h1) (by simpa using h2)
theorem jj4 {k:Int} {g:List Int} (h:okG k g=true):(g.length:Int)=k∧∃ n,nbF g=some n∧0<n∧NbOk g n:=by
 unfold okG at h;simp only[Bq,AY] at h;refine⟨h.1,?_⟩;cases hn:nbF g with
 | none=>rw[hn] at h;simp at h
 | some n=>
   rw[hn] at h;exact⟨n,rfl,by simpa using h.2,jH3 hn⟩
theorem VwOk.get {sz:List Int} {gs:List (List Int)} (h:VwOk sz gs) {i:Nat} (hi:i<sz.length):((gs[i]'(by rw[h.len];exact hi)).length:Int)=sz[i]∧0<gN (gs[i]'(by rw[h.len];exact hi))∧NbOk (gs[i]'(by rw[h.len];exact hi)) (gN (gs[i]'(by rw[h.len];exact hi))):=by
 obtain⟨h1,n,_,h2,h3⟩:=jj4 (zK0 h.ok hi (by rw[h.len];exact hi));rw[h3.g];exact⟨h1,h2,h3⟩
def gAt (gs:List (List Int)) (at_:List Int):List Int:=List.zipWith (fun g (a:Int)=>g.getD a.toNat 0) gs at_
def ofS (sz:List Int) (gs:List (List Int)) (c:Int):Int:=if (gAt gs (zd sz c)).any (fun g=>decide (g<0))=true then -1 else numL (gs.map gN) (gAt gs (zd sz c))
def pubN (gs:List (List Int)):Int:=qX (gs.map gN)
def Qo (sz:List Int) (gs:List (List Int)):Int:=if qp6 sz gs=0 then pubN gs else 0
def kD (n:Nat):List Int:=(List.range n).map fun c=>((c:Nat):Int)
def YA (sz:List Int) (gs:List (List Int)) (k:Int):List Int:=(kD (qX sz).toNat).filter fun c=>ofS sz gs c==k
def zz1 (sz:List Int) (gs:List (List Int)) (k:Int):List Int×Int:=
 if qp6 sz gs≠0 then ([],qp6 sz gs) else if k<0∨k≥pubN gs then ([],2) else (YA sz gs k,0)
theorem zR7 {n P k:Int} (hn:0≤n) (hP:0<P) (hk:0<k):n % (k*P)=n / P % k*P+n % P:=by
 obtain⟨n,rfl⟩:=AJ hn;obtain⟨P,rfl⟩:=AJ (Int.le_of_lt hP);obtain⟨k,rfl⟩:=AJ (Int.le_of_lt hk);have h:=Nat.mod_mul (x:=n) (a:=P) (b:=k);rw[Nat.mul_comm P k,Nat.mul_comm P (n / P % k)] at h;have h2:((n % (k*P):Nat):Int)=((n % P+n / P % k*P:Nat):Int):=by rw[h]
 push_cast at h2
 omega
theorem zn8:∀ {sz:List Int} {n:Int},(∀ k∈sz,1≤k)→0≤n→numL sz (zd sz n)=n % qX sz∧(zz sz n).2=n / qX sz∧1≤qX sz
 | [],n,_,_=>by simp [numL,qX,zz,Int.emod_one]
 | k::r,n,ha,hn=>by
   have hk:=ha k sMp;obtain⟨h1,h2,h3⟩:=zn8 (n:=n) (fun x hx=>ha x (CQ _ hx)) hn;have e:zd (k::r) n=(zz r n).2 % k::zd r n:=rfl;refine⟨?_,?_,?_⟩
   ·rw[e,qZ1 (ZM r n).symm,h1,h2,jX,zR7 hn oM oM]
   ·show (zz r n).2 / k=_;rw[h2,jX,Int.ediv_ediv_of_nonneg oM,Int.mul_comm]
   ·rw[jX];have:=Int.mul_pos (show 0<k by omega) (show 0<qX r by omega);omega
theorem jj5 {n:Nat} {c:Int}:c∈kD n↔0≤c∧c<n:=by
 unfold kD;simp only[Cj,Dk];constructor
 ·rintro ⟨k,h,rfl⟩;omega
 ·rintro ⟨h1,h2⟩;exact⟨c.toNat,oM,oM⟩
theorem qZ2 {sz:List Int} {gs:List (List Int)} (h:SpOk sz) {k c:Int}:c∈YA sz gs k↔(0≤c∧c<qX sz)∧ofS sz gs c=k:=by
 unfold YA;rw[Fz,jj5];have:=h.prod;simp only[AY];constructor
 ·rintro ⟨⟨h1,h2⟩,h3⟩;exact⟨⟨h1,oM⟩,h3⟩
 ·rintro ⟨⟨h1,h2⟩,h3⟩;exact⟨⟨h1,oM⟩,h3⟩
theorem jw9 (sz:List Int) (gs:List (List Int)) (k:Int):(YA sz gs k).Pairwise (·<·):=by
 unfold YA kD;refine List.Pairwise.filter _ ?_;rw[List.pairwise_map];exact List.pairwise_lt_range.imp fun h=>by omega
theorem qy8 (n:Nat):(kD n).length=n:=by simp [kD]
theorem jx0 {sz:List Int} {gs:List (List Int)} (h:SpOk sz) (k:Int):(YA sz gs k).length≤48:=by
 have:=Fx (fun c=>ofS sz gs c==k) (kD (qX sz).toNat);rw[qy8] at this;have:=h.prod;unfold YA;omega
theorem VwOk.gsz {sz:List Int} {gs:List (List Int)} (h:VwOk sz gs):(gs.map gN).all szOk=true:=by
 rw[Bk];intro n hn;obtain⟨g,hg,rfl⟩:=Cj.1 hn;obtain⟨i,hi,rfl⟩:=CX hg;have hi2:i<sz.length:=by rw[← h.len];exact hi
 obtain⟨h1,h2,h3⟩:=h.get hi2;have:=h3.pos;have:=h.sp.get hi2;simp only[szOk,Bq,AZ];omega
theorem VwOk.pub {sz:List Int} {gs:List (List Int)} (h:VwOk sz gs):1≤pubN gs∧pubN gs≤48:=by
 refine⟨(KM h.gsz).1,Int.le_trans ?_ h.sp.prod.2⟩;have key:∀ {sz:List Int} {gs:List (List Int)},gs.length=sz.length→okGs sz gs=true→sz.all szOk=true→1≤qX (gs.map gN)∧qX (gs.map gN)≤qX sz:=by
  intro sz
  induction sz with
  | nil=>intro gs h1 _ _;rw[DK h1];simp [qX]
  | cons k r ih=>
    intro gs h1 h2 h3;cases gs with
    | nil=>simp at h1
    | cons g s=>
      simp only[okGs,Bq] at h2;simp only[List.all_cons,Bq] at h3;obtain⟨q1,q2⟩:=ih (gs:=s) (by simpa using h1) h2.2 h3.2;obtain⟨e1,n,_,e2,e3⟩:=jj4 h2.1;have hk:1≤k∧k≤8:=by simpa [szOk] using h3.1
      have hp:=e3.pos;rw[List.map_cons,jX,jX,e3.g];have m1:=Int.mul_pos (show 0<n by omega) (show 0<qX (s.map gN) by omega);have m2:n*qX (s.map gN)≤k*qX (s.map gN):=Int.mul_le_mul_of_nonneg_right oM oM;have m3:k*qX (s.map gN)≤k*qX r:=Int.mul_le_mul_of_nonneg_left q2 oM;omega
 exact (key h.len h.ok h.sp.all).2
theorem jj6:∀ {sz:List Int} {gs:List (List Int)},gs.length=sz.length→okGs sz gs=true→∀ {at_:List Int},inR sz at_→(gAt gs at_).length=gs.length∧
 ((gAt gs at_).any (fun g=>decide (g<0))=false→inR (gs.map gN) (gAt gs at_))∧∀ g∈gAt gs at_,-1≤g
 | [],[],_,_,[],_=>⟨rfl,fun _=>trivial,by simp [gAt]⟩
 | [],[],_,_,_::_,h=>h.elim
 | [],_::_,h,_,_,_=>by simp at h
 | _::_,[],h,_,_,_=>by simp at h
 | _::_,_::_,_,_,[],h=>h.elim
 | k::r,g::s,hl,ho,a::t,h=>by
   simp only[okGs,Bq] at ho;obtain⟨h1,h2,h3⟩:=jj6 (sz:=r) (gs:=s) (by simpa using hl) ho.2 h.2;obtain⟨e1,n,_,e2,e3⟩:=jj4 ho.1;obtain⟨⟨a1,a2⟩,_⟩:=h;have ha:a.toNat<g.length:=by omega
   have hg:g.getD a.toNat 0=g[a.toNat]:=qg ha;have hx:=e3.all g[a.toNat] (AX ha);have e:gAt (g::s) (a::t)=g.getD a.toNat 0::gAt s t:=rfl;rw[e,hg];refine⟨by simp [h1],fun hn=>?_,fun x hx'=>?_⟩
   ·simp only[List.any_cons,FX,Ay] at hn;rw[List.map_cons,e3.g];exact⟨⟨oM,hx.2⟩,h2 hn.2⟩
   ·rcases Ck.1 hx' with rfl | hx'
    ·exact hx.1
    ·exact h3 x hx'
def sumT (t:List Int) (cs:List Int):Int:=(cs.map fun c=>t.getD c.toNat 0).foldl (·+·) 0
theorem jj7 (l:List Int):∀ a:Int,l.foldl (·+·) a=a+l.foldl (·+·) 0:=by
 induction l with
 | nil=>intro a;simp
 | cons x r ih=>intro a;rw[Dw,ih,Dw,ih (0+x)];omega
theorem YB (t a b:List Int):sumT t (a++b)=sumT t a+sumT t b:=by
 unfold sumT;rw[By,Gx,jj7]
theorem qZ3 (t:List Int) (c:Int):sumT t [c]=t.getD c.toNat 0:=by simp [sumT]
theorem jj8 {t cs:List Int} {i:Nat} (h:i<cs.length):sumT t (cs.take (i+1))=sumT t (cs.take i)+t.getD cs[i].toNat 0:=by
 rw[qy h,YB,qZ3]
theorem qP9 (n:Nat):kD (n+1)=kD n++[(n:Int)]:=by simp [kD,List.range_succ]
def okV (n:Int):Bool:=decide (0≤n)&&decide (n≤1000000)
theorem qQ0 {t:List Int} (ht:t.all okV=true):∀ (cs:List Int),0≤sumT t cs∧sumT t cs≤cs.length*1000000
 | []=>by simp [sumT]
 | c::r=>by
   obtain⟨h1,h2⟩:=qQ0 ht r;have e:sumT t (c::r)=t.getD c.toNat 0+sumT t r:=by
    rw[show c::r=[c]++r from rfl,YB,qZ3]
   have hb:0≤t.getD c.toNat 0∧t.getD c.toNat 0≤1000000:=by
    by_cases hc:c.toNat<t.length
    ·rw[qg hc];have:=Bk.1 ht _ (AX hc);simpa [okV] using this
    ·rw[CY,List.getElem?_eq_none oM];simp
   rw[e,CJ]
   push_cast
   omega
structure Rls where
 num:Int
 gs:List (List Int)
 vals:List Int
structure Eqn where
 cells:List Int
 val:Int
instance:Inhabited Rls:=⟨⟨0,[],[]⟩⟩
instance:Inhabited Eqn:=⟨⟨[],0⟩⟩
def zz2 (n:Int):Bool:=(n == -1)||okV n
def rlsE (sz:List Int) (r:Rls) (before:Int):Int:=
 if r.num≤before∨r.num≥24 then 48 else if qp6 sz r.gs≠0 then qp6 sz r.gs else if (r.vals.length:Int)≠pubN r.gs then 17 else if r.vals.all zz2=false then 2 else 0
def rlsF (sz:List Int):List Rls→Int→Int
 | [],_=>0
 | r::l,b=>if rlsE sz r b≠0 then rlsE sz r b else rlsF sz l r.num
def rlsC (sz:List Int) (l:List Rls):Int:=if chkS sz≠0 then chkS sz else if l.length>24 then 1 else rlsF sz l (-1)
def wz (sz:List Int) (gs:List (List Int)):List Int→Nat→List Eqn
 | [],_=>[]
 | n::r,k=>if n = -1 then wz sz gs r (k+1) else ⟨YA sz gs k,n⟩::wz sz gs r (k+1)
def tell (sz:List Int) (r:Rls):List Eqn:=wz sz r.gs r.vals 0
def KP (sz:List Int) (l:List Rls):List Eqn:=l.flatMap (tell sz)
def allA (sz:List Int) (l:List Rls):List Eqn×Int:=if rlsC sz l≠0 then ([],rlsC sz l) else (KP sz l,0)
theorem qm2 (sz:List Int) (gs:List (List Int)):∀ (a b:List Int) (k:Nat),wz sz gs (a++b) k=wz sz gs a k++wz sz gs b (k+a.length)
 | [],b,k=>by simp [wz]
 | n::r,b,k=>by
   simp only[BW,wz,CJ];have ih:=qm2 sz gs r b (k+1);rw[show k+1+r.length=k+(r.length+1) by omega] at ih;split
   ·exact ih
   ·rw[ih,BW]
theorem jj9 {sz:List Int} {gs:List (List Int)} {vs:List Int} {i:Nat} (h:i<vs.length):wz sz gs (vs.take (i+1)) 0=wz sz gs (vs.take i) 0++(if vs[i] = -1 then [] else [⟨YA sz gs i,vs[i]⟩]):=by
 rw[qy h,qm2]
 congr 1
 have:(vs.take i).length=i:=by simp;omega
 simp only[wz,this,Nat.zero_add]
theorem zR8 {sz:List Int} {l:List Rls} {i:Nat} (h:i<l.length):KP sz (l.take (i+1))=KP sz (l.take i)++tell sz l[i]:=by
 unfold KP;rw[qy h,List.flatMap_append];simp
theorem qy9 (sz:List Int) (gs:List (List Int)):∀ (vs:List Int) (k:Nat),(wz sz gs vs k).length≤vs.length
 | [],_=>by simp [wz]
 | n::r,k=>by
   have:=qy9 sz gs r (k+1);simp only[wz];split <;> simp <;> omega
structure RlOk (sz:List Int) (r:Rls) (b:Int):Prop where
 num:b<r.num∧r.num<24
 vw:VwOk sz r.gs
 len:(r.vals.length:Int)=pubN r.gs
 vals:r.vals.all zz2=true
theorem jk0 {sz:List Int} {r:Rls} {b:Int}:rlsE sz r b=0↔RlOk sz r b:=by
 unfold rlsE;constructor
 ·intro h;split at h
  ·cases h
  ·split at h
   ·rename_i h1 h2;exact absurd h h2
   ·split at h
    ·cases h
    ·split at h
     ·cases h
     ·rename_i h1 h2 h3 h4;exact⟨oM,Wj.1 (AQ h2),AQ h3,by simpa using h4⟩
 ·rintro ⟨h1,h2,h3,h4⟩;rw[Aq oM,Aq (fun h=>h (Wj.2 h2)),Aq (fun h=>h h3),Aq (by rw[h4];simp)]
theorem zn9 {sz:List Int}:∀ {l:List Rls} {b:Int} {i:Nat} (h:i<l.length),rlsF sz (l.take i) b=0→rlsF sz (l.take (i+1)) b=rlsE sz l[i] (if i=0 then b else (l.getD (i-1) default).num)
 | [],_,i,h,_=>by simp at h
 | r::l,b,0,h,_=>by
   simp only[List.take_succ_cons,List.take_zero,rlsF,List.getElem_cons_zero];split
   ·rfl
   ·rename_i hh;simp only[if_true];exact (AQ hh:rlsE sz r b=0).symm
 | r::l,b,i+1,h,h0=>by
   simp only[List.take_succ_cons,rlsF] at h0 ⊢
   split at h0
   ·rename_i hh;exact absurd h0 hh
   ·rename_i hh;rw[Aq hh,zn9 (by simpa using h) h0];simp only[List.getElem_cons_succ]
    congr 1
    cases i with
    | zero=>simp
    | succ i=>simp
theorem qQ1 {sz:List Int}:∀ {l:List Rls} {b:Int} {i:Nat},rlsF sz (l.take i) b≠0→rlsF sz l b=rlsF sz (l.take i) b
 | [],b,i,h=>by simp
 | r::l,b,0,h=>by simp [rlsF] at h
 | r::l,b,i+1,h=>by
   simp only[List.take_succ_cons,rlsF] at h ⊢
   split
   ·rfl
   ·rename_i hh;rw[Aq hh] at h;exact qQ1 h
theorem zK1 {sz:List Int}:∀ {l:List Rls} {b:Int},rlsF sz l b=0→-1≤b→∀ r∈l,RlOk sz r (-1)
 | [],_,_,_,r,h=>by simp at h
 | x::l,b,h,hb,r,hr=>by
   simp only[rlsF] at h;split at h
   ·rename_i hh;exact absurd h hh
   ·rename_i hh;have hx:RlOk sz x b:=jk0.1 (AQ hh);rcases Ck.1 hr with rfl | hr
    ·exact⟨by have:=hx.num;omega,hx.vw,hx.len,hx.vals⟩
    ·exact zK1 h (by have:=hx.num;omega) r hr
theorem jx1 {sz:List Int} {l:List Rls} (h:rlsC sz l=0):SpOk sz∧l.length≤24∧∀ r∈l,RlOk sz r (-1):=by
 unfold rlsC at h;split at h
 ·rename_i hh;exact absurd h hh
 ·split at h
  ·cases h
  ·rename_i h1 h2;exact⟨kY.1 (AQ h1),oM,zK1 h oM⟩
def agr1 (t:List Int) (x:Eqn):Bool:=(x.cells.all fun k=>decide (0≤k)&&decide (k<t.length))&&(sumT t x.cells==x.val)
def JS (l:List Eqn) (t:List Int):Bool:=t.all okV&&l.all (agr1 t)
def pubV (sz:List Int) (gs:List (List Int)) (t:List Int) (k:Int):Int:=sumT t (YA sz gs k)
def zo0 (sz:List Int) (gs:List (List Int)) (t:List Int):List Int→Nat→Bool
 | [],_=>true
 | n::r,k=>((n == -1)||(pubV sz gs t k==n))&&zo0 sz gs t r (k+1)
theorem qQ2 {sz:List Int} {gs:List (List Int)} {t:List Int} (h:SpOk sz) (ht:(t.length:Int)=qX sz):∀ (vs:List Int) (k:Nat),(wz sz gs vs k).all (agr1 t)=zo0 sz gs t vs k
 | [],_=>rfl
 | n::r,k=>by
   have ih:=qQ2 (gs:=gs) h ht r (k+1);have h1:((YA sz gs k).all fun k=>decide (0≤k)&&decide (k<(t.length:Int)))=true:=by
    rw[Bk];intro c hc;have:=((qZ2 h).1 hc).1;simp only[Bq,AZ];omega
   by_cases hn:n = -1
   ·simp only[wz,hn,if_true,ih,zo0,beq_self_eq_true,Bool.true_or,Fq]
   ·have hb:(n == -1)=false:=by simpa using hn
    simp only[wz,hn,if_false,List.all_cons,ih,zo0,hb,Bool.false_or];rw[show agr1 t ⟨YA sz gs k,n⟩=(pubV sz gs t k==n) by unfold agr1 pubV;simp only[h1,Fq]]
structure GvOk (cs:List UInt8) (x:Nat×Int×List Int):Prop where
 le:x.1≤cs.length
 nb:nbF x.2.2=some x.2.1
 next:0≤x.2.1∧x.2.1≤x.2.2.length
 pos:x.2.2≠[]→0<x.2.1
structure RlsOk (cs:List UInt8) (sz t:List Int) (x:Nat×List Rls) (n:Nat):Prop where
 le:x.1≤cs.length
 len:x.2.length=n
 num:∀ i (h:i<x.2.length),x.2[i].num=i
 ok:∀ r∈x.2,(VwOk sz r.gs∧(r.vals.length:Int)=pubN r.gs∧r.vals.all zz2=true)∧zo0 sz r.gs t r.vals 0=true
structure ToldOk (cs:List UInt8) (x:Nat×List Int×List Int×List Rls) (most:Int):Prop where
 le:x.1≤cs.length
 sp:SpOk x.2.1
 len:(x.2.2.1.length:Int)=qX x.2.1
 tab:∀ y∈x.2.2.1,0≤y∧y≤most
 rls:rlsC x.2.1 x.2.2.2=0
 cnt:x.2.2.2.length≤24
 same:∀ r∈x.2.2.2,zo0 x.2.1 r.gs x.2.2.1 r.vals 0=true
theorem zD (l:List UInt8) (at_:Nat) (lo hi:Int) (hl:l.length≤400) (ha:at_≤l.length) (hlo : -1000000≤lo∧lo≤1000000) (hhi:lo≤hi∧hi≤lo+100000) :
 Sp 42 [.ptr 0 1 0 0,vI lo,vI hi] [(0,oC l at_)] (vI (lo+(nx l at_ (hi-lo+1)).1)) [(0,oC l (nx l at_ (hi-lo+1)).2)]:=by
 refine sIr Yf fun e _ hst=>?_;unfold ko;have hw1:IntKind.i64.wrap (hi-lo)=hi-lo:=AK _ oM;have hw2:IntKind.i64.wrap (hi-lo+1)=hi-lo+1:=AK _ oM;simp only[tZ,↓uU,simprocAttr,hw1,hw2];refine C1.draw 0 l at_ _ (zQ l at_ (hi-lo+1) hl ha oM) rfl rfl rfl ?_;have hr:=kf l at_ (hi-lo+1) oM;have hw3:IntKind.i64.wrap (lo+(nx l at_ (hi-lo+1)).1)=lo+(nx l at_ (hi-lo+1)).1:=AK _ oM;simp only[tZ,↓uU,simprocAttr,hw3];refine .of (U1 0) [] rfl rfl ?_ ?_
 ·simp only[tL,simprocAttr];exact zf ⟨rfl,rfl,rfl,rfl,trivial⟩ zq
 ·simp only[tL,simprocAttr]
def qz0 (c:UInt8):Bool:=(decide ((c.toNat:Int)<97)||decide ((c.toNat:Int)>122))&&(decide ((c.toNat:Int)<48)||decide ((c.toNat:Int)>57))&&!((c.toNat:Int)==95)
def zz3 (s:ByteArray):Bool:=decide ((s.size:Int)<1)||decide ((s.size:Int)>16)||decide (((s.data.toList.getD 0 0).toNat:Int)<97)||decide (((s.data.toList.getD 0 0).toNat:Int)>122)
def resW:List (List UInt8):=[[97,108,108],[97,110,100],[101,118,101,110,116],[102,114,111,109],[109,105,115,115,105,110,103],[110,111,116],[111,110],[111,114],[116,111],[117,110,100,101,114],[119,104,101,114,101]]
def jr (s:ByteArray):Bool:=!zz3 s&&!(s.data.toList.any qz0)&&!(resW.contains s.toList)
theorem jF (s:ByteArray):Sp 75 [vS s] [] (vB (jr s)) []:=by
 have hsl:s.size=s.data.toList.length:=by rw[Array.length_toList];rfl
 refine sIr qV9 fun e _ hst=>?_;unfold Jm;refine sW ?_;refine⟨fun h=>?_,fun h=>?_,fun h=>?_,fun h=>?_⟩
 ·simp at h;omega
 ·simp at h;omega
 ·have:jr s=false:=by unfold jr zz3;rw[h];rfl
  rw[this];exact .oA [] []
 have hd:zz3 s=false:=h;have hs16:s.data.toList.length≤16:=by
  unfold zz3 at hd;simp only[FX,Ay] at hd;omega
 refine qt mixm (α:=Nat) [3] (fun i=>i≤s.data.toList.length∧((s.data.toList.take i).any qz0=false)) (fun i=>[(3,vI i)]) (fun i=>[]) (fun i=>s.data.toList.length-i) 0 ⟨oM,?_⟩ ?_ fun i hi=>?_
 ·rfl
 ·exact .oA [] []
 refine sD ?_;refine⟨fun h5=>?_,fun h5=>?_⟩
 ·have hi2:i<s.data.toList.length:=by omega
  have hwi:=qh (i:=i) oM;simp only[tZ,↓uU,simprocAttr,Ax,hwi,wi];have hg:s.data.toList.getD i 0=s.data.toList[i]:=qg hi2;simp only[hg];refine⟨oM,?_⟩
  repeat (refine⟨fun _=>by omega,?_⟩)
  refine⟨fun h6=>?_,fun h6=>?_⟩
  ·have hb:qz0 s.data.toList[i]=true:=by
    simp only[Ak] at h6;generalize s.data.toList[i]=c at h6 ⊢
    unfold qz0;simp;omega
   have:jr s=false:=by
    unfold jr;rw[show s.data.toList.any qz0=true from DJ.2 ⟨_,AX hi2,hb⟩];simp
   rw[this];exact .oA [] []
  ·have hb:qz0 s.data.toList[i]=false:=by
    rw[← h6,Bool.eq_iff_iff];generalize s.data.toList[i]=c;unfold qz0;simp
    try omega
   refine⟨i+1,⟨oM,zV hi2 hi.2 hb⟩,oM,?_⟩;exact .oA [] []
 ·have h3:=hi.2;have:i=s.data.toList.length:=by omega
  rw[this,Bw] at h3;have hn:jr s=!(resW.contains s.toList):=by unfold jr;rw[hd,h3];rfl
  rw[hn];simp only[resW,List.contains_cons,List.contains_nil]
  repeat' (first | with_reducible apply Az | with_reducible intro _)
  all_goals first
   | (exfalso;simp_all;done)
   | (simp only[*,Bool.true_or,Bool.or_true,Bool.false_or,Bool.or_false,Bool.not_true,Bool.not_false];exact .imR rfl rfl)
abbrev cdAt (cs:List Cod) (i:Nat):Cod:=cs.getD i default
def parC (cs:List Cod) (i:Nat):Int:=(cdAt cs i).par
def depF (cs:List Cod):Nat→Nat→Nat
 | 0,_=>0
 | f+1,c=>if parC cs c<0 then 0 else depF cs f (parC cs c).toNat+1
def dep (cs:List Cod) (c:Nat):Nat:=depF cs (c+1) c
def qi6 (cs:List Cod):Prop:=∀ i,i<cs.length→-1≤parC cs i∧parC cs i<i
theorem jk1 {cs:List Cod} (h:qi6 cs):∀ (c f g:Nat),c<cs.length→c<f→c<g→depF cs f c=depF cs g c:=by
 intro c
 induction c using Nat.strongRecOn with
 | _ c ih=>
   intro f g hc hf hg;obtain⟨f,rfl⟩:∃ k,f=k+1:=⟨f-1,oM⟩;obtain⟨g,rfl⟩:∃ k,g=k+1:=⟨g-1,oM⟩;simp only[depF];have hp:=h c hc;split
   ·rfl
   ·rw[ih (parC cs c).toNat oM f g oM oM oM]
theorem qd4 {cs:List Cod} {c:Nat} (h:parC cs c<0):dep cs c=0:=by simp [dep,depF,h]
theorem YC {cs:List Cod} (h:qi6 cs) {c:Nat} (hc:c<cs.length) (h0:0≤parC cs c):dep cs c=dep cs (parC cs c).toNat+1:=by
 have hp:=h c hc;unfold dep;rw[depF,Aq oM,jk1 h _ c ((parC cs c).toNat+1) oM oM oM]
theorem qQ3 {cs:List Cod} (h:qi6 cs):∀ c,c<cs.length→dep cs c≤c:=by
 intro c
 induction c using Nat.strongRecOn with
 | _ c ih=>
   intro hc;by_cases h0:parC cs c<0
   ·rw[qd4 h0];omega
   ·have hp:=h c hc;have:=ih (parC cs c).toNat oM oM;rw[YC h hc oM];omega
def qp7 (cs:List Cod) (c:Nat):Bool:=!(cs.any fun x=>x.par==(c:Int))
def eqB (a b:ByteArray):Bool:=a.toList==b.toList
def cdE (cs:List Cod) (i:Nat):Int:=
 if jr (cdAt cs i).name=false then 3
 else if ((cs.take i).any fun x=>eqB x.name (cdAt cs i).name)=true then 10
 else if (i=0∧parC cs i≠-1)∨(0<i∧(parC cs i<0∨parC cs i≥i)) then 6 else 0
def cdEs (cs:List Cod):Nat→Int
 | 0=>0
 | n+1=>if cdEs cs n≠0 then cdEs cs n else cdE cs n
def lvS (cs:List Cod) (o:Option Int) (i:Nat):Option Int:=match o with
 | none=>none
 | some v=>if qp7 cs i=true then (if v≥0∧(dep cs i:Int)≠v then none else some (dep cs i)) else some v
def lvs (cs:List Cod) (n:Nat):Option Int:=(List.range n).foldl (lvS cs) (some (-1))
def lstE (l:CodL):Int:=
 if jr l.name=false then 3 else if l.codes.length=0 then 5 else if l.codes.length>60 then 1
 else if cdEs l.codes l.codes.length≠0 then cdEs l.codes l.codes.length else match lvs l.codes l.codes.length with | none=>5 | some _=>0
theorem qQ4 {cs:List Cod} {i:Nat} (h:cdEs cs i≠0):∀ n,i≤n→cdEs cs n=cdEs cs i:=by
 intro n hn
 induction n with
 | zero=>have:i=0:=by omega
         rw[this]
 | succ n ih=>
   by_cases e:i=n+1
   ·rw[e]
   ·have:=ih oM;rw[cdEs,this,Aj h]
theorem Wk {cs:List Cod}:∀ {n:Nat},cdEs cs n=0→∀ i,i<n→cdE cs i=0
 | 0,_,i,h=>by omega
 | n+1,h,i,hi=>by
   rw[cdEs] at h;split at h
   ·rename_i h2;exact absurd h h2
   ·rename_i h2;by_cases e:i=n
    ·rw[e];exact h
    ·exact Wk (AQ h2) i oM
theorem qZ4 {cs:List Cod} {i:Nat} (h:cdE cs i=0) : -1≤parC cs i∧parC cs i<i∧(i=0→parC cs i = -1)∧(0<i→0≤parC cs i):=by
 unfold cdE at h;split at h
 ·cases h
 ·split at h
  ·cases h
  ·split at h
   ·cases h
   ·rename_i h1;omega
theorem ze {l:CodL} (h:lstE l=0):qi6 l.codes∧0<l.codes.length∧l.codes.length≤60:=by
 unfold lstE at h;split at h
 ·cases h
 ·split at h
  ·cases h
  ·split at h
   ·cases h
   ·split at h
    ·rename_i h2;exact absurd h h2
    ·rename_i h1 h2 h3 h4;refine⟨fun i hi=>?_,oM,oM⟩;have:=qZ4 (Wk (AQ h4) i hi);exact⟨this.1,this.2.1⟩
def zA (l:CodL):Int:=if lstE l≠0 then -1 else (dep l.codes (l.codes.length-1):Int)+1
def lvlC (l:CodL) (c:Int):Int:=if lstE l≠0∨c<0∨c≥l.codes.length then -1 else dep l.codes c.toNat
def upF (cs:List Cod) (lev:Nat):Nat→Nat→Nat
 | 0,c=>c
 | f+1,c=>if lev<dep cs c then upF cs lev f (parC cs c).toNat else c
def upC (l:CodL) (c lev:Int):Int:=if lstE l≠0∨c<0∨c≥l.codes.length∨lev<0∨lev>dep l.codes c.toNat then -1 else upF l.codes lev.toNat (c.toNat+1) c.toNat
def atL (l:CodL) (lev:Int):List Int:=if lstE l≠0 then [] else List.map (fun i:Nat=>(i:Int)) ((List.range l.codes.length).filter fun i=>(dep l.codes i:Int)==lev)
def zK2 (l:CodL) (c above:Int):Bool:=decide (0≤lvlC l above)&&decide (lvlC l above≤lvlC l c)&&(upC l c (lvlC l above)==above)
def inB (n lo hi:Int):Bool:=decide (lo≤n)&&decide (n≤hi)
def wdOk (ws:List Int) (i:Nat):Bool:=if i=0 then ws.getD 0 0==1 else decide (ws.getD (i-1) 0<ws.getD i 0)&&decide (ws.getD i 0≤1000000)&&((ws.getD i 0).tmod (ws.getD (i-1) 0)==0)
def jx2 (ws:List Int):Bool:=(List.range ws.length).all (wdOk ws)
def measE (c:Col):Int:=
 if inB c.low (-1000000) 1000000=false∨inB c.high (-1000000) 1000000=false∨c.low>c.high then 2
 else if c.widths.length<1∨c.widths.length>4 then 1 else if jx2 c.widths=false then 2 else 0
abbrev qj (s:Sch) (i:Nat):Col:=s.cols.getD i default
def colE (s:Sch) (i:Nat):Int:=
 if jr (qj s i).name=false then 3
 else if ((s.cols.take i).any fun x=>eqB x.name (qj s i).name)=true then 10
 else if inB (qj s i).kind 1 3=false∨(0<i∧(qj s i).kind=1) then 4
 else if (qj s i).kind=2∧inB (qj s i).list 0 (s.lists.length-1)=false then 5
 else if (qj s i).kind=3∧measE (qj s i)≠0 then measE (qj s i)
 else if ((qj s i).kind≠2∧(qj s i).list≠0)∨((qj s i).kind≠3∧((qj s i).low≠0∨(qj s i).high≠0∨0<(qj s i).widths.length∨(qj s i).opt=true)) then 11 else 0
def kE (s:Sch):Nat→Int
 | 0=>0
 | n+1=>if kE s n≠0 then kE s n else if lstE (s.lists.getD n default)≠0 then lstE (s.lists.getD n default)
   else if ((s.lists.take n).any fun x=>eqB x.name (s.lists.getD n default).name)=true then 10 else 0
def ZN (s:Sch):Nat→Int
 | 0=>0
 | n+1=>if ZN s n≠0 then ZN s n else colE s n
def schE (s:Sch):Int:=
 if s.lists.length>6∨s.cols.length>8 then 1 else if kE s s.lists.length≠0 then kE s s.lists.length
 else if s.cols.length=0∨(qj s 0).kind≠1 then 7 else ZN s s.cols.length
abbrev qK (s:Sch) (i:Nat):CodL:=s.lists.getD (qj s i).list.toNat default
def qW:Int:=-1099511627776
def qS (s:Sch) (i:Nat) (v:Int):Bool:=
 if (qj s i).kind=1 then inB v 1 1048575
 else if (qj s i).kind=2 then inB v 0 ((qK s i).codes.length-1)&&(lvlC (qK s i) v==zA (qK s i)-1)
 else ((qj s i).opt&&(v==qW))||inB v (qj s i).low (qj s i).high
def rowE (s:Sch) (row:List Int):Int:=
 if schE s≠0 then schE s else if row.length≠s.cols.length then 9
 else if ((List.range row.length).all fun i=>qS s i (row.getD i 0))=false then 9 else 0
def finI (s:Sch) (c:Int):Int:=
 if schE s≠0∨c<1∨c≥s.cols.length then -1
 else if (qj s c.toNat).kind=2 then zA (qK s c.toNat)-1 else (qj s c.toNat).widths.length
def qU (a b:Int):Int:=a.fdiv b
def qA (s:Sch) (c:Nat):List Int:=atL (qK s c) (zA (qK s c)-1)
def qJ (c:Col) (lev:Int):Int:=c.widths.getD (c.widths.length-lev).toNat 0
def qk (s:Sch) (c lev v:Int):Int:=
 if inB lev 0 (finI s c)=false then -1
 else if (qj s c.toNat).kind=2 then (if qS s c.toNat v=false then -1 else upC (qK s c.toNat) v lev)
 else if v≠qW∧inB v (-1000000) 1000000=false then -1
 else if lev=0 then 0 else if v=qW then v else qU v (qJ (qj s c.toNat) lev)*qJ (qj s c.toNat) lev
def dgt (n:Nat):UInt8:=UInt8.ofNat (48+n)
def topC:Cod:=⟨⟨#[116,111,112]⟩,-1⟩
def kidC (i:Nat):Cod:=⟨⟨#[107,dgt i]⟩,0⟩
def lefC (n i:Nat):Cod:=⟨⟨#[108,dgt n]⟩,1+i⟩
def JZ (k:Nat):List Cod:=topC::(List.range k).map kidC
def addL (cs:List Cod) (i:Nat):List Cod:=cs++[lefC cs.length i]
def lefL:List Cod→Nat→List Nat→List Cod
 | cs,_,[]=>cs
 | cs,i,n::r=>lefL ((List.range n).foldl (fun cs _=>addL cs i) cs) (i+1) r
def allN:Nat→List (List Nat)
 | 0=>[[]]
 | n+1=>(allN n).flatMap fun l=>[1::l,2::l]
theorem zK3:∀ {n:Nat} {l:List Nat},l.length=n→(∀ x∈l,x=1∨x=2)→l∈allN n
 | 0,[],_,_=>by simp [allN]
 | n+1,x::l,h,hx=>by
   have h1:=zK3 (n:=n) (l:=l) (by simpa using h) fun y hy=>hx y (CQ _ hy);rw[allN,Ek];refine⟨l,h1,?_⟩;rcases hx x sMp with h | h <;> subst h <;> simp
 | 0,_::_,h,_=>by simp at h
 | n+1,[],h,_=>by simp at h
def zo1:ByteArray:=⟨#[111,110,101]⟩
def zo2:ByteArray:=⟨#[116,119,111]⟩
theorem jx3:([zo1,zo2].all fun nm=>[1,2,3].all fun k=>lstE ⟨nm,JZ k⟩==0&&(allN k).all fun l=>lstE ⟨nm,lefL (JZ k) 0 l⟩==0)=true:=by decide +kernel
structure DrL (nm:ByteArray) (l:CodL):Prop where
 nm:l.name=nm
 ok:lstE l=0
 len:2≤l.codes.length∧l.codes.length≤10
theorem jk2 {nm:ByteArray} (hn:nm=zo1∨nm=zo2) {k:Nat} (hk:1≤k∧k≤3):lstE ⟨nm,JZ k⟩=0∧∀ l,l.length=k→(∀ x∈l,x=1∨x=2)→lstE ⟨nm,lefL (JZ k) 0 l⟩=0:=by
 have h1:=Bk.1 jx3 nm (by rcases hn with h | h <;> subst h <;> simp);have hk3:k∈[1,2,3]:=by
  have:k=1∨k=2∨k=3:=by omega
  rcases this with h | h | h <;> subst h <;> simp
 have h2:=Bk.1 h1 k hk3;rw[Bq,Bk] at h2;exact⟨by simpa using h2.1,fun l hl hx=>by simpa using h2.2 l (zK3 hl hx)⟩
theorem zK4 {s:Sch}:∀ {n:Nat},(∀ i,i<n→colE s i=0)→ZN s n=0
 | 0,_=>rfl
 | n+1,h=>by
   rw[ZN,zK4 fun i hi=>h i oM,Aq sMp];exact h n oM
theorem jk3 {s:Sch} {i:Nat} (h1:jr (qj s i).name=true) (h2:((s.cols.take i).any fun x=>eqB x.name (qj s i).name)=false) (h3:(qj s i).kind=3) (h4:(qj s i).list=0) (h5:measE (qj s i)=0):colE s i=0:=by
 rw[colE,Aq (by rw[h1];simp),Aq (by rw[h2];simp),Aq (by rw[h3];simp [inB]),Aq (by rw[h3];simp),Aq (by rw[h5];simp),Aq (by rw[h3,h4];simp)]
theorem qz1 {s:Sch} {i:Nat} (h1:jr (qj s i).name=true) (h2:((s.cols.take i).any fun x=>eqB x.name (qj s i).name)=false) (h3:(qj s i).kind=2) (h4:inB (qj s i).list 0 (s.lists.length-1)=true)
 (h5:(qj s i).low=0∧(qj s i).high=0∧(qj s i).widths=[]∧(qj s i).opt=false):colE s i=0:=by
 rw[colE,Aq (by rw[h1];simp),Aq (by rw[h2];simp),Aq (by rw[h3];simp [inB]),Aq (by rw[h4];simp),Aq (by rw[h3];simp),Aq (by rw[h3,h5.1,h5.2.1,h5.2.2.1,h5.2.2.2];simp)]
theorem jk4 {s:Sch} (h1:jr (qj s 0).name=true) (h3:(qj s 0).kind=1) (h5:(qj s 0).list=0∧(qj s 0).low=0∧(qj s 0).high=0∧(qj s 0).widths=[]∧(qj s 0).opt=false):colE s 0=0:=by
 rw[colE,Aq (by rw[h1];simp),Aq sMp,Aq (by rw[h3];simp [inB]),Aq (by rw[h3];simp),Aq (by rw[h3];simp),Aq (by rw[h3,h5.1,h5.2.1,h5.2.2.1,h5.2.2.2.1,h5.2.2.2.2];simp)]
def whoC:Col:=⟨⟨#[119,104,111]⟩,1,0,0,0,[],false⟩
def sexC:Col:=⟨⟨#[115,101,120]⟩,2,0,0,0,[],false⟩
def jobC:Col:=⟨⟨#[106,111,98]⟩,2,1,0,0,[],false⟩
def wTab:List (List Int):=[[1],[1,5],[1,5,20],[1,2,4,12]]
structure DrM (n:Nat) (c:Col):Prop where
 nm:c.name=⟨#[109,dgt n]⟩
 kind:c.kind=3
 list:c.list=0
 low : -4≤c.low∧c.low≤2
 high:c.low≤c.high∧c.high≤c.low+44
 wid:c.widths∈wTab
theorem DrM.measE {n:Nat} {c:Col} (h:DrM n c):measE c=0:=by
 have hl:=h.low;have hh:=h.high;have hw:=h.wid;have h1:inB c.low (-1000000) 1000000=true:=by simp only[inB,Bq,AZ];omega
 have h2:inB c.high (-1000000) 1000000=true:=by simp only[inB,Bq,AZ];omega
 have h3:1≤c.widths.length∧c.widths.length≤4∧jx2 c.widths=true:=by
  simp only[wTab,Ck,List.not_mem_nil,or_false] at hw;rcases hw with hw | hw | hw | hw <;> rw[hw] <;> decide
 rw[_root_.Go.Proofs.measE,Aq (by rw[h1,h2];simp;omega),Aq oM,Aq (by rw[h3.2.2];simp)]
structure DrS (s:Sch):Prop where
 ls:∃ a b,s.lists=[a,b]∧DrL zo1 a∧DrL zo2 b
 cs:∃ ms,(s.cols=whoC::sexC::ms∧(∀ i (h:i<ms.length),DrM (2+i) ms[i])∨s.cols=whoC::sexC::jobC::ms∧∀ i (h:i<ms.length),DrM (3+i) ms[i])∧1≤ms.length∧ms.length≤3
theorem jY8:∀ n:Nat,n<10→jr ⟨#[109,dgt n]⟩=true:=by
 have:∀ n:Fin 10,jr ⟨#[109,dgt n.1]⟩=true:=by decide +kernel
 exact fun n h=>this ⟨n,h⟩
theorem jY9:∀ i j:Nat,i<10→j<10→i≠j→eqB ⟨#[109,dgt i]⟩ ⟨#[109,dgt j]⟩=false:=by
 have:∀ i j:Fin 10,i.1≠j.1→eqB ⟨#[109,dgt i.1]⟩ ⟨#[109,dgt j.1]⟩=false:=by decide +kernel
 exact fun i j hi hj h=>this ⟨i,hi⟩ ⟨j,hj⟩ h
theorem jT8:∀ j:Nat,j<10→eqB whoC.name ⟨#[109,dgt j]⟩=false∧eqB sexC.name ⟨#[109,dgt j]⟩=false∧eqB jobC.name ⟨#[109,dgt j]⟩=false:=by
 have:∀ j:Fin 10,eqB whoC.name ⟨#[109,dgt j.1]⟩=false∧eqB sexC.name ⟨#[109,dgt j.1]⟩=false∧eqB jobC.name ⟨#[109,dgt j.1]⟩=false:=by decide +kernel
 exact fun j hj=>this ⟨j,hj⟩
theorem jM2 {s:Sch} {a b:CodL} (h:s.lists=[a,b]) (ha:DrL zo1 a) (hb:DrL zo2 b):kE s s.lists.length=0:=by
 have e1:kE s 1=0:=by
  rw[kE,kE,Aq sMp,h];show (if lstE a≠0 then lstE a else _)=0;rw[Aq (by rw[ha.ok];simp)]
  rfl
 rw[h];show kE s 2=0;rw[kE,e1,Aq sMp,h];show (if lstE b≠0 then lstE b else if ([a].any fun x=>eqB x.name b.name)=true then (10:Int) else 0)=0;rw[Aq (by rw[hb.ok];simp),Aq];simp only[List.any_cons,List.any_nil,Bool.or_false,ha.nm,hb.nm];rw[show eqB zo1 zo2=false by decide +kernel];simp
theorem qd5:jr whoC.name=true∧jr sexC.name=true∧jr jobC.name=true∧eqB whoC.name sexC.name=false∧eqB whoC.name jobC.name=false∧eqB sexC.name jobC.name=false∧eqB zo1 zo2=false:=by decide +kernel
theorem jM3 {s:Sch} {pre ms:List Col} (hl:s.lists.length=2) (hc:s.cols=pre++ms) (hp:pre=[whoC,sexC]∨pre=[whoC,sexC,jobC]) (hm:∀ i (h:i<ms.length),DrM (pre.length+i) ms[i]) (hn:ms.length≤3):ZN s s.cols.length=0:=by
 refine zK4 fun i hi=>?_;by_cases h:i<pre.length
 ·have ha:qj s i=pre[i]:=by
   rw[qj,hc,CY,BK h,CK h];rfl
  have ht:s.cols.take i=pre.take i:=by rw[hc,List.take_append_of_le_length oM]
  rcases hp with hp | hp
  ·subst hp;have h2:i=0∨i=1:=by simp at h;omega
   rcases h2 with h2 | h2 <;> subst h2
   ·exact jk4 (by rw[ha];exact qd5.1) (by rw[ha];rfl) (by rw[ha];exact⟨rfl,rfl,rfl,rfl,rfl⟩)
   ·exact qz1 (by rw[ha];exact qd5.2.1) (by rw[ha,ht];show (eqB whoC.name sexC.name||false)=false;rw[qd5.2.2.2.1];rfl) (by rw[ha];rfl) (by rw[ha,hl];rfl) (by rw[ha];exact⟨rfl,rfl,rfl,rfl⟩)
  ·subst hp;have h2:i=0∨i=1∨i=2:=by simp at h;omega
   rcases h2 with h2 | h2 | h2 <;> subst h2
   ·exact jk4 (by rw[ha];exact qd5.1) (by rw[ha];rfl) (by rw[ha];exact⟨rfl,rfl,rfl,rfl,rfl⟩)
   ·exact qz1 (by rw[ha];exact qd5.2.1) (by rw[ha,ht];show (eqB whoC.name sexC.name||false)=false;rw[qd5.2.2.2.1];rfl) (by rw[ha];rfl) (by rw[ha,hl];rfl) (by rw[ha];exact⟨rfl,rfl,rfl,rfl⟩)
   ·exact qz1 (by rw[ha];exact qd5.2.2.1) (by rw[ha,ht];show (eqB whoC.name jobC.name||(eqB sexC.name jobC.name||false))=false;rw[qd5.2.2.2.2.1,qd5.2.2.2.2.2.1];rfl) (by rw[ha];rfl) (by rw[ha,hl];rfl) (by rw[ha];exact⟨rfl,rfl,rfl,rfl⟩)
 ·have hi2:i-pre.length<ms.length:=by rw[hc,AW] at hi;omega
  have hpl:pre.length≤3:=by rcases hp with hp | hp <;> subst hp <;> simp
  have ha:qj s i=ms[i-pre.length]:=by
   rw[qj,hc,CY,BJ oM,CK hi2];rfl
  have d:=hm _ hi2;rw[show pre.length+(i-pre.length)=i by omega] at d;refine jk3 (by rw[ha,d.nm];exact jY8 i oM) ?_ (by rw[ha];exact d.kind) (by rw[ha];exact d.list) (by rw[ha];exact d.measE);rw[ha,d.nm,hc,List.any_eq_false];intro x hx;rw[List.take_append] at hx;rcases Dz.1 hx with hx | hx
  ·have hx:=EX hx;have hf:=jT8 i oM;have:x=whoC∨x=sexC∨x=jobC:=by
    rcases hp with hp | hp <;> subst hp <;> simp at hx <;> rcases hx with h | h | h <;> simp [h]
   rcases this with h | h | h <;> subst h <;> simp [hf.1,hf.2.1,hf.2.2]
  ·obtain⟨j,hj,rfl⟩:=List.mem_take_iff_getElem.1 hx;have dj:=hm j oM;rw[dj.nm,jY9 (pre.length+j) i oM oM oM];simp
theorem DrS.ok {s:Sch} (h:DrS s):schE s=0:=by
 obtain⟨a,b,hl,ha,hb⟩:=h.ls;obtain⟨ms,hc,hm1,hm3⟩:=h.cs;have h2:s.lists.length=2:=by rw[hl];rfl
 have key:∀ pre:List Col,(pre=[whoC,sexC]∨pre=[whoC,sexC,jobC])→s.cols=pre++ms→(∀ i (h:i<ms.length),DrM (pre.length+i) ms[i])→schE s=0:=by
  intro pre hp hc hd;have hpl:2≤pre.length∧pre.length≤3:=by rcases hp with hp | hp <;> subst hp <;> simp
  have h0:(qj s 0).kind=1:=by
   rw[qj,hc];rcases hp with hp | hp <;> subst hp <;> rfl
  rw[schE,Aq (by rw[h2,hc,AW];omega),Aq (by rw[jM2 hl ha hb];simp),Aq (by rw[hc,AW];omega)];exact jM3 h2 hc hp hd hm3
 rcases hc with⟨hc,hd⟩ | ⟨hc,hd⟩
 ·exact key [whoC,sexC] (.inl rfl) hc hd
 ·exact key [whoC,sexC,jobC] (.inr rfl) hc hd
theorem qZ5 {l:CodL} (h:lstE l=0) {lev v:Int}:v∈atL l lev↔∃ i:Nat,i<l.codes.length∧(dep l.codes i:Int)=lev∧v=(i:Int):=by
 rw[atL,Aq (by rw[h];simp)];simp only[Cj,Fz,Dk,AY];constructor
 ·rintro ⟨i,⟨h1,h2⟩,rfl⟩;exact⟨i,h1,h2,rfl⟩
 ·rintro ⟨i,h1,h2,rfl⟩;exact⟨i,⟨h1,h2⟩,rfl⟩
theorem qq8 {l:CodL} (h:lstE l=0):zA l-1=(dep l.codes (l.codes.length-1):Int):=by
 rw[zA,Aq (by rw[h];simp)];omega
theorem zo3 {l:CodL} (h:lstE l=0):0<(atL l (zA l-1)).length:=by
 obtain⟨_,h1,_⟩:=ze h;have:((l.codes.length-1:Nat):Int)∈atL l (zA l-1):=(qZ5 h).2 ⟨l.codes.length-1,oM,(qq8 h).symm,rfl⟩;exact List.length_pos_of_mem this
theorem qZ6 (l:CodL) (lev:Int):(atL l lev).length≤l.codes.length:=by
 unfold atL;split
 ·simp
 ·rw[BY];refine FZ (Fx _ _) ?_;simp
theorem Wl {s:Sch} {i:Nat} (hk:(qj s i).kind=2) (hl:lstE (qK s i)=0) {v:Int} (hv:v∈qA s i):qS s i v=true:=by
 obtain⟨j,h1,h2,rfl⟩:=(qZ5 hl).1 hv;rw[qS,Aq (by rw[hk];decide),Aj hk,Bq];refine⟨by simp only[inB,Bq,AZ];omega,?_⟩;rw[AY,lvlC,Aq (by rw[hl];omega),Ax,h2]
theorem jk5 {s:Sch} {row:List Int} (hs:schE s=0) (hl:row.length=s.cols.length) (h:∀ i,i<row.length→qS s i (row.getD i 0)=true):rowE s row=0:=by
 rw[rowE,Aq (by rw[hs];simp),Aq (by rw[hl];simp),Aq];rw[Ez,Bk];intro i hi;exact h i (Dk.1 hi)
theorem wA {s:Sch} {row:List Int} (h:rowE s row=0):schE s=0∧row.length=s.cols.length∧∀ i,i<row.length→qS s i (row.getD i 0)=true:=by
 unfold rowE at h;split at h
 ·rename_i h1;exact absurd h h1
 ·split at h
  ·cases h
  ·split at h
   ·cases h
   ·rename_i h1 h2 h3;rw[Ez,Bk] at h3;exact⟨AQ h1,oM,fun i hi=>h3 i (Dk.2 hi)⟩
theorem zo4 {s:Sch}:∀ {n:Nat},ZN s n=0→∀ i,i<n→colE s i=0
 | 0,_,i,h=>by omega
 | n+1,h,i,hi=>by
   rw[ZN] at h;split at h
   ·rename_i h2;exact absurd h h2
   ·rename_i h2;by_cases e:i=n
    ·rw[e];exact h
    ·exact zo4 (AQ h2) i oM
theorem zo5 {s:Sch}:∀ {n:Nat},kE s n=0→∀ i,i<n→lstE (s.lists.getD i default)=0
 | 0,_,i,h=>by omega
 | n+1,h,i,hi=>by
   rw[kE] at h;split at h
   ·rename_i h2;exact absurd h h2
   ·rename_i h2;split at h
    ·rename_i h3;exact absurd h h3
    ·rename_i h3;by_cases e:i=n
     ·rw[e];exact AQ h3
     ·exact zo5 (AQ h2) i oM
structure SchOk (s:Sch):Prop where
 nl:s.lists.length≤6
 nc:1≤s.cols.length∧s.cols.length≤8
 ls:∀ i,i<s.lists.length→lstE (s.lists.getD i default)=0
 c0:(qj s 0).kind=1
 cs:∀ i,i<s.cols.length→colE s i=0
theorem qO {s:Sch} (h:schE s=0):SchOk s:=by
 unfold schE at h;split at h
 ·cases h
 ·split at h
  ·rename_i h2;exact absurd h h2
  ·split at h
   ·cases h
   ·rename_i h1 h2 h3;refine⟨oM,oM,zo5 (AQ h2),?_,zo4 h⟩;exact AQ fun e=>h3 (.inr e)
theorem zo {s:Sch} {i:Nat} (h:colE s i=0):1≤(qj s i).kind∧(qj s i).kind≤3∧(0<i→(qj s i).kind≠1)∧((qj s i).kind=2→0≤(qj s i).list∧(qj s i).list<s.lists.length)∧((qj s i).kind=3→measE (qj s i)=0):=by
 unfold colE at h;split at h
 ·cases h
 ·split at h
  ·cases h
  ·split at h
   ·cases h
   ·split at h
    ·cases h
    ·rename_i h1 h2 h3 h4;have hk:inB (qj s i).kind 1 3=true:=by
      cases e:inB (qj s i).kind 1 3 with
      | true=>rfl
      | false=>exact absurd (.inl e) h3
     simp only[inB,Bq,AZ] at hk;refine⟨hk.1,hk.2,fun h0 e=>h3 (.inr ⟨h0,e⟩),fun e=>?_,fun e=>?_⟩
     ·have:inB (qj s i).list 0 (s.lists.length-1)=true:=by
       cases e2:inB (qj s i).list 0 (s.lists.length-1) with
       | true=>rfl
       | false=>exact absurd ⟨e,e2⟩ h4
      simp only[inB,Bq,AZ] at this;omega
     ·split at h
      ·rename_i h5;exact absurd h h5.2
      ·rename_i h5;exact AQ fun e2=>h5 ⟨e,e2⟩
theorem SchOk.cdl {s:Sch} (h:SchOk s) {i:Nat} (hi:i<s.cols.length) (hk:(qj s i).kind=2):(qj s i).list.toNat<s.lists.length∧lstE (qK s i)=0:=by
 have h1:=(zo (h.cs i hi)).2.2.2.1 hk;exact⟨oM,h.ls _ oM⟩
theorem jL (l:CodL) (c:Nat) (hp:qi6 l.codes) (hc:c<l.codes.length) (hl:l.codes.length≤1000):Sp 88 [cdlT l,vI c] [] (vI (dep l.codes c)) []:=by
 refine sIr qG8 fun e _ hst=>?_;unfold Zc;refine sW ?_;refine qt mixm (α:=Nat×Nat) [1,5] (fun x=>x.1<l.codes.length∧dep l.codes c=x.2+dep l.codes x.1∧x.2+x.1≤1000) (fun x=>[(1,vI x.1),(5,vI x.2)]) (fun x=>[aR 4096 2 [cdlT l]]) (fun x=>x.1) (c,0) ⟨hc,sMp,by simp;omega⟩ ?_ fun x hx=>?_
 ·exact .oA (U1 4096) []
 obtain⟨k,n⟩:=x;obtain⟨h1,h2,h3⟩:=hx;dsimp only at h1 h2 h3;have hpk:=hp k h1;have hcd:l.codes[k].par=parC l.codes k:=by rw[parC,cdAt,qg h1]
 have hwn:=qh (i:=n) oM;simp only[tZ,↓uU,simprocAttr,Ax,qd h1,hcd,tD,hwn];refine⟨oM,fun h4=>?_,fun h4=>?_⟩
 ·obtain⟨p,hpe⟩:=AJ h4;rw[YC hp h1 oM,hpe,Ax] at h2;rw[hpe] at hpk ⊢
  refine⟨oM,(p,n+1),⟨by dsimp only;omega,by dsimp only;omega,by dsimp only;omega⟩,by dsimp only;omega,?_⟩;exact .oA (U1 4096) []
 ·rw[qd4 (c:=k) oM,Nat.add_zero] at h2;rw[h2];exact .oA [] []
def zR9 (l:CodL) (c:Int):Bool:=!(l.codes.any fun x=>x.par==c)
theorem zo6 (l:CodL) (c:Int) (hl:l.codes.length≤1000):Sp 144 [cdlT l,vI c] [] (vB (zR9 l c)) []:=by
 refine sIr qX5 fun e _ hst=>?_;unfold Jw;refine sW ?_;refine qt mixm (α:=Nat) [5] (fun i=>i≤l.codes.length∧(l.codes.take i).any (fun x=>x.par==c)=false) (fun i=>[(5,vI i)]) (fun i=>[aR 4096 2 [cdlT l]]) (fun i=>l.codes.length-i) 0 ⟨oM,rfl⟩ ?_ fun i hi=>?_
 ·exact .oA (U1 4096) []
 obtain⟨h1,h2⟩:=hi;refine sD ?_;refine⟨fun h3=>?_,fun h3=>?_⟩
 ·have hi2:i<l.codes.length:=by omega
  have hwi:=qh (i:=i) oM;simp only[tZ,↓uU,simprocAttr,Ax,qd hi2,hwi];refine⟨oM,fun h4=>?_,fun h4=>?_⟩
  ·have:zR9 l c=false:=by
    unfold zR9;rw[DJ.2 ⟨_,AX hi2,h4⟩];rfl
   rw[this];exact .oA [] []
  ·refine⟨i+1,⟨oM,zV hi2 h2 h4⟩,oM,?_⟩;exact .oA (U1 4096) []
 ·have hil:i=l.codes.length:=by omega
  subst hil;rw[Bw] at h2;have:zR9 l c=true:=by unfold zR9;rw[h2];rfl
  rw[this];exact .oA [] []
end Go.Proofs
