/- A part of the proof: trees of Go values, short forms, contracts. -/
import Derived.Test.YtomoecbcgacncaaGreatDoorK14
namespace Go.Proofs
open Go Go.TL
theorem mid {K G:Prop} (main:K→G) (rest:K):G:=main rest
abbrev Sp (f:FuncId) (ts:List T) (s:Sto) (r:T) (s':Sto):Prop:=Spc (Tryz.prog) f ts s r s'
abbrev aR (i k:Nat) (l:List T):Nat×Ob:=(i,.arr k l false)
abbrev U1 (a:Nat):Ren:=[(a,some a)]
abbrev U2 (a b:Nat):Ren:=[(a,some a),(b,some b)]
abbrev U3 (a b c:Nat):Ren:=[(a,some a),(b,some b),(c,some c)]
abbrev U4 (a b c d:Nat):Ren:=[(a,some a),(b,some b),(c,some c),(d,some d)]
abbrev U5 (a b c d e:Nat):Ren:=[(a,some a),(b,some b),(c,some c),(d,some d),(e,some e)]
abbrev uI (a:Nat):Nat×Option Nat:=(a,some a)
theorem mixm:Tryz.prog.follows .mixedOrders=true:=by kernel_rfl
theorem sIr {f:FuncId} {n:Nat} {kss:List (Nat×List Nat)} {rc:RC} {rs:List RR} (h:FnIR Tryz.prog f n kss rc rs) {ts:List T} {st st':Sto} {r:T} (hw:∀ e:Env,e.n=n→e.st0=st→W Tryz.prog e kss (endR st rs r st') rc [] (kh 0 ts) st) (hn:ts.length≤n:=by simp) (hnm:noMp st=true:=by rfl):Sp f ts st r st':=qX7 h mixm hn (fun e he hst=>QR (hw e he hst)) hnm
theorem kD (l:List UInt8):Sp 5 [vL l] [] (.ptr 0 1 0 0) [(0,oC (l.take 400) 0)]:=by
 refine sIr qH5 fun e _ hst=>?_;unfold JX;obtain⟨m,hm,hm2⟩:∃ m:Nat,minI (l.length:Int) 400=m∧m≤l.length∧l.take m=l.take 400:=by
  unfold minI;split
  ·exact⟨400,rfl,oM,rfl⟩
  ·exact⟨l.length,rfl,oM,by rw[Bw,List.take_of_length_le oM]⟩
 simp only[tZ,↓uU,simprocAttr,hm,qa3,qR2,hm2];refine⟨oM,.of [(0,some 8216)] [] rfl rfl ?_ ?_⟩
 ·simp only[tL,simprocAttr];exact za ⟨rfl,rfl,rfl,rfl,trivial⟩ zl
 ·simp only[tL,simprocAttr]
theorem zK (l:List UInt8) (at_:Nat) (n:Int) (hl:l.length≤400) (ha:at_≤l.length) (hn:n≤1000000):Sp 19 [.ptr 0 1 0 0,vI n] [(0,oC l at_)] (vI (nx l at_ n).1) [(0,oC l (nx l at_ n).2)]:=by
 refine sIr KK fun e _ hst=>?_;unfold kQ;simp only[tZ,↓uU,simprocAttr,Dy,FX,AZ,Ay];refine⟨kR,fun h1=>?_,fun h1=>?_⟩
 ·have e:nx l at_ n=(0,at_):=by unfold nx;rw[Aj oM]
  rw[e];refine .of (U1 0) [] rfl rfl ?_ ?_
  ·simp only[tL,simprocAttr];exact za ⟨rfl,rfl,rfl,rfl,trivial⟩ zl
  ·simp only[tL,simprocAttr]
 ·have h2:at_<l.length:=by omega
  have hw1:IntKind.i64.wrap ((at_:Int)+1)=((at_+1:Nat):Int):=by rw[AK _ oM];omega
  have hw2:IntKind.i64.wrap (((at_+1:Nat):Int)-1)=(at_:Int):=by rw[AK _ oM];omega
  simp only[tZ,↓uU,simprocAttr,hw1,hw2,Ax,ql1 h2];refine⟨oM,kR,kR,fun h3=>?_,fun h3=>?_⟩
  ·simp only[Bq,AZ] at h3;have h4:at_+1<l.length:=by omega
   have hb:=qG3 (l.getD at_ 0);have hb2:=qG3 (l.getD (at_+1) 0);have e:nx l at_ n=(((l.getD at_ 0).toNat*256+(l.getD (at_+1) 0).toNat) % n,at_+2):=by
    unfold nx;rw[Aq oM,Aj oM]
   have hw3:IntKind.i64.wrap (((at_+1:Nat):Int)+1)=((at_+2:Nat):Int):=by rw[AK _ oM];omega
   have hv1:IntKind.i64.wrap ((l.getD at_ 0).toNat:Int)=(l.getD at_ 0).toNat:=AK _ oM;have hv2:IntKind.i64.wrap ((l.getD (at_+1) 0).toNat:Int)=(l.getD (at_+1) 0).toNat:=AK _ oM;have hv3:IntKind.i64.wrap (((l.getD at_ 0).toNat:Int)*256)=(l.getD at_ 0).toNat*256:=AK _ oM;have hv4:IntKind.i64.wrap (((l.getD at_ 0).toNat:Int)*256+(l.getD (at_+1) 0).toNat)=(l.getD at_ 0).toNat*256+(l.getD (at_+1) 0).toNat:=AK _ oM;simp only[tZ,↓uU,simprocAttr,hw3,Ax,ql1 h4,hv1,hv2,hv3,hv4];rw[e,Int.tmod_eq_emod_of_nonneg oM];refine⟨oM,kR,oM,.of (U1 0) [] rfl rfl ?_ ?_⟩
   ·simp only[tL,simprocAttr];exact za ⟨rfl,rfl,rfl,rfl,trivial⟩ zl
   ·simp only[tL,simprocAttr]
  ·have e:nx l at_ n=((l.getD at_ 0).toNat % n,at_+1):=by
    unfold nx;rw[Aq oM,Aq];simp only[FJ,Ay] at h3;omega
   have hb:=qG3 (l.getD at_ 0);rw[e,AK _ oM,Int.tmod_eq_emod_of_nonneg oM];refine⟨oM,.of (U1 0) [] rfl rfl ?_ ?_⟩
   ·simp only[tL,simprocAttr];exact za ⟨rfl,rfl,rfl,rfl,trivial⟩ zl
   ·simp only[tL,simprocAttr]
structure Cod where
 name:ByteArray
 par:Int
structure CodL where
 name:ByteArray
 codes:List Cod
structure Col where
 name:ByteArray
 kind:Int
 list:Int
 low:Int
 high:Int
 widths:List Int
 opt:Bool
structure Sch where
 lists:List CodL
 cols:List Col
structure Pk where
 col:Int
 lev:Int
inductive Cnd where
 | mk (op col code lo hi:Int) (kids:List Cnd)
structure Qst where
 name:ByteArray
 kind:Int
 filt:Cnd
 dims:List Pk
 meas:Int
 terms:List Int
 event:Cnd
structure Smp where
 part:Int
 of:Int
 seed:Int
structure Dcl where
 proj:ByteArray
 src:ByteArray
 coh:Cnd
 smp:Smp
 qs:List Qst
structure Src where
 sch:Sch
 rows:List (List Int)
 gone:List Int
 ver:Int
structure Edt where
 kind:Int
 row:List Int
 id:Int
structure Ext where
 proj:ByteArray
 ver:Int
 picks:List Pk
 rows:List (List Int)
structure Chg where
 ver:Int
 gone:List Int
 rows:List (List Int)
namespace Cnd
def op:Cnd→Int | .mk a _ _ _ _ _=>a
def col:Cnd→Int | .mk _ a _ _ _ _=>a
def code:Cnd→Int | .mk _ _ a _ _ _=>a
def lo:Cnd→Int | .mk _ _ _ a _ _=>a
def hi:Cnd→Int | .mk _ _ _ _ a _=>a
def kids:Cnd→List Cnd | .mk _ _ _ _ _ a=>a
end Cnd
abbrev cnd0:Cnd:=.mk 0 0 0 0 0 []
instance:Inhabited Cod:=⟨⟨⟨#[]⟩,0⟩⟩
instance:Inhabited CodL:=⟨⟨⟨#[]⟩,[]⟩⟩
instance:Inhabited Col:=⟨⟨⟨#[]⟩,0,0,0,0,[],false⟩⟩
instance:Inhabited Sch:=⟨⟨[],[]⟩⟩
instance:Inhabited Pk:=⟨⟨0,0⟩⟩
instance:Inhabited Cnd:=⟨cnd0⟩
instance:Inhabited Qst:=⟨⟨⟨#[]⟩,0,cnd0,[],0,[],cnd0⟩⟩
instance:Inhabited Edt:=⟨⟨0,[],0⟩⟩
abbrev codT (c:Cod):T:=.agg [vS c.name,vI c.par]
abbrev cdlT (l:CodL):T:=.agg [vS l.name,.sl 2 (l.codes.map codT)]
abbrev colT (c:Col):T:=.agg [vS c.name,vI c.kind,vI c.list,vI c.low,vI c.high,vIs c.widths,vB c.opt]
abbrev schT (s:Sch):T:=.agg [.sl 2 (s.lists.map cdlT),.sl 7 (s.cols.map colT)]
mutual
def cndT:Cnd→T
 | .mk op col code lo hi kids=>.agg [vI op,vI col,vI code,vI lo,vI hi,.sl 6 (zR1 kids)]
def zR1:List Cnd→List T
 | []=>[]
 | c::r=>cndT c::zR1 r
end
abbrev vRw (l:List (List Int)):T:=.sl 1 (l.map vIs)
abbrev srcT (s:Src):T:=.agg [.sl 2 (s.sch.lists.map cdlT),.sl 7 (s.sch.cols.map colT),vRw s.rows,vIs s.gone,vI s.ver]
abbrev edtT (e:Edt):T:=.agg [vI e.kind,vIs e.row,vI e.id]
def qd0 (c:UInt8):Bool:=(decide ((c.toNat:Int)<97)||decide ((c.toNat:Int)>122))&&(decide ((c.toNat:Int)<48)||decide ((c.toNat:Int)>57))&&!((c.toNat:Int)==95)
def qI2 (s:ByteArray):Bool:=decide ((s.size:Int)<1)||decide ((s.size:Int)>16)||decide (((s.data.toList.getD 0 0).toNat:Int)<97)||decide (((s.data.toList.getD 0 0).toNat:Int)>122)
def resW:List (List UInt8):=[[97,108,108],[97,110,100],[101,118,101,110,116],[102,114,111,109],[109,105,115,115,105,110,103],[110,111,116],[111,110],[111,114],[116,111],[117,110,100,101,114],[119,104,101,114,101]]
def kG (s:ByteArray):Bool:=!qI2 s&&!(s.data.toList.any qd0)&&!(resW.contains s.toList)
theorem Jc (s:ByteArray):Sp 82 [vS s] [] (vB (kG s)) []:=by
 have hsl:s.size=s.data.toList.length:=by rw[Array.length_toList];rfl
 refine sIr qq8 fun e _ hst=>?_;unfold Zf;refine sW ?_;refine⟨fun h=>?_,fun h=>?_,fun h=>?_,fun h=>?_⟩
 ·simp at h;omega
 ·simp at h;omega
 ·have:kG s=false:=by unfold kG qI2;rw[h];rfl
  rw[this];exact .oA [] []
 have hd:qI2 s=false:=h;have hs16:s.data.toList.length≤16:=by
  unfold qI2 at hd;simp only[FX,Ay] at hd;omega
 refine qy mixm (α:=Nat) [3] (fun i=>i≤s.data.toList.length∧((s.data.toList.take i).any qd0=false)) (fun i=>[(3,vI i)]) (fun i=>[]) (fun i=>s.data.toList.length-i) 0 ⟨oM,?_⟩ ?_ fun i hi=>?_
 ·rfl
 ·exact .oA [] []
 refine sD ?_;refine⟨fun h5=>?_,fun h5=>?_⟩
 ·have hi2:i<s.data.toList.length:=by omega
  have hwi:=qg (i:=i) oM;simp only[tZ,↓uU,simprocAttr,Ax,hwi,we];have hg:s.data.toList.getD i 0=s.data.toList[i]:=qt hi2;simp only[hg];refine⟨oM,?_⟩
  repeat (refine⟨fun _=>by omega,?_⟩)
  refine⟨fun h6=>?_,fun h6=>?_⟩
  ·have hb:qd0 s.data.toList[i]=true:=by
    simp only[Ak] at h6;generalize s.data.toList[i]=c at h6 ⊢
    unfold qd0;simp;omega
   have:kG s=false:=by
    unfold kG;rw[show s.data.toList.any qd0=true from DQ.2 ⟨_,AX hi2,hb⟩];simp
   rw[this];exact .oA [] []
  ·have hb:qd0 s.data.toList[i]=false:=by
    rw[← h6,Bool.eq_iff_iff];generalize s.data.toList[i]=c;unfold qd0;simp
    try omega
   refine⟨i+1,⟨oM,jz hi2 hi.2 hb⟩,oM,?_⟩;exact .oA [] []
 ·have h3:=hi.2;have:i=s.data.toList.length:=by omega
  rw[this,Bw] at h3;have hn:kG s=!(resW.contains s.toList):=by unfold kG;rw[hd,h3];rfl
  rw[hn];simp only[resW,List.contains_cons,List.contains_nil]
  repeat' (first | with_reducible apply Az | with_reducible intro _)
  all_goals first
   | (exfalso;simp_all;done)
   | (simp only[*,Bool.true_or,Bool.or_true,Bool.false_or,Bool.or_false,Bool.not_true,Bool.not_false];exact .imR rfl rfl)
abbrev cdAt (cs:List Cod) (i:Nat):Cod:=cs.getD i default
def parC (cs:List Cod) (i:Nat):Int:=(cdAt cs i).par
def depF (cs:List Cod):Nat→Nat→Nat
 | 0,_=>0
 | f+1,c=>if parC cs c<0 then 0 else depF cs f (parC cs c).toNat+1
def dep (cs:List Cod) (c:Nat):Nat:=depF cs (c+1) c
def qr1 (cs:List Cod):Prop:=∀ i,i<cs.length→-1≤parC cs i∧parC cs i<i
theorem zo6 {cs:List Cod} (h:qr1 cs):∀ (c f g:Nat),c<cs.length→c<f→c<g→depF cs f c=depF cs g c:=by
 intro c
 induction c using Nat.strongRecOn with
 | _ c ih=>
   intro f g hc hf hg;obtain⟨f,rfl⟩:∃ k,f=k+1:=⟨f-1,oM⟩;obtain⟨g,rfl⟩:∃ k,g=k+1:=⟨g-1,oM⟩;simp only[depF];have hp:=h c hc;split
   ·rfl
   ·rw[ih (parC cs c).toNat oM f g oM oM oM]
theorem KO {cs:List Cod} {c:Nat} (h:parC cs c<0):dep cs c=0:=by simp [dep,depF,h]
theorem qd1 {cs:List Cod} (h:qr1 cs) {c:Nat} (hc:c<cs.length) (h0:0≤parC cs c):dep cs c=dep cs (parC cs c).toNat+1:=by
 have hp:=h c hc;unfold dep;rw[depF,Aq oM,zo6 h _ c ((parC cs c).toNat+1) oM oM oM]
theorem zo7 {cs:List Cod} (h:qr1 cs):∀ c,c<cs.length→dep cs c≤c:=by
 intro c
 induction c using Nat.strongRecOn with
 | _ c ih=>
   intro hc;by_cases h0:parC cs c<0
   ·rw[KO h0];omega
   ·have hp:=h c hc;have:=ih (parC cs c).toNat oM oM;rw[qd1 h hc oM];omega
def KP (cs:List Cod) (c:Nat):Bool:=!(cs.any fun x=>x.par==(c:Int))
def eqB (a b:ByteArray):Bool:=a.toList==b.toList
def cdE (cs:List Cod) (i:Nat):Int:=
 if kG (cdAt cs i).name=false then 3
 else if ((cs.take i).any fun x=>eqB x.name (cdAt cs i).name)=true then 10
 else if (i=0∧parC cs i≠-1)∨(0<i∧(parC cs i<0∨parC cs i≥i)) then 6 else 0
def cdEs (cs:List Cod):Nat→Int
 | 0=>0
 | n+1=>if cdEs cs n≠0 then cdEs cs n else cdE cs n
def lvS (cs:List Cod) (o:Option Int) (i:Nat):Option Int:=match o with
 | none=>none
 | some v=>if KP cs i=true then (if v≥0∧(dep cs i:Int)≠v then none else some (dep cs i)) else some v
def lvs (cs:List Cod) (n:Nat):Option Int:=(List.range n).foldl (lvS cs) (some (-1))
def lstE (l:CodL):Int:=
 if kG l.name=false then 3 else if l.codes.length=0 then 5 else if l.codes.length>60 then 1
 else if cdEs l.codes l.codes.length≠0 then cdEs l.codes l.codes.length else match lvs l.codes l.codes.length with | none=>5 | some _=>0
theorem ql9 {cs:List Cod} {i:Nat} (h:cdEs cs i≠0):∀ n,i≤n→cdEs cs n=cdEs cs i:=by
 intro n hn
 induction n with
 | zero=>have:i=0:=by omega
         rw[this]
 | succ n ih=>
   by_cases e:i=n+1
   ·rw[e]
   ·have:=ih oM;rw[cdEs,this,Aj h]
theorem KQ {cs:List Cod}:∀ {n:Nat},cdEs cs n=0→∀ i,i<n→cdE cs i=0
 | 0,_,i,h=>by omega
 | n+1,h,i,hi=>by
   rw[cdEs] at h;split at h
   ·rename_i h2;exact absurd h h2
   ·rename_i h2;by_cases e:i=n
    ·rw[e];exact h
    ·exact KQ (AQ h2) i oM
theorem qr2 {cs:List Cod} {i:Nat} (h:cdE cs i=0) : -1≤parC cs i∧parC cs i<i∧(i=0→parC cs i = -1)∧(0<i→0≤parC cs i):=by
 unfold cdE at h;split at h
 ·cases h
 ·split at h
  ·cases h
  ·split at h
   ·cases h
   ·rename_i h1;omega
theorem kf {l:CodL} (h:lstE l=0):qr1 l.codes∧0<l.codes.length∧l.codes.length≤60:=by
 unfold lstE at h;split at h
 ·cases h
 ·split at h
  ·cases h
  ·split at h
   ·cases h
   ·split at h
    ·rename_i h2;exact absurd h h2
    ·rename_i h1 h2 h3 h4;refine⟨fun i hi=>?_,oM,oM⟩;have:=qr2 (KQ (AQ h4) i hi);exact⟨this.1,this.2.1⟩
def wa (l:CodL):Int:=if lstE l≠0 then -1 else (dep l.codes (l.codes.length-1):Int)+1
def lvlC (l:CodL) (c:Int):Int:=if lstE l≠0∨c<0∨c≥l.codes.length then -1 else dep l.codes c.toNat
def upF (cs:List Cod) (lev:Nat):Nat→Nat→Nat
 | 0,c=>c
 | f+1,c=>if lev<dep cs c then upF cs lev f (parC cs c).toNat else c
def upC (l:CodL) (c lev:Int):Int:=if lstE l≠0∨c<0∨c≥l.codes.length∨lev<0∨lev>dep l.codes c.toNat then -1 else upF l.codes lev.toNat (c.toNat+1) c.toNat
def atL (l:CodL) (lev:Int):List Int:=if lstE l≠0 then [] else List.map (fun i:Nat=>(i:Int)) ((List.range l.codes.length).filter fun i=>(dep l.codes i:Int)==lev)
def zR2 (l:CodL) (c above:Int):Bool:=decide (0≤lvlC l above)&&decide (lvlC l above≤lvlC l c)&&(upC l c (lvlC l above)==above)
theorem yl (l:CodL) (c:Nat) (hp:qr1 l.codes) (hc:c<l.codes.length) (hl:l.codes.length≤1000):Sp 84 [cdlT l,vI c] [] (vI (dep l.codes c)) []:=by
 refine sIr qh5 fun e _ hst=>?_;unfold Qs;refine sW ?_;refine qy mixm (α:=Nat×Nat) [1,5] (fun x=>x.1<l.codes.length∧dep l.codes c=x.2+dep l.codes x.1∧x.2+x.1≤1000) (fun x=>[(1,vI x.1),(5,vI x.2)]) (fun x=>[aR 4096 2 [cdlT l]]) (fun x=>x.1) (c,0) ⟨hc,sMp,by simp;omega⟩ ?_ fun x hx=>?_
 ·exact .oA (U1 4096) []
 obtain⟨k,n⟩:=x;obtain⟨h1,h2,h3⟩:=hx;dsimp only at h1 h2 h3;have hpk:=hp k h1;have hcd:l.codes[k].par=parC l.codes k:=by rw[parC,cdAt,qt h1]
 have hwn:=qg (i:=n) oM;simp only[tZ,↓uU,simprocAttr,Ax,qd h1,hcd,tD,hwn];refine⟨oM,fun h4=>?_,fun h4=>?_⟩
 ·obtain⟨p,hpe⟩:=AJ h4;rw[qd1 hp h1 oM,hpe,Ax] at h2;rw[hpe] at hpk ⊢
  refine⟨oM,(p,n+1),⟨by dsimp only;omega,by dsimp only;omega,by dsimp only;omega⟩,by dsimp only;omega,?_⟩;exact .oA (U1 4096) []
 ·rw[KO (c:=k) oM,Nat.add_zero] at h2;rw[h2];exact .oA [] []
def qY3 (l:CodL) (c:Int):Bool:=!(l.codes.any fun x=>x.par==c)
theorem qC1 (l:CodL) (c:Int) (hl:l.codes.length≤1000):Sp 83 [cdlT l,vI c] [] (vB (qY3 l c)) []:=by
 refine sIr qr0 fun e _ hst=>?_;unfold Zg;refine sW ?_;refine qy mixm (α:=Nat) [5] (fun i=>i≤l.codes.length∧(l.codes.take i).any (fun x=>x.par==c)=false) (fun i=>[(5,vI i)]) (fun i=>[aR 4096 2 [cdlT l]]) (fun i=>l.codes.length-i) 0 ⟨oM,rfl⟩ ?_ fun i hi=>?_
 ·exact .oA (U1 4096) []
 obtain⟨h1,h2⟩:=hi;refine sD ?_;refine⟨fun h3=>?_,fun h3=>?_⟩
 ·have hi2:i<l.codes.length:=by omega
  have hwi:=qg (i:=i) oM;simp only[tZ,↓uU,simprocAttr,Ax,qd hi2,hwi];refine⟨oM,fun h4=>?_,fun h4=>?_⟩
  ·have:qY3 l c=false:=by
    unfold qY3;rw[DQ.2 ⟨_,AX hi2,h4⟩];rfl
   rw[this];exact .oA [] []
  ·refine⟨i+1,⟨oM,jz hi2 h2 h4⟩,oM,?_⟩;exact .oA (U1 4096) []
 ·have hil:i=l.codes.length:=by omega
  subst hil;rw[Bw] at h2;have:qY3 l c=true:=by unfold qY3;rw[h2];rfl
  rw[this];exact .oA [] []
theorem Yt (cs:List Cod) (n:Nat):lvs cs (n+1)=lvS cs (lvs cs n) n:=by
 unfold lvs;rw[List.range_succ,Gx]
 rfl
theorem qS9 {cs:List Cod} {n:Nat} (h:lvs cs n=none):∀ m,n≤m→lvs cs m=none:=by
 intro m hm
 induction m with
 | zero=>have:n=0:=by omega
         rw[← this];exact h
 | succ m ih=>
   by_cases e:n=m+1
   ·rw[← e];exact h
   ·rw[Yt,ih oM];rfl
theorem zG8 {cs:List Cod} (h:cdEs cs cs.length=0):qr1 cs:=fun i hi=>by
 have:=qr2 (KQ h i hi);exact⟨this.1,this.2.1⟩
theorem ym (l:CodL) (hl:l.codes.length<4611686018427387904):Sp 52 [cdlT l] [] (vI (lstE l)) []:=by
 refine sIr qh1 fun e _ hst=>?_;unfold Qq;refine sW ?_;refine C1.im (Jc l.name) rF rF ?_;simp only[tZ,↓uU,simprocAttr,Bx,Bz];refine⟨fun h=>?_,fun h1=>?_⟩
 ·rw[lstE,Aj h];exact .oA [] []
 simp only[tZ,↓uU,simprocAttr,AY,Ak];refine⟨fun h=>?_,fun h2=>?_⟩
 ·rw[lstE,Aq (by rw[h1];simp),Aj oM];exact .oA [] []
 refine sD ?_;refine⟨fun h=>?_,fun h3=>?_⟩
 ·rw[lstE,Aq (by rw[h1];simp),Aq oM,Aj oM];exact .oA [] []
 have hE1:cdEs l.codes l.codes.length≠0→lstE l=cdEs l.codes l.codes.length:=fun h=>by
  rw[lstE,Aq (by rw[h1];simp),Aq oM,Aq oM,Aj h]
 have hE2:cdEs l.codes l.codes.length=0→lvs l.codes l.codes.length=none→lstE l=5:=fun h k=>by
  rw[lstE,Aq (by rw[h1];simp),Aq oM,Aq oM,Aq (by rw[h];simp),k]
 have hE3:∀ v,cdEs l.codes l.codes.length=0→lvs l.codes l.codes.length=some v→lstE l=0:=fun v h k=>by
  rw[lstE,Aq (by rw[h1];simp),Aq oM,Aq oM,Aq (by rw[h];simp),k]
 refine qy mixm (α:=Nat) [3] (fun i=>i≤l.codes.length∧cdEs l.codes i=0) (fun i=>[(3,vI i)]) (fun i=>[aR 4096 2 [cdlT l]]) (fun i=>l.codes.length-i) 0 ⟨oM,rfl⟩ ?_ fun i hi=>?_
 ·exact .oA (U1 4096) []
 obtain⟨i1,i2⟩:=hi;refine sD ?_;refine⟨fun h4=>?_,fun h4=>?_⟩
 ·have hi2:i<l.codes.length:=by omega
  have hwi:=qg (i:=i) oM;have hat:cdAt l.codes i=l.codes[i]:=by rw[cdAt,qt hi2]
  have hs:cdEs l.codes (i+1)=cdE l.codes i:=by rw[cdEs,Aq (by rw[i2];simp)]
  have hbad:cdE l.codes i≠0→lstE l=cdE l.codes i:=fun hb=>by
   have:=ql9 (by rw[hs];exact hb) l.codes.length (show i+1≤l.codes.length by omega);rw[hE1 (by rw[this,hs];exact hb),this,hs]
  simp only[tZ,↓uU,simprocAttr,Ax,qd hi2];refine⟨oM,?_⟩;refine C1.im (Jc l.codes[i].name) rF rF ?_;simp only[tZ,↓uU,simprocAttr,Bx,Bz];refine⟨fun h5=>?_,fun h5=>?_⟩
  ·have hc:cdE l.codes i=3:=by rw[cdE,hat,Aj h5]
   rw[hbad (by rw[hc];decide),hc];exact .oA [] []
  refine qy mixm (α:=Nat) [4] (fun k=>k≤i∧(l.codes.take k).any (fun x=>eqB x.name l.codes[i].name)=false) (fun k=>[(4,vI k)]) (fun k=>[aR 4096 2 [cdlT l]]) (fun k=>i-k) 0 ⟨oM,rfl⟩ ?_ fun k hk=>?_
  ·exact .oA (U1 4096) []
  obtain⟨k1,k2⟩:=hk;refine sD ?_;refine⟨fun h6=>?_,fun h6=>?_⟩
  ·have hk2:k<l.codes.length:=by omega
   have hwk:=qg (i:=k) oM;simp only[tZ,↓uU,simprocAttr,Ax,qd hi2,qd hk2,hwk];refine⟨oM,oM,kR,fun h7=>?_,fun h7=>?_⟩
   ·have hc:cdE l.codes i=10:=by
     rw[cdE,hat,Aq (by rw[h5];simp),Aj (DQ.2 ⟨l.codes[k],List.mem_take_iff_getElem.2 ⟨k,oM,rfl⟩,h7⟩)]
    rw[hbad (by rw[hc];decide),hc];exact .oA [] []
   ·refine⟨k+1,⟨oM,jz hk2 k2 h7⟩,oM,?_⟩;exact .oA (U1 4096) []
  ·have hki:k=i:=by omega
   subst hki;have hpar:l.codes[k].par=parC l.codes k:=by rw[parC,hat]
   have hcE:cdE l.codes k=if (k=0∧parC l.codes k≠-1)∨(0<k∧(parC l.codes k<0∨parC l.codes k≥k)) then 6 else 0:=by
    rw[cdE,hat,Aq (by rw[h5];simp),Aq (by rw[k2];simp)]
   simp only[tZ,↓uU,simprocAttr,Ax,qd hi2,hpar,hwi,tD,AY,Ak,Bj,Aw];refine⟨oM,fun h7=>?_,fun h7=>?_⟩
   ·have hc:cdE l.codes k=6:=by rw[hcE,Aj oM]
    rw[hbad (by rw[hc];decide),hc];exact .oA [] []
   ·refine⟨k+1,⟨oM,by rw[hs,hcE,Aq oM]⟩,oM,?_⟩;exact .oA (U1 4096) []
 ·have hil:i=l.codes.length:=by omega
  subst hil;have hp:=zG8 i2;refine qy mixm (α:=Nat×Int) [6,7] (fun x=>x.1≤l.codes.length∧lvs l.codes x.1=some x.2) (fun x=>[(6,vI x.2),(7,vI x.1)]) (fun x=>[aR 4096 2 [cdlT l]]) (fun x=>l.codes.length-x.1) (0,-1) ⟨sMp,rfl⟩ ?_ fun x hx=>?_
  ·exact .oA (U1 4096) []
  obtain⟨j,v⟩:=x;obtain⟨j1,j2⟩:=hx;dsimp only at j1 j2;refine sD ?_;refine⟨fun h5=>?_,fun h5=>?_⟩
  ·have hj2:j<l.codes.length:=by omega
   have hwj:=qg (i:=j) oM;have hs:=Yt l.codes j;rw[j2,lvS] at hs;have hlf:=qC1 l (j:Int) oM;have hdp:=yl l j hp hj2 oM;rw[show qY3 l (j:Int)=KP l.codes j from rfl] at hlf;refine C1.im hlf rF rF ?_;simp only[tZ,↓uU,simprocAttr,hwj];refine⟨fun h6=>?_,fun h6=>?_⟩
   ·rw[Aj h6] at hs;refine C2.im (fun _=>hdp) (fun _=>rfl) rF ?_;simp only[tZ,↓uU,simprocAttr,tD,Bj,Aw];refine⟨fun h7=>?_,fun h7=>?_⟩
    ·rw[Aj oM] at hs;rw[hE2 i2 (qS9 hs _ oM)];exact .oA [] []
    ·rw[Aq oM] at hs;refine C1.im hdp rF rF ?_;simp only[tZ,↓uU,simprocAttr,hwj];refine⟨(j+1,(dep l.codes j:Int)),⟨by dsimp only;omega,hs⟩,by dsimp only;omega,?_⟩;exact .oA (U1 4096) []
   ·rw[Aq (by rw[h6];simp)] at hs;refine⟨(j+1,v),⟨by dsimp only;omega,hs⟩,by dsimp only;omega,?_⟩;exact .oA (U1 4096) []
  ·have hjl:j=l.codes.length:=by omega
   subst hjl;rw[hE3 v i2 j2];exact .oA [] []
theorem JK (l:CodL) (hl:l.codes.length<4611686018427387904):Sp 88 [cdlT l] [] (vI (wa l)) []:=by
 refine sIr qc9 fun e _ hst=>?_;unfold yO;refine sW ?_;refine C1.im (ym l hl) rF rF ?_;simp only[tZ,↓uU,simprocAttr,Bj,Aw];refine⟨fun h=>?_,fun h=>?_⟩
 ·rw[wa,Aj h];exact .oA [] []
 obtain⟨hp,h1,h2⟩:=kf h;have hw:=jM (i:=l.codes.length) h1 oM;have hd:=zo7 hp (l.codes.length-1) oM;have hw2:=qg (i:=dep l.codes (l.codes.length-1)) oM;simp only[tZ,↓uU,simprocAttr,hw];refine C1.im (yl l (l.codes.length-1) hp oM oM) rF rF ?_;rw[wa,Aq (by rw[h];simp)];simp only[tZ,↓uU,simprocAttr,hw2];exact .oA [] []
theorem qr3 (l:CodL) (c:Int) (hl:l.codes.length<4611686018427387904):Sp 87 [cdlT l,vI c] [] (vI (lvlC l c)) []:=by
 refine sIr qh7 fun e _ hst=>?_;unfold Qt;refine sW ?_;refine C1.im (ym l hl) rF rF ?_;simp only[tZ,↓uU,simprocAttr,tD,Bj,Aw];refine⟨fun h=>?_,fun h=>?_⟩
 ·rw[lvlC,Aj oM];exact .oA [] []
 obtain⟨hp,h1,h2⟩:=kf h.1.1;obtain⟨k,rfl⟩:=AJ (show 0≤c by omega);refine C1.im (yl l k hp oM oM) rF rF ?_;rw[lvlC,Aq oM,Ax];refine sW ?_;exact .oA [] []
def atN (cs:List Cod) (lev:Int) (n:Nat):List Int:=List.map (fun i:Nat=>(i:Int)) ((List.range n).filter fun i=>(dep cs i:Int)==lev)
theorem zy3 (cs:List Cod) (lev:Int) (n:Nat):atN cs lev (n+1)=atN cs lev n++(if (dep cs n:Int)=lev then [(n:Int)] else []):=by
 unfold atN;rw[List.range_succ,FY,By]
 congr 1
 by_cases h:(dep cs n:Int)=lev <;> simp [h]
theorem zL3 (cs:List Cod) (lev:Int) (n:Nat):(atN cs lev n).length≤n:=by
 unfold atN;rw[BY];exact FZ (Fx _ _) sMp
theorem qY4 (l:CodL) (lev:Int) (hl:l.codes.length<4611686018427387904):Sp 97 [cdlT l,vI lev] [] (vIs (atL l lev)) []:=by
 refine sIr qI1 fun e _ hst=>?_;unfold Kg;refine sW ?_;refine C1.im (ym l hl) rF rF ?_;simp only[tZ,↓uU,simprocAttr,Bj,Aw];refine⟨fun h=>?_,fun h=>?_⟩
 ·rw[atL,Aj h];exact .oA [] []
 obtain⟨hp,h1,h2⟩:=kf h;have e:atL l lev=atN l.codes lev l.codes.length:=by rw[atL,Aq (by rw[h];simp)];rfl
 rw[e];refine qy mixm (α:=Nat) [5,6] (fun i=>i≤l.codes.length) (fun i=>[(5,.asl 1 (atN l.codes lev i).length),(6,vI i)]) (fun i=>[aR 4096 2 [cdlT l],aR 1 1 ((atN l.codes lev i).map vI)]) (fun i=>l.codes.length-i) 0 oM ?_ fun i hi=>?_
 ·simp only[atN,List.range_zero,List.filter_nil,List.map_nil,Cw];exact .oA [uI 4096,(1,none)] []
 have hli:=zL3 l.codes lev i;refine sD ?_;refine⟨fun h3=>?_,fun h3=>?_⟩
 ·have hi2:i<l.codes.length:=by omega
  have hwi:=qg (i:=i) oM;have hs:=zy3 l.codes lev i;refine C1.im (yl l i hp hi2 oM) rF rF ?_;simp only[tZ,↓uU,simprocAttr,AY,Ak,hwi];refine⟨fun h4=>?_,fun h4=>?_⟩
  ·rw[Aj h4] at hs;refine⟨oM,i+1,oM,oM,?_⟩;rw[hs];exact .oA (U2 4096 1) []
  ·rw[Aq h4,CW] at hs;refine⟨i+1,oM,oM,?_⟩;rw[hs];exact .oA (U2 4096 1) []
 ·have hil:i=l.codes.length:=by omega
  subst hil;exact .oA [] [1]
open So
theorem zy4 {cs:List Cod} (h:qr1 cs) (lev:Nat):∀ (c f g:Nat),c<cs.length→c<f→c<g→upF cs lev f c=upF cs lev g c:=by
 intro c
 induction c using Nat.strongRecOn with
 | _ c ih=>
   intro f g hc hf hg;obtain⟨f,rfl⟩:∃ k,f=k+1:=⟨f-1,oM⟩;obtain⟨g,rfl⟩:∃ k,g=k+1:=⟨g-1,oM⟩;simp only[upF];have hp:=h c hc;split
   ·rename_i h1;have h0:¬ parC cs c<0:=fun e=>by rw[KO e] at h1;omega
    rw[ih (parC cs c).toNat oM f g oM oM oM]
   ·rfl
theorem up_step {cs:List Cod} (h:qr1 cs) {lev c:Nat} (hc:c<cs.length) (hl:lev<dep cs c):0≤parC cs c∧parC cs c<c∧dep cs c=dep cs (parC cs c).toNat+1∧upF cs lev (c+1) c=upF cs lev ((parC cs c).toNat+1) (parC cs c).toNat:=by
 have hp:=h c hc;have h0:¬ parC cs c<0:=fun e=>by rw[KO e] at hl;omega
 refine⟨oM,oM,qd1 h hc oM,?_⟩;rw[upF,Aj hl];exact zy4 h lev _ _ _ oM oM oM
def qC2:List Int→List Int→Bool:=Qi fun x y:Int=>x==y
theorem qd2 {a b:List Int}:qC2 a b=true↔a=b:=qa5 fun x y=>AY
theorem Jd (a b:List Int) (ha:a.length<4611686018427387904):Sp 32 [vIs a,vIs b] [] (vB (qC2 a b)) []:=by
 refine sIr qq2 fun e _ hst=>?_;unfold Za;simp only[tZ,↓uU,simprocAttr,Bj,Aw];refine⟨fun h=>?_,fun h=>?_⟩
 ·rw[qC2,qo3 oM];exact .oA [] []
 have hl:a.length=b.length:=by omega
 refine qy mixm (α:=Nat) [5] (fun i=>i≤a.length∧(qC2 (a.take i) (b.take i)=true)) (fun i=>[(5,vI i)]) (fun i=>[]) (fun i=>a.length-i) 0 ⟨oM,?_⟩ ?_ fun i hi=>?_
 ·rfl
 ·exact .oA [] []
 simp only[tZ,↓uU,simprocAttr,AZ,Ay];refine⟨fun h=>?_,fun h=>?_⟩
 ·have hib:i<b.length:=by omega
  have hi2:i<a.length:=by omega
  have hwi:=qg (i:=i) oM;simp only[tZ,↓uU,simprocAttr,Ax,qd hi2,hwi,qd hib];refine⟨oM,oM,kR,fun h3=>?_,fun h3=>⟨i+1,⟨oM,?_⟩,oM,?_⟩⟩
  ·rw[qC2,qa4 (i:=i) hl oM (by simpa using h3)];exact .oA [] []
  ·rw[qC2,Wo hi2 hib,← qC2,hi.2];simpa using h3
  ·exact .oA [] []
 ·have hi2:i=a.length:=by omega
  subst hi2;have h3:=hi.2;rw[Bw,List.take_of_length_le oM] at h3;rw[h3];exact .oA [] []
def qd3:List (List Int)→List (List Int)→Bool:=Qi qC2
theorem qY5 {a b:List (List Int)}:qd3 a b=true↔a=b:=qa5 fun x y=>qd2
theorem qC3 (a b:List (List Int)) (ha:a.length<4611686018427387904) (hr:∀ r∈a,r.length<4611686018427387904):Sp 31 [vRw a,vRw b] [] (vB (qd3 a b)) []:=by
 refine sIr qq0 fun e _ hst=>?_;unfold QZ;simp only[tZ,↓uU,simprocAttr,Bj,Aw];refine⟨fun h=>?_,fun h=>?_⟩
 ·rw[qd3,qo3 oM];exact .oA [] []
 have hl:a.length=b.length:=by omega
 refine qy mixm (α:=Nat) [5] (fun i=>i≤a.length∧(qd3 (a.take i) (b.take i)=true)) (fun i=>[(5,vI i)]) (fun i=>[]) (fun i=>a.length-i) 0 ⟨oM,?_⟩ ?_ fun i hi=>?_
 ·rfl
 ·exact .oA [] []
 simp only[tZ,↓uU,simprocAttr,AZ,Ay];refine⟨fun h=>?_,fun h=>?_⟩
 ·have hib:i<b.length:=by omega
  have hi2:i<a.length:=by omega
  have hwi:=qg (i:=i) oM;simp only[tZ,↓uU,simprocAttr,Ax,qd hi2,hwi,qd hib];refine⟨oM,oM,?_⟩;refine C1.im (Jd a[i] b[i] (hr _ (AX hi2))) rF rF ?_;simp only[tZ,↓uU,simprocAttr,Bx,Bz];refine⟨kR,fun h3=>?_,fun h3=>⟨i+1,⟨oM,?_⟩,oM,?_⟩⟩
  ·rw[qd3,qa4 (i:=i) hl oM h3];exact .oA [] []
  ·rw[qd3,Wo hi2 hib,← qd3,hi.2,h3]
   rfl
  ·exact .oA [] []
 ·have hi2:i=a.length:=by omega
  subst hi2;have h3:=hi.2;rw[Bw,List.take_of_length_le oM] at h3;rw[h3];exact .oA [] []
theorem Je (s:ByteArray):Sp 63 [vS s] [] (vB (kG s)) []:=by
 refine sIr qq6 fun e _ hst=>?_;unfold Zc;refine sW ?_;refine⟨fun h=>?_,fun h=>?_,fun h=>?_,fun h=>?_⟩
 ·simp at h;omega
 ·simp at h;omega
 ·have:kG s=false:=by unfold kG qI2;rw[h];rfl
  rw[this];exact .oA [] []
 have hd:qI2 s=false:=h;have hs16:s.data.toList.length≤16:=by
  unfold qI2 at hd;simp only[FX,Ay] at hd;have:s.size=s.data.toList.length:=by rw[Array.length_toList];rfl
  omega
 refine qy mixm (α:=Nat) [26] (fun i=>i≤s.data.toList.length∧((s.data.toList.take i).any qd0=false)) (fun i=>[(26,vI i)]) (fun i=>[]) (fun i=>s.data.toList.length-i) 0 ⟨oM,?_⟩ ?_ fun i hi=>?_
 ·rfl
 ·exact .oA [] []
 refine sD ?_;refine⟨fun h5=>?_,fun h5=>?_⟩
 ·have hi2:i<s.data.toList.length:=by omega
  have hwi:=qg (i:=i) oM;simp only[tZ,↓uU,simprocAttr,Ax,qd hi2,hwi,we];refine⟨oM,fun h6=>?_,fun h6=>?_⟩
  ·have hb:qd0 s.data.toList[i]=true:=h6;have:kG s=false:=by
    unfold kG;rw[show s.data.toList.any qd0=true from DQ.2 ⟨_,AX hi2,hb⟩];simp
   rw[this];exact .oA [] []
  ·have hb:qd0 s.data.toList[i]=false:=h6;refine⟨i+1,⟨oM,jz hi2 hi.2 hb⟩,oM,?_⟩;exact .oA [] []
 ·have h3:=hi.2;have:i=s.data.toList.length:=by omega
  rw[this,Bw] at h3;have hn:kG s=!(resW.contains s.toList):=by unfold kG;rw[hd,h3];rfl
  rw[hn];simp only[resW,List.contains_cons,List.contains_nil]
  repeat' (first | with_reducible apply Az | with_reducible intro _)
  all_goals first
   | (exfalso;simp_all;done)
   | (simp only[*,Bool.true_or,Bool.or_true,Bool.false_or,Bool.or_false,Bool.not_true,Bool.not_false];exact .imR rfl rfl)
set_option maxHeartbeats 8000000
def depL (cs:List Cod):List Int:=(List.range cs.length).map fun i=>(dep cs i:Int)
def depO (cs:List Cod) (i:Nat):List Int:=((List.range i).map fun i=>(dep cs i:Int))++List.replicate (cs.length-i) 0
theorem qT0 (cs:List Cod):(depL cs).length=cs.length:=by simp [depL]
theorem zy5 {cs:List Cod} {i:Nat} (h:i≤cs.length):(depO cs i).length=cs.length:=by simp [depO];omega
theorem zo8 (cs:List Cod):depO cs 0=List.replicate cs.length 0:=by simp [depO]
theorem zy6 (cs:List Cod):depO cs cs.length=depL cs:=by simp [depO,depL]
theorem zy7 {cs:List Cod} {i:Nat} (h:i<cs.length) (v:Int) (hv:v=dep cs i):(depO cs i).set i v=depO cs (i+1):=by
 unfold depO;rw[List.set_append_right _ _ sMp,BY,List.length_range,Nat.sub_self,show cs.length-i=(cs.length-(i+1))+1 by omega,List.replicate_succ,List.set_cons_zero,List.range_succ,By,Dj,hv]
 rfl
theorem zo9 {cs:List Cod} {i:Nat} (h:i<cs.length) (h0:dep cs i=0):depO cs i=depO cs (i+1):=by
 unfold depO;rw[show cs.length-i=(cs.length-(i+1))+1 by omega,List.replicate_succ,List.range_succ,By,Dj,List.map_cons,h0]
 rfl
theorem zL4 {cs:List Cod} {i k:Nat} (h:k<i) (hi:i≤cs.length):(depO cs i).getD k 0=dep cs k:=by
 unfold depO;rw[CY,BK (by simp;omega),DW,List.getElem?_range oM]
 rfl
theorem zR3 (n:Nat):List.replicate n (T.v (Value.int IntKind.i64 0))=(List.replicate n (0:Int)).map vI:=by simp
structure ParR (cs:List Cod):Prop where
 ok:qr1 cs
 kid:∀ i,0<i→i<cs.length→0≤parC cs i
 root:parC cs 0<0∨cs.length=0
 len:cs.length≤60
theorem qh8 (l:CodL) (h:ParR l.codes):Sp 64 [cdlT l] [] (vIs (depL l.codes)) []:=by
 have hl:=h.len;refine sIr qc7 fun e _ hst=>?_;unfold yL;refine sW ?_;refine⟨oM,?_⟩;refine qy mixm (α:=Nat) [13] (fun i=>i≤l.codes.length) (fun i=>[(13,vI i)]) (fun i=>[aR 4096 2 [cdlT l],aR 8204 1 ((depO l.codes i).map vI)]) (fun i=>l.codes.length-i) 0 oM ?_ fun i hi=>?_
 ·rw[zo8];refine .of (U2 4096 8204) [] rfl (by first | rfl | (rw[hst];rfl)) ?_ ?_
  all_goals (try simp only[tL,simprocAttr,By,List.map_cons,List.map_nil,BW,Cy,Ax,zR3])
  all_goals (try (exact clA))
 have hol:=zy5 (cs:=l.codes) hi;refine sD ?_;refine⟨fun h2=>?_,fun h2=>?_⟩
 ·have hi2:i<l.codes.length:=by omega
  have hwi:=qg (i:=i) oM;have hp:=h.ok i hi2;have hat:cdAt l.codes i=l.codes[i]:=by rw[cdAt,qt hi2]
  have hpar:l.codes[i].par=parC l.codes i:=by rw[parC,hat]
  simp only[tZ,↓uU,simprocAttr,Ax,qd hi2,hpar,gt_iff_lt,tD];refine⟨oM,fun h4=>?_,fun h4=>?_⟩
  ·have hk:=h.kid i oM hi2;have hdk:=qd1 h.ok hi2 hk;obtain⟨q,hq⟩:=AJ hk;have hqi:q<i:=by omega
   have hq3:q<(depO l.codes i).length:=by omega
   have hq4:(depO l.codes i)[q]=dep l.codes q:=by
    have:=zL4 (cs:=l.codes) hqi hi;rw[qt hq3] at this;exact this
   have hdl:=zo7 h.ok q oM;have hwd:=qg (i:=dep l.codes q) oM;rw[hq,Ax] at hdk;have hi3:i<(depO l.codes i).length:=by omega
   have hset:=zy7 hi2 ((dep l.codes q+1:Nat):Int) (by rw[hdk]);simp only[tZ,↓uU,simprocAttr,hq,Ax,qd hq3,qd hi3,hq4,hwd,hwi,show ∀ a b:Int,repl (vI a) 0 (vI b)=vI b from fun _ _=>rfl];refine⟨oM,oM,oM,oM,i+1,oM,oM,?_⟩;rw[← List.map_set,hset];exact .oA (U2 4096 8204) []
  ·have hz:i=0:=by omega
   subst hz;have hr:=h.root.resolve_right oM;have hn:=zo9 hi2 (KO hr);simp only[tZ,↓uU,simprocAttr,hwi];refine⟨1,oM,oM,?_⟩;rw[← hn];exact .oA (U2 4096 8204) []
 ·have hil:i=l.codes.length:=by omega
  subst hil;rw[zy6,Ax];have hdl:=qT0 l.codes;exact .oA [] [8204]
def aboL (cs:List Cod) (i:Nat):List Bool:=(List.range cs.length).map fun (k:Nat)=>(cs.take i).any fun x=>x.par==(k:Int)
theorem Zk (cs:List Cod) (i:Nat):(aboL cs i).length=cs.length:=by simp [aboL]
theorem zp0 (cs:List Cod):aboL cs 0=List.replicate cs.length false:=by
 rw[List.eq_replicate_iff];refine⟨Zk cs 0,fun b hb=>?_⟩;obtain⟨k,_,rfl⟩:=Cj.1 hb;simp
theorem KR {cs:List Cod} {i k:Nat} (h:k<(aboL cs i).length):(aboL cs i)[k]=(cs.take i).any fun x=>x.par==(k:Int):=by simp [aboL]
theorem zp1 {cs:List Cod} {i:Nat} (h:i<cs.length) (hp:cs[i].par<0):aboL cs (i+1)=aboL cs i:=by
 refine List.ext_getElem (by rw[Zk,Zk]) fun k h1 h2=>?_;have h3:(cs[i].par==(k:Int))=false:=Ak.2 oM;rw[KR,KR,jd h,FW,List.any_cons,List.any_nil,h3];simp
theorem zy8 {cs:List Cod} {i p:Nat} (h:i<cs.length) (hp:cs[i].par=p):(aboL cs i).set p true=aboL cs (i+1):=by
 refine List.ext_getElem (by rw[Fw,Zk,Zk]) fun k h1 h2=>?_;rw[Fk,KR,KR,jd h,FW,List.any_cons,List.any_nil,hp];by_cases e:p=k
 ·subst e;simp
 ·have:((p:Int)==(k:Int))=false:=Ak.2 oM;rw[Aq e,this];simp
theorem zy9 {cs:List Cod} {k:Nat} (h:k<(aboL cs cs.length).length):(aboL cs cs.length)[k]=!KP cs k:=by
 rw[KR,Bw,KP,Bool.not_not]
theorem zR4 (n:Nat):List.replicate n (T.v (Value.bool false))=(List.replicate n false).map vB:=by simp
def qI3 (cs:List Cod):List (ByteArray×Bool):=cs.map fun c=>(c.name,true)
theorem qC4 {nm:ByteArray}:∀ {cs:List Cod},(TL.look TL.eqS nm (qI3 cs)).getD false=cs.any fun x=>eqB x.name nm
 | []=>rfl
 | c::cs=>by
   have h:TL.eqS nm c.name=eqB c.name nm:=by
    rw[Bool.eq_iff_iff,TL.eqS,eqB,AY,AY];exact⟨fun h=>h.symm,fun h=>h.symm⟩
   simp only[qI3,List.map_cons,TL.look,List.any_cons,h];cases eqB c.name nm with
   | true=>rfl
   | false=>rw[Aq sMp,Bool.false_or];exact qC4
theorem qT1 {c:Cod}:∀ {cs:List Cod},(cs.any fun x=>eqB x.name c.name)=false→TL.asg TL.eqS c.name true (qI3 cs)=qI3 (cs++[c])
 | [],_=>rfl
 | x::cs,h=>by
   rw[List.any_cons,FX] at h;have h1:TL.eqS c.name x.name=eqB x.name c.name:=by
    rw[Bool.eq_iff_iff,TL.eqS,eqB,AY,AY];exact⟨fun h=>h.symm,fun h=>h.symm⟩
   simp only[qI3,List.map_cons,TL.asg,h1,h.1,BW];rw[Aq sMp]
   congr 1
   exact qT1 h.2
theorem zU2 {cs:List Cod} (h:cdEs cs cs.length=0) (hl:cs.length≤60):ParR cs:=by
 refine⟨zG8 h,fun i h0 hi=>(qr2 (KQ h i hi)).2.2.2 h0,?_,hl⟩;rcases DX cs.length with h0 | h0
 ·exact .inr h0
 ·have:=(qr2 (KQ h 0 h0)).2.2.1 rfl;exact .inl oM
theorem qr4 (l:CodL):Sp 44 [cdlT l] [] (vI (lstE l)) []:=by
 refine sIr qg7 fun e _ hst=>?_;unfold Qo;refine sW ?_;refine C1.im (Je l.name) rF rF ?_;simp only[tZ,↓uU,simprocAttr,Bx,Bz];refine⟨fun h=>?_,fun h1=>?_⟩
 ·rw[lstE,Aj h];exact .oA [] []
 simp only[tZ,↓uU,simprocAttr,AY,Ak];refine⟨fun h=>?_,fun h2=>?_⟩
 ·rw[lstE,Aq (by rw[h1];simp),Aj oM];exact .oA [] []
 refine sD ?_;refine⟨fun h=>?_,fun h3=>?_⟩
 ·rw[lstE,Aq (by rw[h1];simp),Aq oM,Aj oM];exact .oA [] []
 have hE1:cdEs l.codes l.codes.length≠0→lstE l=cdEs l.codes l.codes.length:=fun h=>by
  rw[lstE,Aq (by rw[h1];simp),Aq oM,Aq oM,Aj h]
 have hE2:cdEs l.codes l.codes.length=0→lvs l.codes l.codes.length=none→lstE l=5:=fun h k=>by
  rw[lstE,Aq (by rw[h1];simp),Aq oM,Aq oM,Aq (by rw[h];simp),k]
 have hE3:∀ v,cdEs l.codes l.codes.length=0→lvs l.codes l.codes.length=some v→lstE l=0:=fun v h k=>by
  rw[lstE,Aq (by rw[h1];simp),Aq oM,Aq oM,Aq (by rw[h];simp),k]
 refine⟨oM,kR,?_⟩;refine qy mixm (α:=Nat) [33] (fun i=>i≤l.codes.length∧cdEs l.codes i=0) (fun i=>[(33,vI i)]) (fun i=>[aR 4096 2 [cdlT l],(32768,.mp (.sb (qI3 (l.codes.take i)))),aR 32784 1 ((aboL l.codes i).map vB)]) (fun i=>l.codes.length-i) 0 ⟨oM,rfl⟩ ?_ fun i hi=>?_
 ·simp only[List.take_zero,qI3,List.map_nil,zp0];refine .of (U3 4096 32768 32784) [] rfl (by first | rfl | (rw[hst];rfl)) ?_ ?_
  all_goals (try simp only[tL,simprocAttr,By,List.map_cons,List.map_nil,BW,Cy,Ax,zR4])
  all_goals (try (exact clA))
 obtain⟨i1,i2⟩:=hi;have hbl:=Zk l.codes i;refine sD ?_;refine⟨fun h4=>?_,fun h4=>?_⟩
 ·have hi2:i<l.codes.length:=by omega
  have hwi:=qg (i:=i) oM;have hat:cdAt l.codes i=l.codes[i]:=by rw[cdAt,qt hi2]
  have hs:cdEs l.codes (i+1)=cdE l.codes i:=by rw[cdEs,Aq (by rw[i2];simp)]
  have hbad:cdE l.codes i≠0→lstE l=cdE l.codes i:=fun hb=>by
   have:=ql9 (by rw[hs];exact hb) l.codes.length (show i+1≤l.codes.length by omega);rw[hE1 (by rw[this,hs];exact hb),this,hs]
  simp only[tZ,↓uU,simprocAttr,Ax,qd hi2];refine⟨oM,?_⟩;refine C1.im (Je l.codes[i].name) rF rF ?_;simp only[tZ,↓uU,simprocAttr,Bx,Bz,qC4];refine⟨fun h5=>?_,fun h5=>?_⟩
  ·have hc:cdE l.codes i=3:=by rw[cdE,hat,Aj h5]
   rw[hbad (by rw[hc];decide),hc];exact .oA [] []
  refine⟨fun h6=>?_,fun h6=>?_⟩
  ·have hc:cdE l.codes i=10:=by rw[cdE,hat,Aq (by rw[h5];simp),Aj h6]
   rw[hbad (by rw[hc];decide),hc];exact .oA [] []
  have hpar:l.codes[i].par=parC l.codes i:=by rw[parC,hat]
  have hcE:cdE l.codes i=if (i=0∧parC l.codes i≠-1)∨(0<i∧(parC l.codes i<0∨parC l.codes i≥i)) then 6 else 0:=by
   rw[cdE,hat,Aq (by rw[h5];simp),Aq (by rw[h6];simp)]
  have hasg:=qT1 (c:=l.codes[i]) (cs:=l.codes.take i) h6;rw[← jd hi2] at hasg;simp only[tZ,↓uU,simprocAttr,hasg,hpar,tD,AY,Ak,Bj,Aw];refine⟨fun h7=>?_,fun h7=>?_⟩
  ·have hc:cdE l.codes i=6:=by rw[hcE,Aj oM]
   rw[hbad (by rw[hc];decide),hc];exact .oA [] []
  have hc0:cdEs l.codes (i+1)=0:=by rw[hs,hcE,Aq oM]
  refine⟨fun h8=>?_,fun h8=>?_⟩
  ·obtain⟨q,hq⟩:=AJ (show 0≤parC l.codes i by omega);have hq3:q<(aboL l.codes i).length:=by omega
   have hset:=zy8 (p:=q) hi2 (by rw[hpar,hq]);simp only[hq,Ax,qd hq3,show ∀ a b:Bool,repl (vB a) 0 (vB b)=vB b from fun _ _=>rfl,hwi];refine⟨⟨oM,oM,oM⟩,⟨oM,oM,rfl⟩,i+1,⟨oM,hc0⟩,oM,?_⟩;rw[← List.map_set,hset];exact .oA (U3 4096 32768 32784) []
  ·have hsk:=zp1 hi2 oM;simp only[hwi];refine⟨i+1,⟨oM,hc0⟩,oM,?_⟩;rw[hsk];exact .oA (U3 4096 32768 32784) []
 ·have hil:i=l.codes.length:=by omega
  subst hil;have hP:=zU2 i2 oM;have hdl:=qT0 l.codes;refine C1.im (qh8 l hP) rF rF ?_;refine sW ?_;have hbl:=Zk l.codes l.codes.length;refine qy mixm (α:=Nat×Int) [7,84] (fun x=>x.1≤l.codes.length∧lvs l.codes x.1=some x.2) (fun x=>[(7,vI x.2),(84,vI x.1)]) (fun x=>[aR 32784 1 ((aboL l.codes l.codes.length).map vB)]) (fun x=>l.codes.length-x.1) (0,-1) ⟨sMp,rfl⟩ ?_ fun x hx=>?_
  ·rw[Ax];exact .oA (U1 32784) []
  obtain⟨j,v⟩:=x;obtain⟨j1,j2⟩:=hx;dsimp only at j1 j2;refine sD ?_;refine⟨fun h5=>?_,fun h5=>?_⟩
  ·have hj2:j<l.codes.length:=by omega
   have hwj:=qg (i:=j) oM;have hs:=Yt l.codes j;rw[j2,lvS] at hs;have hj3:j<(depL l.codes).length:=by omega
   have hj4:j<(aboL l.codes l.codes.length).length:=by omega
   have hd1:(depL l.codes)[j]=dep l.codes j:=by simp [depL]
   have ha1:=zy9 hj4;simp only[tZ,↓uU,simprocAttr,Ax,qd hj3,qd hj4,hd1,ha1,hwj,Bx,Bz,tD,Bj,Aw];refine⟨oM,oM,oM,fun h6=>?_,fun h6=>?_⟩
   ·rw[Aq (by rw[h6];simp)] at hs;refine⟨(j+1,v),⟨by dsimp only;omega,hs⟩,by dsimp only;omega,?_⟩;exact .oA (U1 32784) []
   ·rw[Aj h6] at hs;refine⟨fun h7=>?_,fun h7=>?_⟩
    ·rw[Aj oM] at hs;rw[hE2 i2 (qS9 hs _ oM)];exact .oA [] []
    ·rw[Aq oM] at hs;refine⟨(j+1,(dep l.codes j:Int)),⟨by dsimp only;omega,hs⟩,by dsimp only;omega,?_⟩;exact .oA (U1 32784) []
  ·have hjl:j=l.codes.length:=by omega
   subst hjl;rw[hE3 v i2 j2];exact .oA [] []
def inB (n lo hi:Int):Bool:=decide (lo≤n)&&decide (n≤hi)
def wdOk (ws:List Int) (i:Nat):Bool:=if i=0 then ws.getD 0 0==1 else decide (ws.getD (i-1) 0<ws.getD i 0)&&decide (ws.getD i 0≤1000000)&&((ws.getD i 0).tmod (ws.getD (i-1) 0)==0)
def zz0 (ws:List Int):Bool:=(List.range ws.length).all (wdOk ws)
def measE (c:Col):Int:=
 if inB c.low (-1000000) 1000000=false∨inB c.high (-1000000) 1000000=false∨c.low>c.high then 2
 else if c.widths.length<1∨c.widths.length>4 then 1 else if zz0 c.widths=false then 2 else 0
abbrev qA (s:Sch) (i:Nat):Col:=s.cols.getD i default
def colE (s:Sch) (i:Nat):Int:=
 if kG (qA s i).name=false then 3
 else if ((s.cols.take i).any fun x=>eqB x.name (qA s i).name)=true then 10
 else if inB (qA s i).kind 1 3=false∨(0<i∧(qA s i).kind=1) then 4
 else if (qA s i).kind=2∧inB (qA s i).list 0 (s.lists.length-1)=false then 5
 else if (qA s i).kind=3∧measE (qA s i)≠0 then measE (qA s i)
 else if ((qA s i).kind≠2∧(qA s i).list≠0)∨((qA s i).kind≠3∧((qA s i).low≠0∨(qA s i).high≠0∨0<(qA s i).widths.length∨(qA s i).opt=true)) then 11 else 0
def kH (s:Sch):Nat→Int
 | 0=>0
 | n+1=>if kH s n≠0 then kH s n else if lstE (s.lists.getD n default)≠0 then lstE (s.lists.getD n default)
   else if ((s.lists.take n).any fun x=>eqB x.name (s.lists.getD n default).name)=true then 10 else 0
def QM (s:Sch):Nat→Int
 | 0=>0
 | n+1=>if QM s n≠0 then QM s n else colE s n
def schE (s:Sch):Int:=
 if s.lists.length>6∨s.cols.length>8 then 1 else if kH s s.lists.length≠0 then kH s s.lists.length
 else if s.cols.length=0∨(qA s 0).kind≠1 then 7 else QM s s.cols.length
abbrev kI (s:Sch) (i:Nat):CodL:=s.lists.getD (qA s i).list.toNat default
def qd4:Int:=-1099511627776
def jX (s:Sch) (i:Nat) (v:Int):Bool:=
 if (qA s i).kind=1 then inB v 1 1048575
 else if (qA s i).kind=2 then inB v 0 ((kI s i).codes.length-1)&&(lvlC (kI s i) v==wa (kI s i)-1)
 else ((qA s i).opt&&(v==qd4))||inB v (qA s i).low (qA s i).high
def rowE (s:Sch) (row:List Int):Int:=
 if schE s≠0 then schE s else if row.length≠s.cols.length then 9
 else if ((List.range row.length).all fun i=>jX s i (row.getD i 0))=false then 9 else 0
def finI (s:Sch) (c:Int):Int:=
 if schE s≠0∨c<1∨c≥s.cols.length then -1
 else if (qA s c.toNat).kind=2 then wa (kI s c.toNat)-1 else (qA s c.toNat).widths.length
def zG9 (a b:Int):Int:=a.fdiv b
def kV (s:Sch) (c:Nat):List Int:=atL (kI s c) (wa (kI s c)-1)
def JL (c:Col) (lev:Int):Int:=c.widths.getD (c.widths.length-lev).toNat 0
def Wx (s:Sch) (c lev v:Int):Int:=
 if inB lev 0 (finI s c)=false then -1
 else if (qA s c.toNat).kind=2 then (if jX s c.toNat v=false then -1 else upC (kI s c.toNat) v lev)
 else if v≠qd4∧inB v (-1000000) 1000000=false then -1
 else if lev=0 then 0 else if v=qd4 then v else zG9 v (JL (qA s c.toNat) lev)*JL (qA s c.toNat) lev
theorem wv (n lo hi:Int):Sp 85 [vI n,vI lo,vI hi] [] (vB (inB n lo hi)) []:=by
 refine sIr qH9 fun e _ hst=>?_;unfold Kf;refine sW ?_;rw[show (decide (lo≤n)&&decide (n≤hi))=inB n lo hi from rfl];exact .oA [] []
theorem qT2 {ws:List Int}:∀ {i:Nat},(∀ j,j<i→wdOk ws j=true)→∀ j,j<i→1≤ws.getD j 0
 | 0,_,j,h=>by omega
 | i+1,hw,j,h=>by
   have ih:=qT2 (ws:=ws) (i:=i) fun j hj=>hw j oM;have:=hw j h;unfold wdOk at this;split at this
   ·rename_i e;subst e;have:ws.getD 0 0=1:=by simpa using this
    omega
   ·simp only[Bq,AZ] at this;have:=ih (j-1) oM;omega
theorem qd5 (c:Col):Sp 86 [colT c] [] (vI (measE c)) []:=by
 refine sIr Yi fun e _ hst=>?_;unfold wS;refine sW ?_;refine C1.im (wv c.low (-1000000) 1000000) rF rF ?_;refine sW ?_;refine C2.im (fun _=>wv c.high (-1000000) 1000000) (fun _=>rfl) rF ?_;simp only[tZ,↓uU,simprocAttr,tD,Bx,Bz];refine⟨fun h=>?_,fun h=>?_⟩
 ·rw[measE,Aj (by grind)];exact .oA [] []
 ·refine⟨fun h2=>?_,fun h2=>?_⟩
  ·rw[measE,Aq (by grind),Aj (by grind)];exact .oA [] []
  ·have hm:measE c=if zz0 c.widths=false then 2 else 0:=by rw[measE,Aq (by grind),Aq (by grind)]
   refine qy mixm (α:=Nat) [3] (fun i=>i≤c.widths.length∧(∀ j,j<i→wdOk c.widths j=true)) (fun i=>[(3,vI i)]) (fun i=>[aR 4096 7 [colT c]]) (fun i=>c.widths.length-i) 0 ⟨oM,?_⟩ ?_ fun i hi=>?_
   ·intro j hj;omega
   ·exact .oA (U1 4096) []
   have hbad:i<c.widths.length→wdOk c.widths i=false→measE c=2:=fun h1 h2=>by
    rw[hm,Aj];exact List.all_eq_false.2 ⟨i,Dk.2 h1,by rw[h2];simp⟩
   have hok:wdOk c.widths i=true→∀ j,j<i+1→wdOk c.widths j=true:=fun h1 j hj=>by
    by_cases e:j=i
    ·rw[e];exact h1
    ·exact hi.2 j oM
   simp only[tZ,↓uU,simprocAttr,AZ,Ay];refine⟨fun h=>?_,fun h=>?_⟩
   ·rcases DX i with h0 | h0
    ·subst h0;have hw0:wdOk c.widths 0=(c.widths.getD 0 0==1):=by rw[wdOk,Aj rfl]
     have hlen:0<c.widths.length:=by omega
     rw[qt hlen] at hw0;have hz:((0:Nat):Int)=0:=rfl;have hz2:(IntKind.i64.wrap (-1)).toNat=0:=by decide
     have hz3:=qg (i:=0) oM;rw[hz] at hz3;simp only[tZ,↓uU,simprocAttr,Ax,hz,beq_self_eq_true,gt_iff_lt,Int.lt_irrefl,Fq,hz2,qd hlen,hz3];refine⟨oM,fun h3=>?_,fun h3=>?_⟩
     ·rw[hbad hlen (by rw[hw0];simpa using h3)];exact .oA [] []
     ·refine⟨1,⟨oM,hok (by rw[hw0];simpa using h3)⟩,oM,?_⟩;exact .oA (U1 4096) []
    ·obtain⟨k,rfl⟩:∃ k,i=k+1:=⟨i-1,oM⟩;have hk2:k+1<c.widths.length:=by omega
     have hk3:k<c.widths.length:=by omega
     have e1:(((k+1:Nat):Int)==0)=false:=Ak.2 oM;have e2:decide (((k+1:Nat):Int)>0)=true:=Cx oM;have hw1:wdOk c.widths (k+1)=(decide (c.widths[k]<c.widths[k+1])&&decide (c.widths[k+1]≤1000000)&&(c.widths[k+1].tmod c.widths[k]==0)):=by
          rw[wdOk,Aq oM,Nat.add_sub_cancel,qt hk2,qt hk3]
     have hp1:=qT2 (ws:=c.widths) hi.2 k oM;rw[qt hk3] at hp1;have hws:=qg (i:=k+1) oM;have e3:=jM (i:=k+1) oM oM;rw[Nat.add_sub_cancel] at e3;simp only[tZ,↓uU,simprocAttr,Ax,qd hk2,qd hk3,e1,e2,e3,hws];refine⟨oM,oM,fun _=>by omega,fun _=>by omega,fun h3=>?_,fun h3=>?_⟩
     ·rw[hbad hk2 (by rw[hw1];grind)];exact .oA [] []
     ·refine⟨k+2,⟨oM,hok (by rw[hw1];grind)⟩,oM,?_⟩;exact .oA (U1 4096) []
   ·have hi2:i=c.widths.length:=by omega
    subst hi2;rw[hm,Aq]
    ·exact .oA [] []
    ·rw[DY];exact Bk.2 fun j hj=>hi.2 j (Dk.1 hj)
theorem qh9 (s:Sch) (i:Nat) (hi:i<s.cols.length) (hn:s.cols.length<4611686018427387904) (hl:s.lists.length<4611686018427387904):Sp 53 [schT s,vI i] [] (vI (colE s i)) []:=by
 have hat:qA s i=s.cols[i]:=by rw[qA,qt hi]
 have hE:colE s i=if kG s.cols[i].name=false then 3
  else if ((s.cols.take i).any fun x=>eqB x.name s.cols[i].name)=true then 10
  else if inB s.cols[i].kind 1 3=false∨(0<i∧s.cols[i].kind=1) then 4
  else if s.cols[i].kind=2∧inB s.cols[i].list 0 (s.lists.length-1)=false then 5
  else if s.cols[i].kind=3∧measE s.cols[i]≠0 then measE s.cols[i]
  else if (s.cols[i].kind≠2∧s.cols[i].list≠0)∨(s.cols[i].kind≠3∧(s.cols[i].low≠0∨s.cols[i].high≠0∨0<s.cols[i].widths.length∨s.cols[i].opt=true)) then 11 else 0:=by rw[colE,hat]
 rw[hE];refine sIr qb9 fun e _ hst=>?_;unfold yH;simp only[tZ,↓uU,simprocAttr,Ax,qd hi];generalize s.cols[i]=c;refine⟨oM,?_⟩;refine C1.im (Jc c.name) rF rF ?_;simp only[tZ,↓uU,simprocAttr,Bx,Bz];refine⟨fun h=>?_,fun h=>?_⟩
 ·rw[Aj h];exact .oA [] []
 rw[Aq (by rw[h];simp)];refine qy mixm (α:=Nat) [6] (fun k=>k≤i∧(s.cols.take k).any (fun x=>eqB x.name c.name)=false) (fun k=>[(6,vI k)]) (fun k=>[aR 4096 2 [schT s],aR 8212 7 [colT c]]) (fun k=>i-k) 0 ⟨oM,rfl⟩ ?_ fun k hk=>?_
 ·exact .oA (U2 4096 8212) []
 simp only[tZ,↓uU,simprocAttr,AZ,Ay];refine⟨fun h=>?_,fun h=>?_⟩
 ·have hk2:k<s.cols.length:=by omega
  have hwk:=qg (i:=k) oM;simp only[tZ,↓uU,simprocAttr,Ax,qd hk2,hwk];refine⟨oM,kR,fun h7=>?_,fun h7=>?_⟩
  ·rw[Aj (DQ.2 ⟨s.cols[k],List.mem_take_iff_getElem.2 ⟨k,oM,rfl⟩,h7⟩)];exact .oA [] []
  ·refine⟨k+1,⟨oM,jz hk2 hk.2 h7⟩,oM,?_⟩;exact .oA (U2 4096 8212) []
 ·have hki:k=i:=by omega
  subst hki;rw[Aq (by rw[hk.2];simp)];refine C1.im (wv c.kind 1 3) rF rF ?_;simp only[tZ,↓uU,simprocAttr,tD,Bx,Bz,AY,Ak];refine⟨fun h7=>?_,fun h7=>?_⟩
  ·rw[Aj (by grind)];exact .oA [] []
  rw[Aq (by grind)];have hw:IntKind.i64.wrap ((s.lists.length:Int)-1)=(s.lists.length:Int)-1:=AK _ oM;simp only[tZ,↓uU,simprocAttr,hw];refine C2.im (fun _=>wv c.list 0 ((s.lists.length:Int)-1)) (fun _=>rfl) rF ?_;simp only[tZ,↓uU,simprocAttr,tD,Bx,Bz,AY,Ak];refine⟨fun h8=>?_,fun h8=>?_⟩
  ·rw[Aj (by grind)];exact .oA [] []
  rw[Aq (by grind)];have hend:∀ v:Int,(if c.kind=3∧¬measE c=0 then measE c else if ¬c.kind=2∧¬c.list=0∨¬c.kind=3∧(¬c.low=0∨¬c.high=0∨0<c.widths.length∨c.opt=true) then 11 else 0)=v→yU [] (T.v (Value.int IntKind.i64 v)) [(4096,Ob.arr 2 [schT s] false),(8212,Ob.arr 7 [colT c] false)] (vI (if c.kind=3∧¬measE c=0 then measE c else if ¬c.kind=2∧¬c.list=0∨¬c.kind=3∧(¬c.low=0∨¬c.high=0∨0<c.widths.length∨c.opt=true) then 11 else 0)) []:=fun v hv=>by
   rw[hv];exact .oA [] []
  refine⟨fun h9=>?_,fun h9=>?_⟩
  ·refine C1.im (qd5 c) rF rF ?_;simp only[tZ,↓uU,simprocAttr,Bj,Aw];refine⟨fun h10=>hend _ (by rw[Aj ⟨h9,h10⟩]),fun h10=>?_⟩;simp only[tZ,↓uU,simprocAttr,tD,Bj,Aw];exact⟨fun h11=>hend _ (by rw[Aq (by grind),Aj (by grind)]),fun h11=>hend _ (by rw[Aq (by grind),Aq (by grind)])⟩
  ·simp only[tZ,↓uU,simprocAttr,tD,Bj,Aw];exact⟨fun h11=>hend _ (by rw[Aq (by grind),Aj (by grind)]),fun h11=>hend _ (by rw[Aq (by grind),Aq (by grind)])⟩
theorem qd6 {s:Sch} {i:Nat} (h:kH s i≠0):∀ n,i≤n→kH s n=kH s i:=by
 intro n hn
 induction n with
 | zero=>have:i=0:=by omega
         rw[this]
 | succ n ih=>
   by_cases e:i=n+1
   ·rw[e]
   ·have:=ih oM;rw[kH,this,Aj h]
theorem qd7 {s:Sch} {i:Nat} (h:QM s i≠0):∀ n,i≤n→QM s n=QM s i:=by
 intro n hn
 induction n with
 | zero=>have:i=0:=by omega
         rw[this]
 | succ n ih=>
   by_cases e:i=n+1
   ·rw[e]
   ·have:=ih oM;rw[QM,this,Aj h]
def qC5 (s:Sch):Prop:=s.lists.length<4611686018427387904∧s.cols.length<4611686018427387904∧∀ l∈s.lists,l.codes.length<4611686018427387904
theorem Zl (s:Sch) (hs:qC5 s):Sp 28 [schT s] [] (vI (schE s)) []:=by
 obtain⟨hs1,hs2,hs3⟩:=hs;refine sIr qg5 fun e _ hst=>?_;unfold Qn;refine sD ?_;refine⟨fun h=>?_,fun h=>?_⟩
 ·rw[schE,Aj oM];exact .oA [] []
 have hE1:kH s s.lists.length≠0→schE s=kH s s.lists.length:=fun k=>by rw[schE,Aq oM,Aj k]
 refine qy mixm (α:=Nat) [3,17] (fun i=>i≤s.lists.length∧kH s i=0) (fun i=>[(3,vI i)]) (fun i=>[aR 4096 2 [schT s]]) (fun i=>s.lists.length-i) 0 ⟨oM,rfl⟩ ?_ fun i hi=>?_
 ·exact .oA (U1 4096) []
 obtain⟨i1,i2⟩:=hi;refine sD ?_;refine⟨fun h2=>?_,fun h2=>?_⟩
 ·have hi2:i<s.lists.length:=by omega
  have hwi:=qg (i:=i) oM;have hat:s.lists.getD i default=s.lists[i]:=qt hi2;have hstep:kH s (i+1)=if lstE s.lists[i]≠0 then lstE s.lists[i] else if ((s.lists.take i).any fun x=>eqB x.name s.lists[i].name)=true then 10 else 0:=by
   rw[kH,Aq (by rw[i2];simp),hat]
  have hbad:kH s (i+1)≠0→schE s=kH s (i+1):=fun k=>by
   have:=qd6 k s.lists.length oM;rw[hE1 (by rw[this];exact k),this]
  simp only[tZ,↓uU,simprocAttr,Ax,qd hi2,hwi];refine⟨oM,?_⟩;refine C1.im (ym s.lists[i] (hs3 _ (AX hi2))) rF rF ?_;simp only[tZ,↓uU,simprocAttr,Bj,Aw];refine⟨fun h3=>?_,fun h3=>?_⟩
  ·rw[Aj h3] at hstep;rw[hbad (by rw[hstep];exact h3),hstep];exact .oA [] []
  rw[Aq (by rw[h3];simp)] at hstep;refine qy mixm (α:=Nat) [5] (fun k=>k≤i∧(s.lists.take k).any (fun x=>eqB x.name s.lists[i].name)=false) (fun k=>[(5,vI k)]) (fun k=>[aR 4096 2 [schT s]]) (fun k=>i-k) 0 ⟨oM,rfl⟩ ?_ fun k hk=>?_
  ·exact .oA (U1 4096) []
  simp only[tZ,↓uU,simprocAttr,AZ,Ay];refine⟨fun h=>?_,fun h=>?_⟩
  ·have hk2:k<s.lists.length:=by omega
   have hwk:=qg (i:=k) oM;simp only[tZ,↓uU,simprocAttr,Ax,qd hk2,qd hi2,hwk];refine⟨oM,oM,kR,fun h7=>?_,fun h7=>?_⟩
   ·rw[Aj (DQ.2 ⟨s.lists[k],List.mem_take_iff_getElem.2 ⟨k,oM,rfl⟩,h7⟩)] at hstep;rw[hbad (by rw[hstep];simp),hstep];exact .oA [] []
   ·refine⟨k+1,⟨oM,jz hk2 hk.2 h7⟩,oM,?_⟩;exact .oA (U1 4096) []
  ·have hki:k=i:=by omega
   subst hki;rw[Aq (by rw[hk.2];simp)] at hstep;simp only[tZ,↓uU,simprocAttr,hwi];refine⟨k+1,⟨oM,hstep⟩,oM,?_⟩;exact .oA (U1 4096) []
 ·have hil:i=s.lists.length:=by omega
  subst hil;have hE2:s.cols.length=0∨(qA s 0).kind≠1→schE s=7:=fun k=>by rw[schE,Aq oM,Aq (by rw[i2];simp),Aj k]
  have hE3:¬ (s.cols.length=0∨(qA s 0).kind≠1)→schE s=QM s s.cols.length:=fun k=>by rw[schE,Aq oM,Aq (by rw[i2];simp),Aq k]
  have hz:((0:Nat):Int)=0:=rfl;by_cases h0:s.cols.length=0
  ·have hn:s.cols=[]:=List.length_eq_zero_iff.1 h0;rw[hE2 (.inl h0)];simp only[tZ,↓uU,simprocAttr,hn,Cw,hz,beq_self_eq_true];exact .oA [] []
  ·have h0p:0<s.cols.length:=by omega
   have e0:((s.cols.length:Int)==0)=false:=Ak.2 oM;have hc0:qA s 0=s.cols[0]:=by rw[qA,qt h0p]
   simp only[tZ,↓uU,simprocAttr,e0,qd h0p,Bj,Aw,Bool.false_or];refine⟨oM,fun h3=>?_,fun h3=>?_⟩
   ·rw[hE2 (.inr (by rw[hc0];exact h3))];exact .oA [] []
   have hE4:=hE3 (by rw[hc0];grind);refine qy mixm (α:=Nat) [6,63] (fun i=>i≤s.cols.length∧QM s i=0) (fun i=>[(6,vI i)]) (fun i=>[aR 4096 2 [schT s]]) (fun i=>s.cols.length-i) 0 ⟨oM,rfl⟩ ?_ fun i hi=>?_
   ·exact .oA (U1 4096) []
   simp only[tZ,↓uU,simprocAttr,AZ,Ay];refine⟨fun h=>?_,fun h=>?_⟩
   ·have hi2:i<s.cols.length:=by omega
    have hwi:=qg (i:=i) oM;have hstep:QM s (i+1)=colE s i:=by rw[QM,Aq (by rw[hi.2];simp)]
    refine C1.im (qh9 s i hi2 hs2 hs1) rF rF ?_;simp only[tZ,↓uU,simprocAttr,Bj,Aw,hwi];refine⟨fun h4=>?_,fun h4=>?_⟩
    ·have:=qd7 (s:=s) (i:=i+1) (by rw[hstep];exact h4) s.cols.length oM;rw[hE4,this,hstep];exact .oA [] []
    ·refine⟨i+1,⟨oM,by rw[hstep];exact h4⟩,oM,?_⟩;exact .oA (U1 4096) []
   ·have hi2:i=s.cols.length:=by omega
    subst hi2;rw[hE4,hi.2];exact .oA [] []
end Go.Proofs
