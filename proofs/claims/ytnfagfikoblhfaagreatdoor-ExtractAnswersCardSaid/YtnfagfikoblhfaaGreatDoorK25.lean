/- A part of the proof: trees of Go values, short forms, contracts. -/
import Derived.WalkKit
import Derived.Still
import Derived.MapKept
import GoSem.Builtin.Cap
import Derived.Laws.Externs
import GoSem.Extern.SlicesOverlaps
import Derived.Carry
import Derived.ProofKit
import Derived.OpenShut
import Derived.HandedShaped
import Derived.Lay
import Derived.LaidLaws
import Derived.MakeChecks
import Derived.SevenTiedAt
import Derived.Test.YtnfagfikoblhfaaGreatDoorChecked
import Derived.Test.YtnfagfikoblhfaaGreatDoorK24
set_option linter.unusedSimpArgs false
set_option linter.unusedVariables false
namespace Go.Proofs
open Go Go.TL
set_option maxRecDepth 4000
set_option maxHeartbeats 8000000
open So
theorem zu9 (a:List Int):zN7 a a=true:=jD6.2 rfl
def qI6:Src:=⟨qt6,[[7,2]],[],0⟩
def qt7:Ext:=⟨⟨#[112]⟩,0,[⟨1,1⟩],[[keyI 99 7,2]]⟩
theorem jj6:qQ9 qI6 qP2 [⟨1,1⟩] 99=qt7∧buildE qI6 qP2 [⟨1,1⟩] 99=0:=⟨by kernel_rfl,by kernel_rfl⟩
theorem kk2:valI qt6 qt7 0 1 0=(0,true):=by kernel_rfl
theorem kk3:extE qt6 qt7=0:=by kernel_rfl
theorem kk4:ownS qI6 qP2=[7]:=by kernel_rfl
theorem zD9:Spc Tryz.prog qc2 [] [] (vB true) []:=by
 have hsm:jE3 qI6:=⟨qX7,by decide⟩;have hB:=qo5 qI6 qP2 [⟨1,1⟩] 99 hsm (by decide) (by decide);rw[jj6.1,jj6.2] at hB;have hV:=qo9 qt6 qX7 qt7 (by decide) (by decide) 0 1 0;rw[kk2] at hV;have hK:=zW4 99 7;have hI:=qQ6 [keyI 99 7,2] [keyI 99 7,2] (by decide);rw[zu9] at hI;have hC:=qo8 qt6 qX7 qt7 (by decide) (by decide);rw[kk3] at hC;have hO:=qW2 qI6 qP2 hsm;rw[kk4] at hO;have hI2:=qQ6 [7] [7] (by decide);rw[zu9] at hI2;have hN:=ke qt6 qX7 (.mk 1 0 0 0 0 []);rw[show chkC qt6 (.mk 1 0 0 0 0 [])=0 by kernel_rfl] at hN;have hW:=qW4 qt7 [] (by decide) (by decide) (by decide) (by decide);rw[show nrwX qt7 []=⟨⟨#[112]⟩,0,[⟨1,1⟩],[]⟩ by kernel_rfl] at hW;have hE1:qt7.rows=[[keyI 99 7,2]]:=rfl;refine qd zj2 mixm (by simp) fun e _ hst=>qh ?_;unfold WZ;refine sW ?_;refine C1.shutD [8204,8212,8224,16400,16408,20484,20488,24588] hB ?_ (by rfl) rfl ?_
 ·simp [ptw,ltAD,ltD,TL.get,T.cells,imT,imL,qI6,qt7,qt6,zD8,qP2,zD7]
  all_goals (try (repeat' apply Az))
  all_goals (try rfl)
 refine sW ?_;refine C1.lendD [8204,8212,8224,16400,16408,20484,20488,24588] hV ?_ (by rfl) (by rfl) ?_
 ·simp [ptw,ltAD,ltD,TL.get,T.cells,imT,imL,qI6,qt7,qt6,zD8,qP2,zD7]
  all_goals (try (repeat' apply Az))
  all_goals (try rfl)
 simp only[tZ,↓un_u,simprocAttr,hE1];refine C2.im (fun _=>hK) (fun _=>rfl) (by rfl) ?_;refine sW ?_;refine C2.lendD [32824] (fun _=>hI) (fun _=>?_) (by rfl) (by rfl) ?_
 ·simp [ptw,ltAD,ltD,TL.get,T.cells,imT,imL,qI6,qt7,qt6,zD8,qP2,zD7]
  all_goals (try (repeat' apply Az))
  all_goals (try rfl)
 refine sW ?_;refine C2.lendD [8204,8212,8224,16400,16408,20484,20488,24588] (fun _=>hC) (fun _=>?_) (by rfl) (by rfl) ?_
 ·simp [ptw,ltAD,ltD,TL.get,T.cells,imT,imL,qI6,qt7,qt6,zD8,qP2,zD7]
  all_goals (try (repeat' apply Az))
  all_goals (try rfl)
 simp only[tZ,↓un_u,simprocAttr,bne_self_eq_false,beq_self_eq_true];refine C2.one trivial (C1.shutD [8204,8212,8224,16400,16408,20484,20488,24588] hO ?_ (by rfl) rfl ?_)
 ·simp [ptw,ltAD,ltD,TL.get,T.cells,imT,imL,qI6,qt7,qt6,zD8,qP2,zD7]
  all_goals (try (repeat' apply Az))
  all_goals (try rfl)
 refine sW ?_;refine C2.lendD [32904] (fun _=>hI2) (fun _=>?_) (by rfl) (by rfl) ?_
 ·simp [ptw,ltAD,ltD,TL.get,T.cells,imT,imL,qI6,qt7,qt6,zD8,qP2,zD7]
  all_goals (try (repeat' apply Az))
  all_goals (try rfl)
 refine sW ?_;refine C2.lendD [8204,8212,8224,16400,16408,20484,20488,24588] (fun _=>hN) (fun _=>?_) (by rfl) (by rfl) ?_
 ·simp [ptw,ltAD,ltD,TL.get,T.cells,imT,imL,qI6,qt7,qt6,zD8,qP2,zD7]
  all_goals (try (repeat' apply Az))
  all_goals (try rfl)
 refine sW ?_;refine C2.one trivial (C1.shutD [8204,8212,8224,16400,16408,20484,20488,24588] hW ?_ (by rfl) rfl ?_)
 ·simp [ptw,ltAD,ltD,TL.get,T.cells,imT,imL,qI6,qt7,qt6,zD8,qP2,zD7]
  all_goals (try (repeat' apply Az))
  all_goals (try rfl)
 refine sW ?_;refine⟨by kernel_rfl,?_⟩;exact .oA [] []
end Go.Proofs
namespace Go.Proofs
open Go Go.TL
set_option maxRecDepth 4000
set_option maxHeartbeats 8000000
theorem zi4 {s:Sch} {d:Dcl} (h:dclE s d=0):kY s (kZ s d)=0∧(∀ p∈kZ s d,0<p.lev)∧(kZ s d).Pairwise fun a b=>a.col<b.col:=by
 obtain⟨hE,_,_,_,_,_,_,hqs⟩:=qn3 h;have hp:kY s (kZ s d)=0:=by
  rw[qb5 h];refine jn6 hE fun k hk h0=>?_;obtain⟨p,hp,e1,e2⟩:=qz6 h0;obtain⟨q,hq,hp2⟩:=Ek.1 hp;have hb:=qX5 q p hp2;have hqe:qstE s q=0:=by
   obtain⟨n,hn,rfl⟩:=CX hq;have:=hqs n hn;rw[qAt,qg hn] at this;exact this
  have hqk:=Wr hqe;refine⟨by omega,?_⟩;rw[← e2];have h1:=zu8 hp2;rw[e1,zQ8 hqe hk] at h1;have:=jX5 (l:=qI4 s q) (k:=k) (qo2 hE (by omega) hk) fun p hp e=>by rw[← e];exact jG7 hqk p hp
  omega
 refine⟨hp,fun p hp=>?_,(Zd hp).2.2⟩;rw[qb5 h] at hp;exact (zQ9 hp).1
theorem jH9 (l:List Pk):covB l l=true:=qX6.2 fun x hx=>⟨x,hx,rfl,Int.le_refl _⟩
end Go.Proofs
namespace Go.Proofs
open Go Go.TL
set_option maxRecDepth 4000
set_option maxHeartbeats 8000000
open So
theorem ke2 {x:Src} {d:Dcl} {k:Int} (h:SrcOk x) (hd0:dclE x.sch d=0) (hk:0≤k∧k<1152921504606846976) {l:List Pk} (hc:zf3 x.sch d l=0):buildE x d l k=0∧qQ9 x d l k=⟨d.proj,x.ver,l,yr x d l k⟩:=by
 have h1:buildE x d l k=0:=by
  rw[buildE,Aq (by rw[qy9.2 h];simp),Aq (by rw[hc];simp),Aq (by omega)]
 exact⟨h1,by rw[qQ9,h1,Aq (by simp)]⟩
theorem ke3 {s:Sch} {d:Dcl} (h:dclE s d=0):zf3 s d (kZ s d)=0:=by
 rw[jj3 h (zi4 h).1,Aj (jH9 _)]
structure BldF (x:Src) (d:Dcl) (P:List Pk) (k:Int) (R:List (List Int)) (O:List Int):Prop where
 len:R.length=O.length
 asc:AscR R
 row:∀ i (hi:i<R.length),∃ (j:Nat) (hj:j<x.rows.length),R[i]=rowX x P k x.rows[j]∧zg2 x (hd x.rows[j])=j∧idI k (hd R[i])=hd x.rows[j]∧O.contains (hd x.rows[j])=true∧kb2 x.sch d.coh x.rows[j]=1
theorem zR1 {x:Src} {d:Dcl} {k:Int} (h:SrcOk x) (hd0:dclE x.sch d=0) (hk:0≤k∧k<1152921504606846976) (P:List Pk):BldF x d P k (yr x d P k) (ownS x d):=by
 have hpw:=jH1 (d:=d) h hk;obtain⟨q1,_,_⟩:=zX5 x P k (ownR x d) [] List.Pairwise.nil (by simp);have hnd1:((ownR x d).map (rowX x P k)).Nodup:=by
  refine List.pairwise_map.2 (hpw.imp fun {a b} h e=>h ?_);have:=congrArg hd e;exact this
 have hnd2:(yr x d P k).Nodup:=q1.imp fun {a b} h e=>by rw[e] at h;omega
 have hperm:(yr x d P k).Perm ((ownR x d).map (rowX x P k)):=(List.perm_ext_iff_of_nodup hnd2 hnd1).2 fun r=>by
  rw[qq5 h hd0 hk,Cj];constructor
  ·rintro ⟨r0,a,b,rfl⟩;exact⟨r0,(zi1 h hd0 r0).2 ⟨a,b⟩,rfl⟩
  ·rintro ⟨r0,a,rfl⟩;obtain⟨b,c⟩:=(zi1 h hd0 r0).1 a;exact⟨r0,b,c,rfl⟩
 refine⟨by rw[hperm.length_eq,BY,ownS,BY],q1,fun i hi=>?_⟩;obtain⟨r0,a,b,e⟩:=(qq5 h hd0 hk _).1 (AX hi);obtain⟨j,f1,f2,rfl⟩:=jO7 h a;have hin:=jn3 (h.rows _ a);have hki:=jH0 hk (n:=hd x.rows[j]) (by omega);refine⟨j,f2,e,f1,by rw[e];exact hki.2,?_,?_⟩
 ·rw[FQ];exact Cj.2 ⟨_,(zi1 h hd0 _).2 ⟨a,b⟩,rfl⟩
 ·rw[ownP,Bq,AY] at b;exact b.1
theorem kl8 (n:Int) (hn:0≤n∧n≤12) (l:List UInt8) (a:Nat) (hl:l.length≤400) (ha:a≤l.length):∃ (x:Src) (d:Dcl) (a1 a2:Nat),DrX x∧x.rows.length≤12∧jE3 x∧0<x.sch.lists.length∧dclE x.sch d=0∧a1≤l.length∧a2≤l.length∧
 Spc Tryz.prog jk [.ptr 0 1 0 0,vI n] [(0,oC l a)] (srcT x) [(0,oC l a1)]∧Spc Tryz.prog zq [.ptr 0 1 0 0,schT x.sch] [(0,oC l a1)] (dclT d) [(0,oC l a2)]:=by
 obtain⟨⟨x,a1⟩,⟨⟨hX,hr,_⟩,ha1⟩,sS⟩:=qs9 n l a hl ha (by omega);dsimp only at hX hr ha1 sS;obtain⟨⟨d,a2⟩,⟨hd,ha2⟩,sDd⟩:=qb0 x.sch hX.sch l a1 hl ha1;dsimp only at hd ha2 sDd;exact⟨x,d,a1,a2,hX,by omega,hX.ok.smx,by obtain⟨a,b,e,_⟩:=hX.sch.ls;rw[e];simp,hd,ha1,ha2,sS,sDd⟩
end Go.Proofs
namespace Go.Proofs
open Go Go.TL
set_option maxRecDepth 4000
set_option maxHeartbeats 8000000
end Go.Proofs
namespace Go.Proofs
open Go Go.TL
set_option maxRecDepth 4000
set_option maxHeartbeats 8000000
open So
theorem jI0 {s:Sch} (hE:schE s=0) {i:Nat} (hi:i<s.cols.length) (h0:0<i) (h2:(qj s i).kind=2) {o lev:Nat} (ho:(o:Int)≤finI s i) (hl:(lev:Int)≤finI s i) {v:Int} (hv:qS s i v=true)
 (hd:∀ a b,qS s i a=true→qS s i b=true→qu s i o a=qu s i o b→qu s i lev a=qu s i lev b) :
 qg9 (qJ s i) (fun x=>upC (qK s i) x o) (fun x=>upC (qK s i) x lev) (qu s i o v)=(qu s i lev v,true):=by
 have hok:=qO hE;have hco:∀ (l:Nat),(l:Int)≤finI s i→∀ y∈qJ s i,upC (qK s i) y l=qu s i l y:=fun l hl y hy=>by
  have h3:=(Jl hok hi h2).2 hy;rw[qu,Aq (by rw[Ez,wB];omega),Ax,Aj h2,Aq (by rw[h3];simp)]
 have hm:=(Jl hok hi h2).1 hv;unfold qg9;cases hf:(qJ s i).filter fun x=>upC (qK s i) x o==qu s i o v with
 | nil=>
   have:=List.filter_eq_nil_iff.1 hf v hm;rw[hco o ho v hm] at this;simp at this
 | cons y r=>
   have hall:∀ z,z∈y::r→upC (qK s i) z lev=qu s i lev v:=fun z hz=>by
    rw[← hf] at hz;obtain⟨z1,z2⟩:=Fz.1 hz;rw[hco o ho z z1,AY] at z2;rw[hco lev hl z z1];exact hd z v ((Jl hok hi h2).2 z1) hv z2
   dsimp only;rw[Aj,hall y (by simp)];rw[Bk];intro z hz;rw[hall z (CQ _ hz),hall y (by simp)];exact beq_self_eq_true _
theorem zR2 {s:Sch} (hE:schE s=0) {i:Nat} (hi:i<s.cols.length) (h0:0<i) (h2:(qj s i).kind≠2) {o lev:Nat} (ho:(o:Int)≤finI s i) (hl:(lev:Int)≤finI s i) {v:Int} (hv:qS s i v=true)
 (hd:∀ a b,qS s i a=true→qS s i b=true→qu s i o a=qu s i o b→qu s i lev a=qu s i lev b) :
 qo6 (qj s i) o (qu s i o v) lev=(qu s i lev v,true):=by
 have hM:=qg1 hE hi h0 h2;have hmi:zz = -1099511627776:=rfl;have hlh:=hM.lh;have hC:=fun (l:Nat) (hl:(l:Int)≤finI s i) (v:Int) (hv:qS s i v=true)=>zh7 hM hl hv;have hH:=fun v=>qb4 (s:=s) (i:=i) hM.kind (v:=v);have hfo:=hM.fin;by_cases hmv:v=zz
 ·subst hmv;have hopt:(qj s i).opt=true:=by
   rcases (hH zz).1 hv with k | k
   ·exact k.1
   ·omega
  by_cases o0:o=0
  ·subst o0;have hlo:qS s i (qj s i).low=true:=(hH _).2 (.inr ⟨by omega,by omega⟩);have h3:=hd _ _ hv hlo (by rw[hC 0 (by omega) _ hv,hC 0 (by omega) _ hlo,Aj rfl,Aj rfl]);have l0:lev=0:=by
    refine AQ fun k=>?_;rw[hC lev hl _ hv,hC lev hl _ hlo,Aq k,Aq k,Aj rfl,Aq (by omega)] at h3;exact jQ7 (hM.wid lev (by omega) (by omega)) (jj1 hE hi h0 h2 (by omega) (by omega)) (by omega) h3.symm
   subst l0;rw[hC 0 (by omega) _ hv,Aj rfl,qo6,Aq (by omega),Zl,Aj (show ((0:Nat):Int)=0 from rfl)]
   rfl
  ·rw[hC o ho _ hv,Aq o0,Aj rfl,qo6,Aj ⟨by omega,rfl⟩,hopt,hC lev hl _ hv];by_cases l0:lev=0
   ·rw[Aj (by omega),Aj l0]
   ·rw[Aq (by omega),Aq l0,Aj rfl]
 have hvr:(qj s i).low≤v∧v≤(qj s i).high:=by
  rcases (hH v).1 hv with k | k
  ·exact absurd k.2 hmv
  ·exact k
 have key:∃ a b,Zl (qj s i) o (qu s i o v)=(a,b,true)∧qS s i a=true∧qS s i b=true∧a≠zz∧b≠zz∧qu s i o a=qu s i o v∧qu s i o b=qu s i o v∧¬ (0<(o:Int)∧qu s i o v=zz):=by
  by_cases o0:o=0
  ·subst o0;have e:∀ x,qS s i x=true→qu s i (0:Nat) x=0:=fun x hx=>by rw[hC 0 (by omega) _ hx,Aj rfl]
   have ha:qS s i (qj s i).low=true:=(hH _).2 (.inr ⟨by omega,by omega⟩);have hb:qS s i (qj s i).high=true:=(hH _).2 (.inr ⟨by omega,by omega⟩);refine⟨(qj s i).low,(qj s i).high,?_,ha,hb,by omega,by omega,by rw[e _ ha,e _ hv],by rw[e _ hb,e _ hv],by omega⟩;rw[e v hv,Zl,Aj (show ((0:Nat):Int)=0 from rfl)];rfl
  ·have w1:=hM.wid o (by omega) (by omega);have w2:=jj1 hE hi h0 h2 (l:=o) (by omega) (by omega);have e:∀ x,qS s i x=true→x≠zz→qu s i o x=qA x (qD (qj s i) o)*qD (qj s i) o:=fun x hx hn=>by rw[hC o ho _ hx,Aq o0,Aq hn]
   have hev:=e v hv hmv;rw[hev];generalize hw:qD (qj s i) o=w at w1 w2 e hev;have hfl:=yq (v:=v) (w:=w) (by omega);have hself:qA (qA v w*w) w*w=qA v w*w:=kd1 (by omega) ⟨qA v w,Int.mul_comm _ _⟩;have hblk:∀ x,qA v w*w≤x→x<qA v w*w+w→qA x w*w=qA v w*w:=fun x x1 x2=>by
    rw[qI5 (by omega),qI5 (by omega)] at *
    have:x / w=v / w:=by
     generalize v / w=u at x1 x2;have h5:u≤x / w:=(Int.le_ediv_iff_mul_le (by omega)).2 x1;have h6:x / w<u+1:=Int.ediv_lt_of_lt_mul (by omega) (by rw[Int.add_mul,Int.one_mul];exact x2);omega
    rw[this]
   generalize hg:qA v w*w=g at hfl hself hblk;have ha:qS s i (max g (qj s i).low)=true:=(hH _).2 (.inr ⟨by omega,by omega⟩);have hb:qS s i (min (g+w-1) (qj s i).high)=true:=(hH _).2 (.inr ⟨by omega,by omega⟩);refine⟨max g (qj s i).low,min (g+w-1) (qj s i).high,?_,ha,hb,by omega,by omega,?_,?_,by omega⟩
   ·rw[Zl,Aq (by omega),Aq (by omega),hw,hself];have:decide (max g (qj s i).low≤min (g+w-1) (qj s i).high)=true:=Cx (by omega);rw[this];simp
   ·rw[e _ ha (by omega),hblk _ (by omega) (by omega)]
   ·rw[e _ hb (by omega),hblk _ (by omega) (by omega)]
 obtain⟨a,b,k1,ha,hb,na,nb,k2,k3,k4⟩:=key;have d1:=hd _ _ ha hv k2;have d2:=hd _ _ hb hv k3;rw[qo6,Aq k4,k1];dsimp only;rw[Aq (by simp)];by_cases l0:lev=0
 ·subst l0;rw[Aj (show ((0:Nat):Int)=0 from rfl),hC 0 (by omega) _ hv,Aj rfl]
 ·have hno:¬ ((o:Int)=0∧(qj s i).opt=true):=fun k=>by
   have o0:o=0:=by omega
   subst o0;have hms:qS s i zz=true:=(hH zz).2 (.inl ⟨k.2,rfl⟩);have h3:=hd _ _ hms hv (by rw[hC 0 (by omega) _ hv,hC 0 (by omega) _ hms,Aj rfl,Aj rfl]);rw[hC lev hl _ hv,hC lev hl _ hms,Aq l0,Aq l0,Aj rfl,Aq hmv] at h3;exact jQ7 (hM.wid lev (by omega) (by omega)) (jj1 hE hi h0 h2 (by omega) (by omega)) (by omega) h3.symm
  rw[Aq (by omega),Aq hno];rw[hC lev hl _ ha,Aq l0,Aq na] at d1;rw[hC lev hl _ hb,Aq l0,Aq nb] at d2;rw[d1,d2,beq_self_eq_true]
theorem jQ9 {s:Sch} (hE:schE s=0) {i:Nat} (hi:i<s.cols.length) (h0:0<i) {o lev:Nat} (ho:(o:Int)≤finI s i) (hl:(lev:Int)≤finI s i) {v:Int} (hv:qS s i v=true)
 (hd:∀ a b,qS s i a=true→qS s i b=true→qu s i o a=qu s i o b→qu s i lev a=qu s i lev b) :
 qP0 s i o (qu s i o v) lev=(qu s i lev v,true):=by
 rw[qP0,Aq (by rw[qa7,qa7];omega),Ax];by_cases h2:(qj s i).kind=2
 ·rw[Aj h2,jI0 hE hi h0 h2 ho hl hv hd];rfl
 ·rw[Aq h2,zR2 hE hi h0 h2 ho hl hv hd];rfl
end Go.Proofs
namespace Go.Proofs
open Go Go.TL
set_option maxRecDepth 4000
set_option maxHeartbeats 8000000
theorem jR0 {l:CodL} (h:lstE l=0) {c:Nat} (hc:c<l.codes.length):upN l.codes 0 c=0:=by
 obtain⟨hp,h1,h2⟩:=zf h;obtain⟨u1,u2⟩:=ji6 hp (v:=0) c hc (by omega);refine AQ fun hne=>?_;have hlt:upN l.codes 0 c<l.codes.length:=by omega
 have hpar:0≤parC l.codes (upN l.codes 0 c):=(qn8 h).kid _ (by omega) hlt;have:=qy2 hp hlt hpar;omega
theorem ke4 {s:Sch} (hE:schE s=0) {i:Nat} (hi:i<s.cols.length) (h0:0<i) {a:Int} (ha:qS s i a=true):qu s i 0 a=0:=by
 by_cases h2:(qj s i).kind=2
 ·have hok:=qO hE;obtain⟨_,d2⟩:=hok.cdl hi h2;have hf:=qo2 hE h0 hi;obtain⟨c,rfl,c1,c2,c3⟩:=zX2 hE hi h0 h2 (lev:=0) (by omega) ha;show qu s i ((0:Nat):Int) c=0;rw[c3,jR0 d2 c1];rfl
 ·exact zh8 hE hi h0 h2 ha
structure Kn (s:Sch) (row:List Int) (l:List Pk) (v:List Int):Prop where
 len:v.length=l.length
 val:∀ i (h:i<l.length),v.getD i 0=qu s l[i].col l[i].lev (row.getD l[i].col.toNat 0)
 pick:∀ p∈l,Ql s p=0∧0<p.lev
 asc:l.Pairwise fun a b=>a.col<b.col
end Go.Proofs
namespace Go.Proofs
open Go Go.TL
set_option maxRecDepth 4000
set_option maxHeartbeats 8000000
open So
theorem jR1 {s:Sch} {q:Qst} (hq:QstOk s q):∀ t∈q.terms,isB s t 3=true:=fun t ht=>by
 by_cases h2:q.kind=2
 ·have h:=(hq.terms h2).2;unfold wU at h;split at h
  ·cases h
  obtain⟨i,hi,rfl⟩:=CX ht;have h3:=Qh h i hi;unfold qV2 at h3;rw[qg hi] at h3;split at h3
  ·cases h3
  ·rename_i k;simpa using k
 ·rw[hq.t0 h2] at ht;simp at ht
theorem ke5 {s:Sch} {q:Qst} (hq:QstOk s q):q.meas = -1∨isB s q.meas 3=true:=by
 have hk:=hq.kind;by_cases h1:q.kind=1
 ·exact (hq.dims h1).2
 ·by_cases h2:q.kind=2
  ·exact .inr (hq.terms h2).1
  ·exact .inr (hq.event (by omega)).1
theorem jj7 {s:Sch} {d:Dcl} (h:dclE s d=0) {q:Qst} (hq:q∈d.qs) (hqe:qstE s q=0) {p:Pk} (hp:p∈qI4 s q):p.lev≤mxl (kZ s d) p.col:=by
 have hb:=qX4 (Wr hqe) p hp;obtain⟨k,hk⟩:=AJ (show 0≤p.col by omega);have hkl:k<s.cols.length:=by omega
 have h1:=zu8 hp;rw[hk,jH5 h hkl];rw[hk,← zQ8 hqe hkl] at h1;by_cases h0:0<mxl (yp s q) (k:Int)
 ·obtain⟨p2,hp2,e1,e2⟩:=qz6 h0;have h3:=zu8 (l:=zQ6 s d.qs) (p:=p2) (Ek.2 ⟨q,hq,hp2⟩);rw[e1,e2] at h3;omega
 ·have:=WA (zQ6 s d.qs) (k:Int);omega
theorem ke6 {s:Sch} {P:List Pk} (hp:kY s P=0) {c:Nat} (h0:0<c) (hc:c<s.cols.length):0≤mxl P (c:Int)∧mxl P (c:Int)≤finI s c:=by
 obtain⟨hE,hpk,_⟩:=Zd hp;have h1:=WA P (c:Int);refine⟨h1,?_⟩;by_cases k:0<mxl P (c:Int)
 ·obtain⟨p,hp,e1,e2⟩:=qz6 k;have:=Jb (hpk p hp);rw[e1] at this;omega
 ·have:=qo2 hE h0 hc;omega
theorem kk5 {x:Src} {P:List Pk} {R:List (List Int)} {i:Nat} {k:Int} {row:List Int} (pj:ByteArray) (vr:Int) (hp:kY x.sch P=0) (hi:i<R.length) (hR:R[i]=rowX x P k row) {c:Nat} (h0:0<c) (hc:c<x.sch.cols.length) (hv:qS x.sch c (row.getD c 0)=true) :
 knwP ⟨pj,vr,P,R⟩ i c=(mxl P (c:Int),qu x.sch c (mxl P (c:Int)) (row.getD c 0)):=by
 obtain⟨hE,hpk,hpw⟩:=Zd hp;cases ha:P.any fun p=>p.col==(c:Int) with
 | false=>
   have hn:∀ p∈P,p.col≠(c:Int):=fun p hp e=>by
    have:=List.any_eq_false.1 ha p hp;rw[AY] at this;exact this e
   rw[knwP,Aq (by rw[ha];simp),WS hn];rw[ke4 hE hc h0 hv]
 | true=>
   obtain⟨n,hn,e1,e2⟩:=zi2 ha;have e3:(P.findIdx fun p=>p.col==(c:Int))=n:=by
    have:idxI (fun p:Pk=>p.col==(c:Int)) P=(P.findIdx fun p=>p.col==(c:Int):Nat):=by rw[idxI,Aj ha]
    omega
   rw[AY] at e2;have hmx:mxl P (c:Int)=P[n].lev:=by
    have g1:=zu8 (AX hn);rw[e2] at g1;have g2:=Jb (hpk _ (AX hn));by_cases h3:0<mxl P (c:Int)
    ·obtain⟨p,hp,f1,f2⟩:=qz6 h3;obtain⟨m,hm,rfl⟩:=CX hp;have:m=n:=by
      rcases Nat.lt_trichotomy m n with q | q | q
      ·have:=DX.1 hpw m n hm hn q;omega
      ·exact q
      ·have:=DX.1 hpw n m hn hm q;omega
     subst this;exact f2.symm
    ·omega
   rw[knwP,Aj ha];dsimp only;rw[e3,qg hn,qg hi,hR,rowX,List.getD_cons_succ,qg (by rw[BY];exact hn),Fj,hmx,e2,Ax]
theorem jX8 {x:Src} {P:List Pk} {R:List (List Int)} {i:Nat} {k:Int} {row:List Int} (pj:ByteArray) (vr:Int) (hp:kY x.sch P=0) (hi:i<R.length) (hR:R[i]=rowX x P k row) {c:Nat} (h0:0<c) (hc:c<x.sch.cols.length) (hv:qS x.sch c (row.getD c 0)=true)
 {lev:Nat} (hl:(lev:Int)≤finI x.sch c) (hm:jr x.sch c lev≤mxl P (c:Int)):knwI x.sch ⟨pj,vr,P,R⟩ i c lev=(qu x.sch c lev (row.getD c 0),true):=by
 obtain⟨hE,_,_⟩:=Zd hp;obtain⟨f1,f2⟩:=ke6 hp h0 hc;rw[knwI,kk5 pj vr hp hi hR h0 hc hv];dsimp only;obtain⟨o,ho⟩:=AJ f1;rw[ho] at f2 hm ⊢
 refine jQ9 hE hc h0 f2 hl hv fun a b ha hb hab=>?_;obtain⟨g1,g2,g3,_⟩:=zh6 (s:=x.sch) (c:=c) (lev:=lev) (by omega) hl;rw[Ax,Ax] at g3;obtain⟨l0,hl0⟩:=AJ g2;rw[hl0] at g1 g3 hm;rw[Ax] at g3;exact kd4 hE hc h0 (by omega) hl g3 ha hb (kd2 hE hc h0 (by omega) f2 ha hb hab)
theorem ke7 {s:Sch} (hE:schE s=0) {i:Nat} (hi:i<s.cols.length) (h0:0<i) {o:Nat} (ho:(o:Int)≤finI s i) {v:Int} (hv:qS s i v=true):(zC8 s i o (qu s i o v)).2=true:=by
 have hok:=qO hE;by_cases h2:(qj s i).kind=2
 ·have hm:=(Jl hok hi h2).1 hv;have hco:upC (qK s i) v o=qu s i o v:=by
   rw[qu,Aq (by rw[Ez,wB];omega),Ax,Aj h2,Aq (by rw[hv];simp)]
  rw[zC8,Aq (by omega)];cases hf:(qJ s i).find? fun l=>upC (qK s i) l o==qu s i o v with
  | none=>
    have:=List.find?_eq_none.1 hf v hm;rw[hco] at this;simp at this
  | some y=>rfl
 ·have hM:=qg1 hE hi h0 h2;have ht:=zR2 hE hi h0 h2 ho (lev:=0) (by have:=qo2 hE h0 hi;omega) hv (fun a b ha hb _=>(zh8 hE hi h0 h2 ha).trans (zh8 hE hi h0 h2 hb).symm);rw[zC8,Aj hM.kind];rw[qo6] at ht;split at ht
  ·rename_i k;rw[Aj k];exact congrArg Prod.snd ht
  ·rename_i k;rw[Aq k];dsimp only;split at ht
   ·have:=congrArg Prod.snd ht;cases this
   ·rename_i k2;simpa using k2
theorem jI1 {x:Src} {P:List Pk} {R:List (List Int)} {k:Int} {pj:ByteArray} (hX:SrcOk x) (hk:0≤k∧k<1152921504606846976) (hp:kY x.sch P=0) (hn:jq pj=true) (hl:R.length≤200) (hA:AscR R)
 (hR:∀ i (hi:i<R.length),∃ row∈x.rows,R[i]=rowX x P k row):extE x.sch ⟨pj,x.ver,P,R⟩=0:=by
 have hv:=hX.ver;obtain⟨hE,hpk,_⟩:=Zd hp;rw[extE,Aq (by rw[hE];simp),Aq (by rw[hn];simp),Aq (by dsimp only;omega),Aq (by rw[hp];simp),Aq (by dsimp only;omega)];refine Wp fun i hi=>?_;dsimp only at hi;obtain⟨row,hrm,hr⟩:=hR i hi;have hrE:=hX.rows _ hrm;have hin:=jn3 hrE;have hkr:=zX6 (n:=hd row) hk (by omega);obtain⟨_,hrl,hrh⟩:=qy4 hrE;have hfit:fitX x.sch P R[i]=true:=by
  unfold fitX;rw[hr];have e1:hd (rowX x P k row)=keyI k (hd row):=rfl;simp only[Bq,AY,AZ,Bk,Dk];refine⟨⟨⟨by rw[rowX,CJ,BY],by rw[e1];omega⟩,by rw[e1];omega⟩,fun n hn=>?_⟩;have hpn:=Jb (hpk _ (AX hn));obtain⟨c,hc⟩:=AJ (show 0≤P[n].col by omega);obtain⟨l,hl⟩:=AJ (show 0≤P[n].lev by omega);unfold fitV;rw[qg hn,rowX,List.getD_cons_succ,qg (by rw[BY];exact hn),Fj,hc,hl,Ax];rw[hc,hl] at hpn;exact ke7 hE (by omega) (by omega) hpn.2.2.2.2 (hrh c (by omega))
 rw[zR0];dsimp only;rw[qg hi,Aq (by rw[hfit];simp),Aq];rintro ⟨a,b⟩;rw[qg (by omega)] at b;have:=DX.1 hA (i-1) i (by omega) hi (by omega);omega
end Go.Proofs
namespace Go.Proofs
open Go Go.TL
set_option maxRecDepth 4000
set_option maxHeartbeats 8000000
open So
structure AnsR (x:Src) (d:Dcl) (Y:Ext) (k:Int) (i:Nat) (r row:List Int):Prop where
 pos:0<r.length
 len:row.length=x.sch.cols.length
 dim:∀ q∈d.qs,∀ p∈q.dims,valI x.sch Y i p.col p.lev=(qu x.sch p.col p.lev (row.getD p.col.toNat 0),true)∧0≤p.col∧p.col<row.length
 mea:∀ q∈d.qs,∀ t∈q.terms++[q.meas],0≤t→valI x.sch Y i t (finI x.sch t)=(row.getD t.toNat 0,true)∧t<row.length
theorem kk6 {x:Src} {d:Dcl} {k:Int} (hX:SrcOk x) (hdE:dclE x.sch d=0) (hk:0≤k∧k<1152921504606846976) (i:Nat) (hi:i<(yr x d (kZ x.sch d) k).length) :
 ∃ (j:Nat) (hj:j<x.rows.length),zg2 x (idI k (hd (yr x d (kZ x.sch d) k)[i]))=j∧AnsR x d ⟨d.proj,x.ver,kZ x.sch d,yr x d (kZ x.sch d) k⟩ k i (yr x d (kZ x.sch d) k)[i] x.rows[j]:=by
 have hF:=zR1 hX hdE hk (kZ x.sch d);have hpp:=(zi4 hdE).1;obtain⟨hE,hn,_,_,_,_,_,hqs⟩:=qn3 hdE;have hRl:(yr x d (kZ x.sch d) k).length≤200:=by
  have h1:=hF.len;rw[ownS,BY] at h1;have:=jj4 hX d;omega
 have hext:=jI1 (pj:=d.proj) (R:=yr x d (kZ x.sch d) k) hX hk hpp hn hRl hF.asc fun i hi=>by
  obtain⟨j,hj,e,_⟩:=hF.row i hi;exact⟨_,AX hj,e⟩
 obtain⟨j,hj,e1,e2,e3,_⟩:=hF.row i hi;have hrE:=qy4 (hX.rows _ (AX hj));have hval:∀ c lev,valI x.sch ⟨d.proj,x.ver,kZ x.sch d,yr x d (kZ x.sch d) k⟩ i c lev=knwI x.sch ⟨d.proj,x.ver,kZ x.sch d,yr x d (kZ x.sch d) k⟩ i c lev:=fun c lev=>by
  rw[valI,Aq (by rw[hext];dsimp only;omega),Ax]
 have hq:∀ q∈d.qs,qstE x.sch q=0:=fun q hq=>by
  obtain⟨n,hn,rfl⟩:=CX hq;have:=hqs n hn;rw[qAt,qg hn] at this;exact this
 refine⟨j,hj,by rw[e3,e2],by rw[e1];exact ji0 _ _ _ _,hrE.2.1,fun q hq1 p hp=>?_,fun q hq1 t ht h0=>?_⟩
 ·have hqk:=Wr (hq q hq1);obtain⟨_,p1,p2,p3,p4⟩:=Jb (zh5 hqk p hp).1;obtain⟨c,hc⟩:=AJ (show 0≤p.col by omega);obtain⟨l,hl⟩:=AJ p3;have hm:=jj7 hdE hq1 (hq q hq1) (p:=⟨p.col,jr x.sch p.col p.lev⟩) (by
   unfold qI4 dmP;exact List.mem_append_left _ (List.mem_append_left _ (Cj.2 ⟨p,hp,rfl⟩)))
  dsimp only at hm;refine⟨?_,by omega,by omega⟩;rw[hval,hc,hl,Ax];rw[hc,hl] at hm p4;exact jX8 d.proj x.ver hpp hi e1 (by omega) (by omega) (hrE.2.2 c (by omega)) p4 hm
 ·have hqk:=Wr (hq q hq1);have hB:isB x.sch t 3=true:=by
   rcases Dz.1 ht with a | a
   ·exact jR1 hqk t a
   ·rw[Ey.1 a] at h0 ⊢
    rcases ke5 hqk with b | b
    ·omega
    ·exact b
  obtain⟨b1,b2,b3⟩:=zH.1 hB;obtain⟨c,rfl⟩:=AJ b1;rw[Ax] at b3;have c0:0<c:=by
   rcases DQ c with e | e
   ·subst e;have:=(qO hE).c0;omega
   ·exact e
  have hus:usB q c=true:=by
   unfold usB zW1;rw[Bq,AZ];refine⟨by omega,?_⟩;rcases Dz.1 ht with a | a
   ·rw[FQ.2 a];simp
   ·rw[Ey.1 a];simp
  obtain⟨f,hf⟩:=AJ (show 0≤finI x.sch c by have:=qo2 hE c0 (by omega);omega);have hm:=jj7 hdE hq1 (hq q hq1) (p:=⟨c,jr x.sch c (finI x.sch c)⟩) (by
   unfold qI4;exact List.mem_append_left _ (List.mem_append_right _ (zX1.2 ⟨c,by omega,hus,rfl⟩)))
  dsimp only at hm;have hv:=hrE.2.2 c (by omega);have hcf:=kj7 hE (i:=c) (by omega) c0 hv;refine⟨?_,by omega⟩;rw[hf] at hm hcf;rw[hval,hf,Ax,jX8 d.proj x.ver hpp hi e1 c0 (by omega) hv (by omega) hm,hcf]
end Go.Proofs
namespace Go.Proofs
open Go Go.TL
set_option maxRecDepth 4000
set_option maxHeartbeats 8000000
open So
theorem qj0 (bs:List UInt8):Spc Tryz.prog Zm [vL bs] [] (vB true) []:=by
 have hl4:(bs.take 400).length≤400:=by rw[Cz];omega
 obtain⟨x,d,a1,a2,hX,h12,hsm,hL,hdE,ha1,ha2,sS,sDd⟩:=kl8 8 (by omega) (bs.take 400) 0 hl4 (by omega);obtain⟨k,a3,hk1,hk2,ha3,sK⟩:=jP2 (bs.take 400) a2 hl4 ha2;have hk:=Az hk1 hk2;have sP:=zP0 x.sch hsm.1 hL d;rw[hdE] at sP;have hpl:=zO9 x.sch d;have hck:=ke3 hdE;obtain⟨e1,e2⟩:=ke2 hX.ok hdE hk hck;have sB:=qo5 x d (kZ x.sch d) k hsm h12 (by omega);rw[e1,e2] at sB;have hA:=fun i hi=>kk6 hX.ok hdE hk i hi;have hRl:∀ r∈yr x d (kZ x.sch d) k,r.length≤1000000:=fun r hr=>by
  obtain⟨r0,_,_,e⟩:=(qq5 hX.ok hdE hk r).1 hr;rw[e,rowX,CJ,BY];omega
 have hRn:(yr x d (kZ x.sch d) k).length≤200:=by
  have h1:=(zR1 hX.ok hdE hk (kZ x.sch d)).len;have h2:=jj4 hX.ok d;rw[ownS,BY] at h1;omega
 obtain⟨hE,_,_,_,_,_,hq8,hqs⟩:=qn3 hdE;have hq:∀ q∈d.qs,QstOk x.sch q:=fun q hq=>by
  obtain⟨n,hn,rfl⟩:=CX hq;have:=hqs n hn;rw[qAt,qg hn] at this;exact Wr this
 generalize kZ x.sch d=P at sP hpl hck e1 e2 sB hA hRl hRn;generalize yr x d P k=R at sB hA hRl hRn;have sV:=fun i c lev=>qo9 x.sch hsm.1 ⟨d.proj,x.ver,P,R⟩ (by dsimp only;omega) (fun r hr=>by have:=hRl r hr;omega) i c lev;refine qd qd6 mixm (by simp) fun e _ hst=>qh ?_;unfold kA;refine sW ?_;refine C1.newdraw 8196 (jm9 bs) rfl rfl ?_;generalize bs.take 400=m at hl4 sS sDd sK ha1 ha2 ha3 ⊢
 refine sW ?_;refine C1.draw 8196 m 0 _ sS rfl rfl rfl ?_;refine sW ?_;refine C1.draw 8196 m a1 _ sDd rfl rfl rfl ?_;refine sW ?_;refine C1.im sP (by rfl) (by rfl) ?_;refine sW ?_;refine C1.draw 8196 m a2 _ sK rfl rfl rfl ?_;refine sW ?_;refine C1.im sB (by rfl) (by rfl) ?_;simp only[tZ,↓un_u,simprocAttr,bne_self_eq_false];refine qw mixm (α:=Nat) [56] (fun i=>i≤R.length) (fun i=>[(56,vI i)]) (fun i=>[(12296,.arr 5 [srcT x] false),(16392,.arr 2 [schT x.sch] false),(20492,.arr 12 [dclT d] false),(32800,.arr 4 [extT ⟨d.proj,x.ver,P,R⟩] false)]) (fun i=>R.length-i) 0 (by omega) ?_ fun i hi=>?_
 ·exact .oA [(12296,some 12296),(16392,some 16392),(20492,some 20492),(32800,some 32800)] []
 refine sD ?_;refine⟨fun h4=>?_,fun h4=>?_⟩
 ·have hi2:i<R.length:=by omega
  have hwi:=qk (i:=i) (by omega);obtain⟨j,hj,hfi,hAn⟩:=hA i hi2;have hrp:=hAn.pos;have hgi:=yl hrp;have sId:=jn4 k (hd R[i]);have sFd:=zP3 x (idI k (hd R[i])) (by omega);rw[hfi] at sFd;have hVi:=fun c lev=>sV i c lev;have hdim:=hAn.dim;have hmea:=hAn.mea;have hlen:=hAn.len;have q1:decide ((R[i].length:Int)>0)=true:=Cx (by omega);simp only[tZ,↓un_u,simprocAttr,Ax,qe hi2,q1,hgi];refine⟨by omega,by omega,?_⟩;refine C1.im sId (by rfl) (by rfl) ?_;refine sW ?_;refine C1.im sFd (by rfl) (by rfl) ?_;have q2:decide ((j:Int)<0)=false:=Cq (by omega);simp only[tZ,↓un_u,simprocAttr,q2,Ax,qe hj];refine⟨by kernel_rfl,by omega,?_⟩;generalize x.rows[j]=row at hdim hmea hlen ⊢
  generalize (⟨d.proj,x.ver,P,R⟩:Ext)=Y at hdim hmea hVi;refine qw mixm (α:=Nat) [81] (fun n=>n≤d.qs.length) (fun n=>[(81,vI n)]) (fun n=>[(12296,.arr 5 [srcT x] false),(16392,.arr 2 [schT x.sch] false),(20492,.arr 12 [dclT d] false),(32800,.arr 4 [extT Y] false)]) (fun n=>d.qs.length-n) 0 (by omega) ?_ fun n hn=>?_
  ·exact .oA [(12296,some 12296),(16392,some 16392),(20492,some 20492),(32800,some 32800)] []
  refine sD ?_;refine⟨fun h5=>?_,fun h5=>?_⟩
  ·have hn2:n<d.qs.length:=by omega
   have hwn:=qk (i:=n) (by omega);have hqm:=AX hn2;have hqd:=hdim _ hqm;have hqt:=hmea _ hqm;have hqk:=hq _ hqm;simp only[tZ,↓un_u,simprocAttr,Ax,qe hn2];refine⟨by omega,?_⟩;generalize d.qs[n]=q at hqm hqd hqt hqk ⊢
   have hnd:=hqk.nd;have hnt:=hqk.nt;refine qw mixm (α:=Nat) [88] (fun z=>z≤q.dims.length) (fun z=>[(88,vI z)]) (fun z=>[(12296,.arr 5 [srcT x] false),(16392,.arr 2 [schT x.sch] false),(20492,.arr 12 [dclT d] false),(32800,.arr 4 [extT Y] false),(90120,.arr 17 [qstT q] false)]) (fun z=>q.dims.length-z) 0 (by omega) ?_ fun z hz=>?_
   ·exact .oA [(12296,some 12296),(16392,some 16392),(20492,some 20492),(32800,some 32800),(90120,some 90120)] []
   refine sD ?_;refine⟨fun h6=>?_,fun h6=>?_⟩
   ·have hz2:z<q.dims.length:=by omega
    have hwz:=qk (i:=z) (by omega);obtain⟨v1,v2,v3⟩:=hqd _ (AX hz2);have sVz:=hVi q.dims[z].col q.dims[z].lev;rw[v1] at sVz;dsimp only at sVz;have sCz:=jP x.sch hsm.1 q.dims[z].col q.dims[z].lev (row.getD q.dims[z].col.toNat 0);have hcl:q.dims[z].col.toNat<row.length:=by omega
    have hgc:(row.map vI).getD q.dims[z].col.toNat .junk=vI (row.getD q.dims[z].col.toNat 0):=by rw[qe hcl,qg hcl]
    simp only[tZ,↓un_u,simprocAttr,Ax,qe hz2];refine⟨by omega,?_⟩;refine C1.im sVz (by rfl) (by rfl) ?_;simp only[tZ,↓un_u,simprocAttr,hgc];refine⟨by omega,?_⟩;refine C2.im (fun _=>sCz) (fun _=>rfl) (by rfl) ?_;simp only[tZ,↓un_u,simprocAttr,bne_self_eq_false,hwz];refine⟨by kernel_rfl,z+1,by omega,by omega,?_⟩;exact .oA [(12296,some 12296),(16392,some 16392),(20492,some 20492),(32800,some 32800),(90120,some 90120)] []
   ·refine⟨by omega,by omega,by kernel_rfl,?_⟩;have hMl:(q.terms++[q.meas]).length=q.terms.length+1:=by simp
    have hMm:List.map vI q.terms++[vI q.meas]=(q.terms++[q.meas]).map vI:=by rw[By];rfl
    rw[hMm,← hMl];generalize q.terms++[q.meas]=M at hqt hMl ⊢
    refine qw mixm (α:=Nat) [129] (fun z=>z≤M.length) (fun z=>[(129,vI z)]) (fun z=>[(12296,.arr 5 [srcT x] false),(16392,.arr 2 [schT x.sch] false),(20492,.arr 12 [dclT d] false),(32800,.arr 4 [extT Y] false),(122888,.arr 1 (M.map vI) false)]) (fun z=>M.length-z) 0 (by omega) ?_ fun z hz=>?_
    ·exact .oA [(12296,some 12296),(16392,some 16392),(20492,some 20492),(32800,some 32800),(122888,some 122888)] []
    refine sD ?_;refine⟨fun h7=>?_,fun h7=>?_⟩
    ·have hz2:z<M.length:=by omega
     have hwz:=qk (i:=z) (by omega);simp only[tZ,↓un_u,simprocAttr,Ax,qe hz2,tD,hwz];refine⟨by omega,by omega,fun h8=>?_,fun h8=>?_⟩
     ·refine⟨z+1,by omega,by omega,?_⟩;exact .oA [(12296,some 12296),(16392,some 16392),(20492,some 20492),(32800,some 32800),(122888,some 122888)] []
     obtain⟨v1,v2⟩:=hqt _ (AX hz2) (by omega);have sFz:=kK x.sch hsm.1 M[z];have sVz:=hVi M[z] (finI x.sch M[z]);rw[v1] at sVz;dsimp only at sVz;have hcl:M[z].toNat<row.length:=by omega
     have hgc:(row.map vI).getD M[z].toNat .junk=vI (row.getD M[z].toNat 0):=by rw[qe hcl,qg hcl]
     refine C1.im sFz (by rfl) (by rfl) ?_;refine sW ?_;refine C1.im sVz (by rfl) (by rfl) ?_;simp only[tZ,↓un_u,simprocAttr,hgc,bne_self_eq_false,hwz];refine⟨by kernel_rfl,?_⟩;refine⟨by omega,z+1,by omega,by omega,?_⟩;exact .oA [(12296,some 12296),(16392,some 16392),(20492,some 20492),(32800,some 32800),(122888,some 122888)] []
    ·simp only[tZ,↓un_u,simprocAttr,hwn];refine⟨n+1,by omega,by omega,?_⟩;exact .oA [(12296,some 12296),(16392,some 16392),(20492,some 20492),(32800,some 32800)] []
  ·simp only[tZ,↓un_u,simprocAttr,hwi];refine⟨i+1,by omega,by omega,?_⟩;exact .oA [(12296,some 12296),(16392,some 16392),(20492,some 20492),(32800,some 32800)] []
 ·refine C1.im zD9 (by rfl) (by rfl) ?_;refine sW ?_;exact .oA [] []
end Go.Proofs
