/- A part of the proof: trees of Go values, short forms, contracts. -/
import Derived.Test.YthbdcffpkbmlaaaGreatDoorK22
namespace Go.Proofs
open Go Go.TL
set_option maxRecDepth 4000
set_option maxHeartbeats 4000000
abbrev cAll:Cnd:=.mk 1 0 0 0 0 []
abbrev qT (c:Cnd) (ds:List Pk):Qst:=⟨⟨#[116]⟩,1,c,ds,-1,[],cnd0⟩
theorem KZ {s:Sch} (hE:schE s=0):chkC s cAll=0:=by
 unfold chkC;rw[Aq (by rw[hE];simp),Aq (by decide),Aq (by decide)]
 rfl
theorem q_ok {s:Sch} (hE:schE s=0) {c:Cnd} (hc:chkC s c=0) {ds:List Pk} (hd:wB s ds=0) (nm:ByteArray) (hn:jr nm=true):qstE s ⟨nm,1,c,ds,-1,[],cnd0⟩=0:=by
 unfold qstE qm3;dsimp only;rw[Aq (by rw[hE];simp),Aq (by rw[hn];simp),Aq oM,Aq (by rw[hc];simp),Aj rfl,Aq (by rw[hd];simp),Aq (by rw[show qj1 cnd0 cnd0=true by kernel_rfl];simp)]
theorem zN6 {s:Sch} (hE:schE s=0) {a:List Pk} (h:∀ p∈a,js s p=0):covB a (ju s (s.cols.length-1))=true:=by
 unfold covB;rw[Bk];intro p hp;have:=zW (h p hp);rw[DJ];refine⟨⟨p.col,finI s p.col⟩,Cj.2 ⟨p.col.toNat-1,Dk.2 oM,?_⟩,?_⟩
 ·rw[show ((p.col.toNat-1+1:Nat):Int)=p.col by omega]
 ·simp only[beq_self_eq_true,Fq,AZ];omega
theorem zc8 {s:Sch} (h:DrS s):dclE s allD=0:=by
 have hE:=h.ok;have hq:qstE s allQ=0:=q_ok hE (KZ hE) (ds:=[⟨1,0⟩]) (by
  obtain⟨k1,k2⟩:=h.code;have hb:isB s 1 2=true:=by
   obtain⟨ms,hc,h1,h3⟩:=h.cs;rw[jk];rcases hc with⟨hc,hm⟩ | ⟨hc,hm⟩
   ·refine⟨oM,by rw[hc];simp;omega,by rw[qj,hc];rfl⟩
   ·refine⟨oM,by rw[hc];simp;omega,by rw[qj,hc];rfl⟩
  have hb2:=jk.1 hb;have hf:0≤finI s 1:=zc7 hE (c:=1) oM oM;have hp:js s ⟨1,0⟩=0:=by
   unfold js;dsimp only;rw[Aq (by rw[hE];simp),Aq oM,Aq];rw[qm4];omega
  unfold wB;rw[Aq sMp];refine wO fun i hi=>?_;have:i=0:=by simp at hi;exact hi
  subst this;unfold dimE pkAt;simp only[List.getD_cons_zero,hp,hb];simp) ⟨#[113]⟩ kR
 unfold dclE;rw[Aq (by rw[hE];simp),Aq (by rw[show jr allD.proj=true by kernel_rfl,show jr allD.src=true by kernel_rfl];simp),Aq (by rw[show chkC s allD.coh=0 from KZ hE];simp),Aq (by decide),Aq (by decide)];refine wO fun i hi=>?_;have:i=0:=by simp [allD] at hi;exact hi
 subst this;unfold qsE;rw[show qAt allD.qs 0=allQ from rfl,hq];simp
theorem jA0 {x:Src} (hX:DrX x) {k:Int} (hk:0≤k∧k<1152921504606846976):buildE x allD (ju x.sch (x.sch.cols.length-1)) k=0:=by
 have hE:=hX.sch.ok;have hd:=zc8 hX.sch;unfold buildE zp2;rw[qA7.2 hX.ok,hd,yK hE];have hs:∀ i,i<allD.qs.length→sufB x.sch (qAt allD.qs i) (ju x.sch (x.sch.cols.length-1))=true:=fun i hi=>by
  obtain⟨_,_,_,_,_,_,_,hq⟩:=jl1 hd;have:=hq i hi;unfold sufB;rw[this,yK hE,zN6 hE (wP (qB4 this)).2.1]
  rfl
 rw[wO fun i hi=>by rw[Aj (hs i hi)]];simp;omega
theorem jo6 {x:Src} (hX:DrX x):ownR x allD=x.rows:=by
 have hE:=hX.sch.ok;unfold ownR;rw[Aq (by rw[qA7.2 hX.ok,zc8 hX.sch];simp),List.filter_eq_self];intro r hr;have hrow:=hX.ok.rows r hr;have hin:=zS1 hrow;unfold ownP;rw[Bq,AY];refine⟨?_,?_⟩
 ·unfold qZ8;rw[Aq (by rw[show chkC x.sch allD.coh=0 from KZ hE,hrow];simp)]
  rfl
 ·unfold inS;have e1:(drwI allD.smp.seed (hd r)).tmod allD.smp.of<allD.smp.part:=by
   show (drwI _ (hd r)).tmod 1<1;rw[Int.tmod_one];decide
  rw[Cx e1,Cx (show 1≤hd r by omega),Cx (show hd r≤1048575 by omega)]
  rfl
theorem qR9 {x:Src} (hX:DrX x) {k:Int} (hk:0≤k∧k<1152921504606846976) (P:List Pk):(yq x allD P k).Perm (x.rows.map (rowX x P k)):=by
 have h:=hX.ok;have hd0:=zc8 hX.sch;have hpw:=jn7 (d:=allD) h hk;obtain⟨q1,_,_⟩:=zA7 x P k (ownR x allD) [] List.Pairwise.nil sMp;have hnd1:((ownR x allD).map (rowX x P k)).Nodup:=by
  refine List.pairwise_map.2 (hpw.imp fun {a b} h e=>h ?_);have:=congrArg hd e;exact this
 have hnd2:(yq x allD P k).Nodup:=q1.imp fun {a b} h e=>by rw[e] at h;omega
 rw[← jo6 hX];refine (List.perm_ext_iff_of_nodup hnd2 hnd1).2 fun r=>?_;rw[qj9 h hd0 hk,Cj];constructor
 ·rintro ⟨r0,a,b,rfl⟩;exact⟨r0,(YS h hd0 r0).2 ⟨a,b⟩,rfl⟩
 ·rintro ⟨r0,a,rfl⟩;obtain⟨b,c⟩:=(YS h hd0 r0).1 a;exact⟨r0,b,c,rfl⟩
theorem zT3 {x:Src} (hX:DrX x) {k:Int} (hk:0≤k∧k<1152921504606846976) (pj:ByteArray) (vr:Int) {ds:List Pk} (hD:DmsOk x.sch ds) (hS:chkS (spSz x.sch)=0) {n:Nat} (hn:(n:Int)<pubN (tabG x.sch ds)) :
 (((((List.range (yq x allD (ju x.sch (x.sch.cols.length-1)) k).length).map (linD x.sch ⟨pj,vr,ju x.sch (x.sch.cols.length-1),yq x allD (ju x.sch (x.sch.cols.length-1)) k⟩ ds)).filter (inC (YK x.sch ds n))).length:Nat):Int)
   = pubV (spSz x.sch) (tabG x.sch ds) (cntL (spSz x.sch) (x.rows.map (atW x.sch))) n:=by
 have hE:=hX.sch.ok;have hp:=qR9 hX hk (ju x.sch (x.sch.cols.length-1));generalize yq x allD (ju x.sch (x.sch.cols.length-1)) k=R at hp;obtain⟨g,hg⟩:∃ g:List Int→Lin,g=fun r=>linD x.sch ⟨pj,vr,ju x.sch (x.sch.cols.length-1),[r]⟩ ds 0:=⟨_,rfl⟩;have h1:(List.range R.length).map (linD x.sch ⟨pj,vr,ju x.sch (x.sch.cols.length-1),R⟩ ds)=R.map g:=by
  refine List.ext_getElem (by rw[BY,BY,List.length_range]) fun i hi1 hi2=>?_;have hi:i<R.length:=by rw[BY] at hi2;exact hi2
  rw[Fj,Fj,List.getElem_range];subst hg;unfold linD knwI knwP;dsimp only;rw[qg hi]
  rfl
 have h2:∀ r∈x.rows,g (rowX x (ju x.sch (x.sch.cols.length-1)) k r)=(keyI k (hd r),lcD x.sch ds r):=fun r hr=>by
  rw[hg];unfold linD;dsimp only;rw[jW6 hE pj vr (R:=[rowX x (ju x.sch (x.sch.cols.length-1)) k r]) (i:=0) sMp rfl (hX.ok.rows r hr) hD]
  rfl
 rw[h1,((hp.map g).filter _).length_eq,Gz];have e:x.rows.map (g ∘ rowX x (ju x.sch (x.sch.cols.length-1)) k)=x.rows.map fun r=>(keyI k (hd r),lcD x.sch ds r):=Ew fun r hr=>h2 r hr;rw[e,zr3 (kY.1 hS) _ (fun a ha=>by
  obtain⟨r,hr,rfl⟩:=Cj.1 ha;exact zs4 (hX.ok.rows r hr))]
 rw[List.filter_map,List.filter_map,BY,BY]
 congr 2
 refine List.filter_congr fun r hr=>?_;have hrow:=hX.ok.rows r hr;rw[Bool.eq_iff_iff];show inC (YK x.sch ds n) (keyI k (hd r),lcD x.sch ds r)=true↔(ofS (spSz x.sch) (tabG x.sch ds) (numL (spSz x.sch) (atW x.sch r))==(n:Int))=true;rw[jW3 hrow hS hD hn,AY,jV8 hrow hS ds ⟨oM,hn⟩]
def wtbE (s:Sch) (t:Tbl) (n:Int):Int:=
 if spcE s≠0 then spcE s else if qe5 s t.dims=false then 23
 else if ((List.range (tabN s t)).any fun k=>decide (tabK s t k<0))=true then 21
 else if n<0∨n≥24∨((List.range (tabN s t)).any fun k=>!okV (tabV s t k))=true then 2 else 0
def wtbR (s:Sch) (t:Tbl) (n:Int):Rls:=if wtbE s t n≠0 then ⟨0,[],[]⟩ else ⟨n,tabG s t.dims,(List.range (tabN s t)).map (tabV s t)⟩
theorem jI3 {cs:List Cod} (h:qi6 cs) {lev:Nat}:∀ (m c:Nat),c<m→c<cs.length→lev≤dep cs c→upF cs lev (c+1) c<cs.length∧dep cs (upF cs lev (c+1) c)=lev
 | 0,_,h,_,_=>by omega
 | m+1,c,hm,hc,hl=>by
   by_cases e:lev<dep cs c
   ·obtain⟨a,b,d,q⟩:=up_step h hc e;rw[q];exact jI3 h m _ oM oM oM
   ·rw[zo7 oM];exact⟨hc,oM⟩
theorem jZ1 {s:Sch} (hok:SchOk s) {c:Int} (hc:CdC s c) {v lev:Int} (hv:v∈qA s c.toNat) (hl:0≤lev∧lev≤zA (qK s c.toNat)-1):upC (qK s c.toNat) v lev∈atL (qK s c.toNat) lev:=by
 have hr:=hc.rng;obtain⟨_,d2⟩:=hok.cdl (i:=c.toNat) oM hc.kind;obtain⟨n,rfl,h1,h2⟩:=(Wp hok oM hc.kind).1 hv;obtain⟨e,rfl⟩:=AJ hl.1;obtain⟨hp,_,_⟩:=ze d2;unfold upC;rw[Aq (by rw[Ax];omega),Ax,Ax];obtain⟨q1,q2⟩:=jI3 hp (lev:=e) (n+1) n oM h1 oM;exact (qZ5 d2).2 ⟨_,q1,oM,rfl⟩
theorem zN7 (s:Sch):∀ (l:List Pk) (y:List Int),y.length=l.length→(∀ a (h:a<l.length),y.getD a 0∈-1::atL (qK s l[a].col.toNat) l[a].lev)→y∈lstD s l
 | [],[],_,_=>by simp [lstD]
 | [],_::_,h,_=>by simp at h
 | _::_,[],h,_=>by simp at h
 | d::r,c::y,h,hx=>by
   have h0:=hx 0 sMp;have ih:=zN7 s r y (by simpa using h) fun a ha=>by
    have:=hx (a+1) (by simpa using ha);simpa using this
   exact Ek.2 ⟨c,by simpa using h0,Cj.2 ⟨y,ih,rfl⟩⟩
theorem jA1 {s:Sch} (hE:schE s=0) (hS:chkS (spSz s)=0) {ds:List Pk} (hD:DmsOk s ds) {k:Nat} (hk:(k:Int)<pubN (tabG s ds)):YK s ds k∈lstD s ds:=by
 have hok:=qO hE;have hV:=YQ hE hS ds;have hin:=(jg (sz:=(tabG s ds).map gN) hV.gsz (show (0:Int)≤k by omega)).1;refine zN7 s ds _ (qf2 s ds k) fun a ha=>?_;rw[zc4 ha];have hm:=hD.mem ha;obtain⟨b1,b2⟩:=Qs hm;have hj:plD s ds a<((tabG s ds).map gN).length:=by
  unfold plD tabG;rw[qg ha,BY,BY];exact b1
 have h1:=jo1 hin hj;have hG:∀ j (hj:j<(qR s 2).length),((tabG s ds).map gN).getD j 0=gN (vwG s ds ((qR s 2)[j])):=fun j hj=>by
  rw[qg (by unfold tabG;rw[BY,BY];exact hj)];unfold tabG;rw[Fj,Fj]
 have h2:((tabG s ds).map gN).getD (plD s ds a) 0=((ofD s ds a).length:Int):=by
  have e4:(qR s 2)[idxN ds[a].col (qR s 2)]=ds[a].col:=by rw[qg b1] at b2;exact b2
  have e5:=hG _ b1;rw[e4,zs3 hok ds (hD.cd ha),hD.at_ ha,Aj ha,qg ha] at e5;unfold ofD plD;rw[qg ha,e5]
 rw[h2] at h1;have h3:((zd ((tabG s ds).map gN) k).getD (plD s ds a) 0).toNat<(ofD s ds a).length:=by omega
 rw[qg h3];have hpk:=zW (hD.pick a ha);have hfi:=(kz (s:=s) (c:=ds[a].col) oM).2.2.2;rw[Aj (hD.kind a ha)] at hfi;have hmem:=AX h3;unfold ofD at hmem ⊢
 simp only[qg ha] at hmem ⊢
 obtain⟨v,hv,e⟩:=jo0 _ _ _ hmem;refine CQ _ ?_;have e2:(grpL s ds[a].col.toNat ds[a].lev).2[((zd ((tabG s ds).map gN) k).getD (plD s ds a) 0).toNat]'(by unfold ofD at h3;simp only[qg ha] at h3;exact h3)=upC (qK s ds[a].col.toNat) v ds[a].lev:=e;rw[e2];exact jZ1 hok (hD.cd ha) hv oM
theorem jW7 {ls:List Lin} {L:List (List Int)} {y:List Int} (h:y∈L):0≤fndC (L.map (tclF ls)) y∧(L.map (tclF ls)).getD (fndC (L.map (tclF ls)) y).toNat ⟨[],0,0,0,0,0,[]⟩=tclF ls y:=by
 have ha:(L.map (tclF ls)).any (fun c=>KQ c.codes y)=true:=DJ.2 ⟨tclF ls y,Cj.2 ⟨y,h,rfl⟩,zo8.2 rfl⟩;unfold fndC;rw[Aj ha,Ax];refine⟨oM,?_⟩;have hlt:(L.map (tclF ls)).findIdx (fun c=>KQ c.codes y)<(L.map (tclF ls)).length:=List.findIdx_lt_length.2 (by
  obtain⟨a,b,c⟩:=DJ.1 ha;exact⟨a,b,c⟩)
 have h1:=List.findIdx_getElem (xs:=L.map (tclF ls)) (p:=fun c=>KQ c.codes y) (w:=hlt);rw[qg hlt];generalize (L.map (tclF ls)).findIdx (fun c=>KQ c.codes y)=j at hlt h1 ⊢
 rw[Fj] at h1 ⊢
 have e:L[j]'(by simpa using hlt)=y:=zo8.1 h1;rw[e]
abbrev wX (x:Src) (k:Int):Ext:=⟨allD.proj,x.ver,ju x.sch (x.sch.cols.length-1),yq x allD (ju x.sch (x.sch.cols.length-1)) k⟩
abbrev wT (x:Src) (k:Int) (ds:List Pk):Tbl:=⟨ds,-1,KY x.sch (wX x k) ds fun _=>1⟩
theorem zT4 {x:Src} (hX:DrX x) {k:Int} (hk:0≤k∧k<1152921504606846976) {ds:List Pk} (hD:DmsOk x.sch ds) (hS:chkS (spSz x.sch)=0) {n:Nat} (hn:(n:Int)<pubN (tabG x.sch ds)) :
 0≤tabK x.sch (wT x k ds) n∧tabV x.sch (wT x k ds) n=pubV (spSz x.sch) (tabG x.sch ds) (cntL (spSz x.sch) (x.rows.map (atW x.sch))) n:=by
 have hE:=hX.sch.ok;obtain⟨h1,h2⟩:=jW7 (ls:=(qL6 (wX x k) fun _=>1).map (linD x.sch (wX x k) ds)) (jA1 hE hS hD hn);have h3:=zT3 hX hk allD.proj x.ver hD hS hn;have h4:(qL6 (wX x k) fun _=>1)=List.range (wX x k).rows.length:=by
  unfold qL6;exact List.filter_eq_self.2 fun _ _=>rfl
 refine⟨h1,?_⟩;unfold tabV tabK;show (((KY x.sch (wX x k) ds fun _=>1)).getD (fndC (KY x.sch (wX x k) ds fun _=>1) (YK x.sch ds n)).toNat ⟨[],0,0,0,0,0,[]⟩).cnt=_;unfold KY;rw[h2,h4];exact h3
theorem jo7 (sz:List Int) {ats:List (List Int)} (h:ats.length≤1000000):(cntL sz ats).all okV=true:=by
 rw[Bk];intro v hv;obtain⟨c,_,rfl⟩:=Cj.1 hv;have:=Fx (fun a=>numL sz a==c) ats;unfold okV;simp only[Bq,AZ];omega
theorem jI4 {sz:List Int} {gs:List (List Int)} (h:SpOk sz) {ats:List (List Int)} (hat:∀ a∈ats,inR sz a) (k:Int):0≤pubV sz gs (cntL sz ats) k∧pubV sz gs (cntL sz ats) k≤ats.length:=by
 rw[zr3 h ats hat];have:=Fx (fun a=>ofS sz gs (numL sz a)==k) ats;omega
theorem jo8 {x:Src} (hX:DrX x) {k:Int} (hk:0≤k∧k<1152921504606846976) {ds:List Pk} (hB:qe5 x.sch ds=true) (hS:chkS (spSz x.sch)=0):wtbE x.sch (wT x k ds) 3=0∧
 wtbR x.sch (wT x k ds) 3=⟨3,tabG x.sch ds,(List.range (pubN (tabG x.sch ds)).toNat).map fun n=>pubV (spSz x.sch) (tabG x.sch ds) (cntL (spSz x.sch) (x.rows.map (atW x.sch))) ((n:Nat):Int)⟩:=by
 have hE:=hX.sch.ok;have hD:=zc2 hB;have hnr:=hX.ok.nr;have hat:∀ a∈x.rows.map (atW x.sch),inR (spSz x.sch) a:=fun a ha=>by
  obtain⟨r,hr,rfl⟩:=Cj.1 ha;exact zs4 (hX.ok.rows r hr)
 have hC:=fun (n:Nat) (hn:n<(pubN (tabG x.sch ds)).toNat)=>zT4 hX hk hD hS (n:=n) oM;have hv:=fun n:Nat=>jI4 (gs:=tabG x.sch ds) (kY.1 hS) hat (n:Int);have h0:wtbE x.sch (wT x k ds) 3=0:=by
  unfold wtbE;have e1:spcE x.sch=0:=by unfold spcE;rw[Aq (by rw[hE];simp),hS]
  rw[e1,Aq sMp,Aq (by rw[show (wT x k ds).dims=ds from rfl,hB];simp),Aq,Aq]
  ·rintro (h | h | h)
   ·omega
   ·omega
   ·obtain⟨n,hn,h2⟩:=DJ.1 h;rw[Dk] at hn;have h3:=hC n hn;have h4:=hv n;rw[BY] at h4;rw[h3.2] at h2;unfold okV at h2;simp only[Bx,FJ,Ay] at h2;omega
  ·rw[Bool.not_eq_true,List.any_eq_false];intro n hn;rw[Dk] at hn;have h3:=hC n hn;rw[AZ];omega
 refine⟨h0,?_⟩;unfold wtbR;rw[h0,Aq sMp]
 congr 1
 exact Ew fun n hn=>(hC n (Dk.1 hn)).2
theorem zN8 {sz:List Int} {gs:List (List Int)} {t:List Int}:∀ (vs:List Int) (k:Nat),(∀ i (h:i<vs.length),vs[i]=pubV sz gs t ((k+i:Nat):Int))→zo0 sz gs t vs k=true
 | [],_,_=>rfl
 | n::r,k,h=>by
   have h0:=h 0 sMp;simp only[List.getElem_cons_zero,Nat.add_zero] at h0;have ih:=zN8 r (k+1) fun i hi=>by
    have:=h (i+1) (by simpa using hi);rw[List.getElem_cons_succ] at this;rw[this,show k+(i+1)=k+1+i by omega]
   unfold zo0;rw[ih,← h0];simp
theorem zt3 {sz:List Int} {gs:List (List Int)}:∀ (vs:List Int) (k:Nat),(∀ v∈vs,v≠-1)→(wz sz gs vs k).length=vs.length
 | [],_,_=>rfl
 | n::r,k,h=>by
   unfold wz;rw[Aq (h n sMp),CJ,CJ,zt3 r (k+1) fun v hv=>h v (CQ _ hv)]
theorem zT5 {x:Src} (hX:DrX x) {ds:List Pk} (hS:chkS (spSz x.sch)=0) (r:Rls) (hr:r=⟨3,tabG x.sch ds,(List.range (pubN (tabG x.sch ds)).toNat).map fun n=>pubV (spSz x.sch) (tabG x.sch ds) (cntL (spSz x.sch) (x.rows.map (atW x.sch))) ((n:Nat):Int)⟩) :
 rlsC (spSz x.sch) [r]=0∧(tell (spSz x.sch) r).length=r.vals.length∧JS (tell (spSz x.sch) r) (cntL (spSz x.sch) (x.rows.map (atW x.sch)))=true:=by
 have hE:=hX.sch.ok;have hnr:=hX.ok.nr;have hV:=YQ hE hS ds;have hp:=hV.pub;have hat:∀ a∈x.rows.map (atW x.sch),inR (spSz x.sch) a:=fun a ha=>by
  obtain⟨r,hr,rfl⟩:=Cj.1 ha;exact zs4 (hX.ok.rows r hr)
 have hv:=fun n:Nat=>jI4 (gs:=tabG x.sch ds) (kY.1 hS) hat (n:Int);rw[BY] at hv;have hvm:∀ v∈r.vals,0≤v∧v≤1000000:=fun v h=>by
  rw[hr] at h;obtain⟨n,_,rfl⟩:=Cj.1 h;have:=hv n;omega
 have hvl:(r.vals.length:Int)=pubN (tabG x.sch ds):=by
  rw[hr];dsimp only;rw[BY,List.length_range];omega
 have hva:∀ i (h:i<r.vals.length),r.vals[i]=pubV (spSz x.sch) (tabG x.sch ds) (cntL (spSz x.sch) (x.rows.map (atW x.sch))) ((0+i:Nat):Int):=fun i h=>by
  subst hr;rw[Fj,List.getElem_range,Nat.zero_add]
 have hgs:r.gs=tabG x.sch ds:=by rw[hr]
 have hnum:r.num=3:=by rw[hr]
 clear hr;obtain⟨num,gs,vals⟩:=r;dsimp only at hvm hvl hva hgs hnum;subst hgs hnum;refine⟨?_,zt3 _ _ fun v h=>by have:=hvm v h;dsimp only at *;omega,?_⟩
 ·unfold rlsC rlsF rlsF;have e:rlsE (spSz x.sch) ⟨3,tabG x.sch ds,vals⟩ (-1)=0:=jk0.2 ⟨by dsimp only;omega,hV,hvl,Bk.2 fun v h=>by
   have:=hvm v h;unfold zz2 okV;simp only[DZ,Bq,AZ];exact .inr ⟨this.1,this.2⟩⟩
  rw[Aq (by rw[hS];simp),Aq sMp,e,Aq sMp]
 ·unfold JS tell;rw[jo7 _ (by rw[BY];omega),Fq,qQ2 (kY.1 hS) (by rw[JL];have:=(kY.1 hS).prod;omega)];exact zN8 _ _ hva
theorem jA2 {s:Sch} (h:DrS s) (c:Nat):(qK s c).codes.length≤10:=by
 obtain⟨a,b,e,h1,h2⟩:=h.ls;show (s.lists.getD (qj s c).list.toNat default).codes.length≤10;rw[e];generalize (qj s c).list.toNat=k
 match k with
 | 0=>exact h1.len.2
 | 1=>exact h2.len.2
 | k+2=>exact Nat.zero_le _
theorem jo9 {s:Sch} (h:DrS s) {ds:List Pk} (hl:ds.length≤3):szD s ds≤2000:=by
 have h1:∀ l:List Pk,szD s l≤11 ^ l.length:=by
  intro l
  induction l with
  | nil=>exact BZ 1
  | cons d r ih=>
    have h2:=qZ6 (qK s d.col.toNat) d.lev;have h3:=jA2 h d.col.toNat;unfold szD at ih ⊢
    rw[List.map_cons,Dw,KX _ (1*_),Nat.one_mul,CJ,Nat.pow_succ,Nat.mul_comm];exact Nat.mul_le_mul ih oM
 have h2:=h1 ds;have h3:11 ^ ds.length≤11 ^ 3:=Nat.pow_le_pow_right (by decide) hl;have:(11:Nat) ^ 3=1331:=by decide
 omega
set_option maxHeartbeats 8000000
abbrev spT (sz:List Int):T:=.agg [vIs sz]
abbrev vvIs (gs:List (List Int)):T:=.sl 1 (gs.map vIs)
abbrev vwT (gs:List (List Int)):T:=.agg [vvIs gs]
theorem qB9 {p:Int→Bool} {l:List Int} {i:Nat} (h:i<l.length):(l.take (i+1)).all p=((l.take i).all p&&p l[i]):=by
 rw[qy h,FK];simp
theorem jp0 {p:Int→Bool} {l:List Int} {i:Nat} (h:i<l.length) (hp:p l[i]=false):l.all p=false:=by
 rw[List.all_eq_false];exact⟨l[i],AX h,by simp [hp]⟩
theorem qf4 {l:List Int} {i:Nat} (h:i<l.length) (ha:(l.take i).all szOk=true) (hl:l.length≤4) (hk:1≤l[i]∧l[i]≤8):IntKind.i64.wrap (qX (l.take i)*l[i])=qX (l.take (i+1)):=by
 have hs:szOk l[i]=true:=by simpa [szOk] using hk
 obtain⟨h1,h2⟩:=qi5 (l:=l.take (i+1)) (by rw[qB9 h,ha,hs];rfl) (by rw[Cz];omega);rw[← jj0 h,AK _ oM]
theorem JO (sz:List Int) (hl:sz.length<4611686018427387904):Sp 46 [spT sz] [] (vI (chkS sz)) []:=by
 refine sIr qE5 fun e _ hst=>?_;unfold QR;refine sD ?_;refine⟨fun h=>?_,fun h=>?_⟩
 ·have:chkS sz=55:=by
   unfold chkS;rw[Aj oM]
  rw[this];exact .imR rfl rfl
 have hlen:1≤sz.length∧sz.length≤4:=by omega
 refine qt mixm (α:=Nat) [3,19] (fun i=>i≤sz.length∧((sz.take i).all szOk=true)) (fun i=>[(3,vI (qX (sz.take i))),(19,vI i)]) (fun i=>[]) (fun i=>sz.length-i) 0 ⟨oM,?_⟩ ?_ fun i hi=>?_
 ·rfl
 ·exact .oA [] []
 simp only[tZ,↓uU,simprocAttr,AZ,Ay];refine⟨fun h=>?_,fun h=>?_⟩
 ·have hi2:i<sz.length:=by omega
  have hwi:=qh (i:=i) oM;simp only[tZ,↓uU,simprocAttr,Ax,qd hi2,hwi,tD];refine⟨oM,fun h3=>?_,fun h3=>?_⟩
  ·have hf:sz.all szOk=false:=jp0 hi2 (by simp only[szOk,FJ,Ay];omega);have:chkS sz=55:=by
    unfold chkS;rw[Aq oM,Aj hf]
   rw[this];exact .imR rfl rfl
  ·have hk:1≤sz[i]∧sz[i]≤8:=by omega
   rw[qf4 hi2 hi.2 hlen.2 hk];refine⟨i+1,⟨oM,?_⟩,oM,?_⟩
   ·rw[qB9 hi2,hi.2];simp only[szOk,Fq,Bq,AZ];exact hk
   ·exact .oA [] []
 ·have hi2:i=sz.length:=by omega
  subst hi2;have ha:=hi.2;rw[Bw] at ha ⊢
  refine⟨fun h3=>?_,fun h3=>?_⟩
  ·have:chkS sz=55:=by
    unfold chkS;rw[Aq oM,Aq (by rw[ha];simp),Aj oM]
   rw[this];exact .imR rfl rfl
  ·have:chkS sz=0:=by
    unfold chkS;rw[Aq oM,Aq (by rw[ha];simp),Aq oM]
   rw[this];exact .imR rfl rfl
theorem qf5 (sz:List Int) (hl:sz.length<4611686018427387904):Sp 49 [spT sz] [] (vI (chkS sz)) []:=by
 refine sIr qE9 fun e _ hst=>?_;unfold QT;refine sD ?_;refine⟨fun h=>?_,fun h=>?_⟩
 ·have:chkS sz=55:=by
   unfold chkS;rw[Aj oM]
  rw[this];exact .imR rfl rfl
 have hlen:1≤sz.length∧sz.length≤4:=by omega
 refine qt mixm (α:=Nat) [3,19] (fun i=>i≤sz.length∧((sz.take i).all szOk=true)) (fun i=>[(3,vI (qX (sz.take i))),(19,vI i)]) (fun i=>[]) (fun i=>sz.length-i) 0 ⟨oM,?_⟩ ?_ fun i hi=>?_
 ·rfl
 ·exact .oA [] []
 simp only[tZ,↓uU,simprocAttr,AZ,Ay];refine⟨fun h=>?_,fun h=>?_⟩
 ·have hi2:i<sz.length:=by omega
  have hwi:=qh (i:=i) oM;simp only[tZ,↓uU,simprocAttr,Ax,qd hi2,hwi,tD];refine⟨oM,fun h3=>?_,fun h3=>?_⟩
  ·have hf:sz.all szOk=false:=jp0 hi2 (by simp only[szOk,FJ,Ay];omega);have:chkS sz=55:=by
    unfold chkS;rw[Aq oM,Aj hf]
   rw[this];exact .imR rfl rfl
  ·have hk:1≤sz[i]∧sz[i]≤8:=by omega
   rw[qf4 hi2 hi.2 hlen.2 hk];refine⟨i+1,⟨oM,?_⟩,oM,?_⟩
   ·rw[qB9 hi2,hi.2];simp only[szOk,Fq,Bq,AZ];exact hk
   ·exact .oA [] []
 ·have hi2:i=sz.length:=by omega
  subst hi2;have ha:=hi.2;rw[Bw] at ha ⊢
  refine⟨fun h3=>?_,fun h3=>?_⟩
  ·have:chkS sz=55:=by
    unfold chkS;rw[Aq oM,Aq (by rw[ha];simp),Aj oM]
   rw[this];exact .imR rfl rfl
  ·have:chkS sz=0:=by
    unfold chkS;rw[Aq oM,Aq (by rw[ha];simp),Aq oM]
   rw[this];exact .imR rfl rfl
def maxF (l:List Int):Int:=(l.drop 1).foldl maxI (l.getD 0 0)
theorem zN9 {l:List Int} {i:Nat} (h:i<l.length) (h0:0<i):maxF (l.take (i+1))=maxI (maxF (l.take i)) l[i]:=by
 unfold maxF;rw[qy h,List.drop_append_of_le_length (by rw[Cz];omega),Gx];have:∀ r:List Int,(l.take i++r).getD 0 0=(l.take i).getD 0 0:=fun r=>by
  rw[CY,CY,BK (by rw[Cz];omega)]
 rw[this]
 rfl
theorem ZT (l:List Int) (h0:0<l.length) (hl:l.length<4611686018427387904):Sp 106 [vIs l] [] (vI (maxF l)) []:=by
 refine sIr ZJ fun e _ hst=>?_;unfold jJ;refine sD ?_;refine⟨fun h=>absurd h oM,fun _=>?_⟩;have e0:=qd (f:=vI) h0;simp only[e0];refine sW ?_;refine⟨oM,?_⟩;refine qt mixm (α:=Nat) [3,4] (fun i=>1≤i∧i≤l.length) (fun i=>[(3,vI (maxF (l.take i))),(4,vI i)]) (fun _=>[]) (fun i=>l.length-i) 1 ⟨oM,oM⟩ ?_ fun i hi=>?_
 ·have:maxF (l.take 1)=l[0]:=by
   obtain⟨x,r,rfl⟩:∃ x r,l=x::r:=by
    cases l with
    | nil=>simp at h0
    | cons x r=>exact⟨x,r,rfl⟩
   rfl
  rw[this];exact .oA [] []
 simp only[tZ,↓uU,simprocAttr,AZ,Ay];refine⟨fun h=>?_,fun h=>?_⟩
 ·have hi2:i<l.length:=by omega
  have hwi:=qh (i:=i) oM;simp only[tZ,↓uU,simprocAttr,Ax,qd hi2,hwi];refine⟨oM,i+1,oM,oM,?_⟩;rw[zN9 hi2 oM];exact .oA [] []
 ·have hi2:i=l.length:=by omega
  subst hi2;rw[Bw];exact .imR rfl rfl
theorem jW8:∀ {l:List Int},0<l.length→gN l=maxI 0 (1+maxF l):=by
 intro l h;have key:∀ i,1≤i→i≤l.length→gN (l.take i)=maxI 0 (1+maxF (l.take i)):=by
  intro i
  induction i with
  | zero=>intro h;omega
  | succ i ih=>
    intro _ h2;by_cases h1:i=0
    ·subst h1;obtain⟨x,r,rfl⟩:∃ x r,l=x::r:=by
      cases l with
      | nil=>simp at h
      | cons x r=>exact⟨x,r,rfl⟩
     show jM0 0 x=maxI 0 (1+x);unfold jM0;rw[Int.add_comm]
    ·rw[jH2 oM,ih oM oM,zN9 oM oM];unfold maxI;split <;> split <;> (try split) <;> (try split) <;> omega
 have:=key l.length h (BZ _)
 rwa [Bw] at this
theorem Qw (l:List Int) (ha:l.all szOk=true) (hl:l.length≤4):Sp 104 [vIs l] [] (vI (qX l)) []:=by
 refine sIr qo1 fun e _ hst=>?_;unfold yb;refine sW ?_;refine qt mixm (α:=Nat) [3,8] (fun i=>i≤l.length) (fun i=>[(3,vI (qX (l.take i))),(8,vI i)]) (fun i=>[]) (fun i=>l.length-i) 0 oM ?_ fun i hi=>?_
 ·exact .oA [] []
 simp only[tZ,↓uU,simprocAttr,AZ,Ay];refine⟨fun h=>?_,fun h=>?_⟩
 ·have hi2:i<l.length:=by omega
  have hwi:=qh (i:=i) oM;simp only[tZ,↓uU,simprocAttr,Ax,qd hi2,hwi];have hk:1≤l[i]∧l[i]≤8:=by simpa [szOk] using Bk.1 ha l[i] (AX hi2)
  have hat:(l.take i).all szOk=true:=Bk.2 fun x hx=>Bk.1 ha x (EX hx);rw[qf4 hi2 hat hl hk];refine⟨oM,i+1,oM,oM,?_⟩;exact .oA [] []
 ·have hi2:i=l.length:=by omega
  subst hi2;rw[Bw];exact .imR rfl rfl
theorem zc9 (sz:List Int) (hl:sz.length<4611686018427387904):Sp 18 [spT sz] [] (vI (cntS sz)) []:=by
 refine sIr qD4 fun e _ hst=>?_;unfold QM;refine sW ?_;refine C1.shut [] (qf5 sz hl) ?_ rF rfl ?_
 ·simp only[tL,simprocAttr]
 simp only[tZ,↓uU,simprocAttr,Bj,Aw];refine⟨fun h=>?_,fun h=>?_⟩
 ·rw[cntS,Aq h];exact .imR rfl rfl
 obtain⟨h1,h2,h3⟩:=kY.1 h;rw[cntS,Aj h];refine qt mixm (α:=Nat) [3,12] (fun i=>i≤sz.length) (fun i=>[(3,vI (qX (sz.take i))),(12,vI i)]) (fun i=>[]) (fun i=>sz.length-i) 0 oM ?_ fun i hi=>?_
 ·exact .oA [] []
 simp only[tZ,↓uU,simprocAttr,AZ,Ay];refine⟨fun h=>?_,fun h=>?_⟩
 ·have hi2:i<sz.length:=by omega
  have hwi:=qh (i:=i) oM;simp only[tZ,↓uU,simprocAttr,Ax,qd hi2,hwi];have hk:1≤sz[i]∧sz[i]≤8:=SpOk.get ⟨h1,h2,h3⟩ hi2;have hat:(sz.take i).all szOk=true:=Bk.2 fun x hx=>Bk.1 h2 x (EX hx);rw[qf4 hi2 hat h1.2 hk];refine⟨oM,i+1,oM,oM,?_⟩;exact .oA [] []
 ·have hi2:i=sz.length:=by omega
  subst hi2;rw[Bw];exact .imR rfl rfl
theorem QK (s:Sch) (hok:SchOk s) (i:Nat) (hi:i<s.cols.length) (h2:(qj s i).kind=2):Sp 45 [schT s,vI i] [] (vIs (qA s i)) []:=by
 have hat:qj s i=s.cols[i]:=by rw[qj,qg hi]
 obtain⟨d1,d2⟩:=hok.cdl hi h2;obtain⟨d3,d4⟩:=(zo (hok.cs i hi)).2.2.2.1 h2;have hcl:qK s i=s.lists.getD s.cols[i].list.toNat default:=by rw[qK,hat]
 rw[hcl] at d2;rw[hat] at d1 d3 d4;have hgl:s.lists.getD s.cols[i].list.toNat default=s.lists[s.cols[i].list.toNat]:=qg d1;rw[hgl] at d2;obtain⟨_,d5,d6⟩:=ze d2;rw[qA,hcl,hgl];have hlv:=YD (l:=s.lists[s.cols[i].list.toNat]);have hw2:IntKind.i64.wrap (zA s.lists[s.cols[i].list.toNat]-1)=zA s.lists[s.cols[i].list.toNat]-1:=AK _ oM;refine sIr Yh fun e _ hst=>?_;unfold kp;simp only[tZ,↓uU,simprocAttr,Ax,qd hi,qd d1];refine⟨oM,oM,kR,?_⟩;refine C1.im (WO _) rF rF ?_;simp only[tZ,↓uU,simprocAttr,hw2];refine C1.im (zS3 _ _) rF rF ?_;refine sW ?_;refine⟨kR,?_⟩;exact .oA [] []
theorem qL8 (s:Sch) (hok:SchOk s) (i:Nat) (hi:i<s.cols.length) (h2:(qj s i).kind=2):Sp 48 [schT s,vI i] [] (vIs (qA s i)) []:=by
 have hat:qj s i=s.cols[i]:=by rw[qj,qg hi]
 obtain⟨d1,d2⟩:=hok.cdl hi h2;obtain⟨d3,d4⟩:=(zo (hok.cs i hi)).2.2.2.1 h2;have hcl:qK s i=s.lists.getD s.cols[i].list.toNat default:=by rw[qK,hat]
 rw[hcl] at d2;rw[hat] at d1 d3 d4;have hgl:s.lists.getD s.cols[i].list.toNat default=s.lists[s.cols[i].list.toNat]:=qg d1;rw[hgl] at d2;obtain⟨_,d5,d6⟩:=ze d2;rw[qA,hcl,hgl];have hlv:=YD (l:=s.lists[s.cols[i].list.toNat]);have hw2:IntKind.i64.wrap (zA s.lists[s.cols[i].list.toNat]-1)=zA s.lists[s.cols[i].list.toNat]-1:=AK _ oM;refine sIr qw3 fun e _ hst=>?_;unfold yV;simp only[tZ,↓uU,simprocAttr,Ax,qd hi,qd d1];refine⟨oM,oM,kR,?_⟩;refine C1.im (wH _ oM) rF rF ?_;simp only[tZ,↓uU,simprocAttr,hw2];refine C1.im (Wm _ _ oM) rF rF ?_;refine sW ?_;refine⟨kR,?_⟩;exact .oA [] []
theorem qk1 (c:TCl) (codes:List Int) (hl:c.codes.length<4611686018427387904):Sp 108 [tclT c,.ip [vIs codes]] [] (vB (KQ c.codes codes)) []:=by
 have sE:=qe3 c.codes codes hl;refine sIr qc5 fun e _ hst=>?_;unfold kT;refine sW ?_;refine C1.im sE rF rF ?_;refine sW ?_;exact .oA [] []
theorem qf6 (s:Sch) (hE:schE s=0):∀ l:List Pk,(∀ d∈l,CdC s d.col)→szD s l≤2000→l.length<1000→Sp 35 [schT s,vPs l] [] (vvIs (lstD s l)) []
 | [],_,_,_=>by
   refine sIr WL fun e _ hst=>?_;unfold wF;refine sD ?_;refine⟨fun _=>?_,fun h=>by simp at h⟩;show Qx _ _ _ (vvIs [[]]) _;refine fun e hst=>Le.trans (s':=⟨[(0,.asl 12288 1)],[aR 12288 1 [vIs []]]⟩) ?_ ?_
   ·exact .oA (U1 12288) []
   ·exact .oA [] [12288]
 | d::r,hd,hz,hl=>by
   have hok:=qO hE;have hpos:=jn9 s r;have hml:=qf1 s (d::r);have hmr:=qf1 s r;have hlr:r.length<1000:=by rw[CJ] at hl;omega
   have hzr:szD s r≤2000:=by
    have e:szD s (d::r)=((atL (qK s d.col.toNat) d.lev).length+1)*szD s r:=by
     unfold szD;rw[List.map_cons,Dw,KX _ (1*_),Nat.one_mul]
    rw[e] at hz;exact FZ (Nat.le_mul_of_pos_left _ oM) hz
   have ih:=qf6 s hE r (fun x hx=>hd x (CQ _ hx)) hzr hlr;obtain⟨hrg,hk⟩:=hd d sMp;obtain⟨dc,dl⟩:=d;dsimp only at hrg hk ih;obtain⟨c,rfl⟩:=AJ hrg.1;rw[Ax] at hk;have hi:c<s.cols.length:=by omega
   have hat:qj s c=s.cols[c]:=by rw[qj,qg hi]
   obtain⟨d1,d2⟩:=hok.cdl hi hk;obtain⟨d3,d4⟩:=(zo (hok.cs c hi)).2.2.2.1 hk;have hcl:qK s c=s.lists.getD s.cols[c].list.toNat default:=by rw[qK,hat]
   rw[hat] at d1 d3 d4;have hgl:s.lists.getD s.cols[c].list.toNat default=s.lists[s.cols[c].list.toNat]:=qg d1;obtain⟨_,d5,d6⟩:=ze d2;have hal:=qZ6 (qK s c) dl;have hA:Sp 31 [cdlT s.lists[s.cols[c].list.toNat],vI dl] [] (vIs (atL (qK s c) dl)) []:=by
    rw[hcl,hgl];exact Wm _ _ (by rw[hcl,hgl] at d6;omega)
   have hL:lstD s (⟨c,dl⟩::r)=(-1::atL (qK s c) dl).flatMap fun x=>(lstD s r).map fun y=>x::y:=by
    show (-1::atL (qK s (c:Int).toNat) dl).flatMap _=_;rw[Ax]
   have hrs:(lstD s r).length≤2000:=by omega
   have hyl:∀ y∈lstD s r,y.length<1000:=fun y hy=>by rw[zc1 s r y hy];exact hlr
   rw[hL] at hml ⊢
   generalize atL (qK s c) dl=A at hA hal hml ⊢
   generalize lstD s r=R at ih hml hrs hyl ⊢
   refine jl [5,11] WL mixm sMp fun e _ hst=>wW ?_;unfold wF;simp only[yO,List.contains_cons,List.contains_nil,Nat.reduceBEq,Bool.or_false,Bool.or_true,Bool.true_or,Bool.false_or,cond_true,cond_false];refine sW ?_;refine⟨fun h=>by simp at h;omega,fun _=>⟨oM,?_⟩⟩;rw[show pkT ⟨(c:Int),dl⟩::List.map pkT r=(⟨(c:Int),dl⟩::r).map pkT from rfl,Kt,show (r.length+1)=((⟨(c:Int),dl⟩::r):List Pk).length from rfl,show (1:Int)=((1:Nat):Int) from rfl,qU0,List.drop_one,List.tail_cons];refine C1.im ih rF rF ?_;simp only[tZ,↓uU,simprocAttr,Ax,qd hi,qd d1];refine⟨kR,oM,oM,oM,oM,?_⟩;refine C1.im hA rF rF ?_;refine sW ?_;refine⟨oM,kR,?_⟩;obtain⟨C,hC⟩:∃ C,C = -1::A:=⟨_,rfl⟩;rw[← hC] at hml ⊢
   have hCl:C.length=A.length+1:=by rw[hC,CJ]
   refine W_le [(5,vvIs R),(6,vIs C)] [] ?_ ?_
   ·rw[hC];refine .of [] [20480] rfl (by first | rfl | (rw[hst];rfl)) ?_ ?_
    all_goals (try simp only[tL,simprocAttr,By,List.map_cons,List.map_nil,BW,Cy,CJ,List.map_cons,BW,Cy])
    all_goals (try (exact clA))
   clear hC hL;obtain⟨g,hg⟩:∃ g:Int→List (List Int),g=fun x=>R.map fun y=>x::y:=⟨_,rfl⟩;rw[← hg] at hml ⊢
   have hgl:∀ x,(g x).length=R.length:=fun x=>by rw[hg];exact BY _
   have htot:∀ i,i≤C.length→((C.take i).flatMap g).length≤2000:=fun i hi=>by
    have e:C.flatMap g=(C.take i).flatMap g++(C.drop i).flatMap g:=by rw[← List.flatMap_append,List.take_append_drop]
    rw[e,AW] at hml;omega
   refine sW ?_;refine qt mixm (α:=Nat) [7,8] (fun i=>i≤C.length) (fun i=>[(7,.asl 1 ((C.take i).flatMap g).length),(8,vI i)]) (fun i=>[aR 1 1 (((C.take i).flatMap g).map vIs)]) (fun i=>C.length-i) 0 oM ?_ fun i hi=>?_
   ·show Le _ _ ⟨_,[aR 1 1 []]⟩;exact .oA [(1,none)] []
   refine sD ?_;refine⟨fun h2=>?_,fun h2=>?_⟩
   ·have hi2:i<C.length:=by omega
    have hwi:=qh (i:=i) oM;have hsn:(C.take (i+1)).flatMap g=(C.take i).flatMap g++g C[i]:=by rw[qy hi2,List.flatMap_append];simp
    have ht2:=htot (i+1) oM;rw[hsn,AW,hgl] at ht2;generalize (C.take i).flatMap g=F at hsn ht2;refine qt mixm (α:=Nat) [7,9] (fun k=>k≤R.length) (fun k=>[(7,.asl 1 (F.length+k)),(9,vI k)]) (fun k=>[aR 1 1 ((F++(R.take k).map fun y=>C[i]::y).map vIs)]) (fun k=>R.length-k) 0 oM ?_ fun k hk=>?_
    ·refine .of (U1 1) [] rfl (by first | rfl | (rw[hst];rfl)) ?_ ?_
     all_goals (try simp only[tL,simprocAttr,By,List.map_cons,List.map_nil,BW,Cy,List.take_zero,List.map_nil,CW,Nat.add_zero])
     all_goals (try (exact clA))
    have hkl:(F++(R.take k).map fun y=>C[i]::y).length=F.length+k:=by rw[AW,BY,Cz];omega
    refine sD ?_;refine⟨fun h3=>?_,fun h3=>?_⟩
    ·have hk2:k<R.length:=by omega
     have hwk:=qh (i:=k) oM;have hyk:=hyl _ (AX hk2);have hs2:F++(R.take (k+1)).map (fun y=>C[i]::y)=(F++(R.take k).map fun y=>C[i]::y)++[C[i]::R[k]]:=by rw[qy hk2,By,Dj];rfl
     generalize (F++(R.take k).map fun y=>C[i]::y)=Y at hkl hs2;simp only[tZ,↓uU,simprocAttr,Ax,qd hi2,qd hk2];refine⟨oM,oM,oM,oM,oM,kR,?_⟩;refine W_le [(5,vvIs R),(6,vIs C),(7,.asl 1 (F.length+(k+1))),(8,vI i),(9,vI k)] [aR 1 1 ((Y++[C[i]::R[k]]).map vIs)] ?_ ?_
     ·refine .of (U1 1) [53268] rfl (by first | rfl | (rw[hst];rfl)) ?_ ?_
      all_goals (try simp only[tL,simprocAttr,By,List.map_cons,List.map_nil,BW,Cy,By,List.map_cons,List.map_nil])
      all_goals (try (repeat' (first | exact zq | (apply jm;intro _;exact⟨rfl,rfl⟩) | (apply qV;intro _;exact⟨rfl,rfl⟩) | with_reducible apply zm | with_reducible refine zj ⟨rfl,rfl⟩ ?_ | exact zC | with_reducible apply zg | with_reducible refine zf ⟨rfl,rfl,?_⟩ ?_ | with_reducible apply Az | exact zh rfl | exact zh (by assumption) | (refine⟨⟨?_,rfl,?_,rfl,?_⟩,trivial⟩ <;> first | (simp;done) | (apply qV;intro _;exact⟨rfl,rfl⟩)) | trivial | rfl | (rw[qh oM]) | omega)))
      show ltCs _ _ _ [T.asl 53268 (1+R[k].length)] [vIs (C[i]::R[k])];simp only[tL,simprocAttr];exact⟨by first | omega | (simp;omega),rfl,zj ⟨rfl,rfl⟩ (by apply qV;intro _;exact⟨rfl,rfl⟩)⟩
     simp only[tZ,↓uU,simprocAttr,hwk];refine⟨k+1,oM,oM,?_⟩;rw[hs2];exact .oA (U1 1) []
    ·have hkl2:k=R.length:=by omega
     subst hkl2;rw[Bw];simp only[tZ,↓uU,simprocAttr,hwi];refine⟨i+1,oM,oM,?_⟩;rw[hsn,AW,hgl];have e:g C[i]=R.map fun y=>C[i]::y:=by rw[hg]
     rw[e];exact .oA (U1 1) []
   ·have hil:i=C.length:=by omega
    subst hil;rw[Bw];exact .oA [] [1]
theorem yF (p:TCl→Bool) (f:FuncId) (caps:List T) (hcap:imL caps=true) (l:List TCl) (hf:∀ y∈l,Sp f (tclT y::caps) [] (vB (p y)) []) (hl:l.length<4611686018427387904) :
 Sp 107 [.sl 7 (l.map tclT),.clo f caps] [] (vI (idxI p l)) []:=by
 refine sIr yd fun e _ hst=>?_;unfold zG;refine sW ?_;refine qt mixm (α:=Nat) [8] (fun i=>i≤l.length∧((l.take i).any p=false)) (fun i=>[(8,vI i)]) (fun i=>[]) (fun i=>l.length-i) 0 ⟨oM,?_⟩ ?_ fun i hi=>?_
 ·simp
 ·exact .oA [] []
 simp only[tZ,↓uU,simprocAttr,AZ,Ay];refine⟨fun h=>?_,fun h=>?_⟩
 ·have hi2:i<l.length:=by omega
  have hwi:=qh (i:=i) oM;simp only[tZ,↓uU,simprocAttr,Ax,qd hi2,hwi,Kr];refine⟨oM,?_⟩;refine C1.im (hf l[i] (AX hi2)) (Kv rfl hcap) rfl ?_;refine sW ?_;refine⟨fun h3=>?_,fun h3=>⟨i+1,⟨oM,zV hi2 hi.2 h3⟩,oM,?_⟩⟩
  ·rw[idxI,Aj (ql9 hi2 h3),jI hi2 hi.2 h3];exact .imR rfl rfl
  ·exact .oA [] []
 ·have h2:i=l.length:=by omega
  have h3:=hi.2;rw[h2,Bw] at h3;rw[idxI,Aq (by rw[h3];simp)];exact .imR rfl rfl
theorem qC0 (t:Tbl) (codes:List Int) (hn:t.cells.length<4611686018427387904) (hl:∀ c∈t.cells,c.codes.length<4611686018427387904):Sp 56 [tblT t,vIs codes] [] (vI (fndC t.cells codes)) []:=by
 have sI:=yF (fun c=>KQ c.codes codes) 108 [.ip [vIs codes]] rfl t.cells (fun c hc=>qk1 c codes (hl c hc)) hn;refine sIr qn7 fun e _ hst=>?_;unfold wZ;refine sW ?_;refine C1.lend [4100] sI ?_ rF rF ?_
 ·all_goals (try simp only[tL,simprocAttr,By,List.map_cons,List.map_nil,BW,Cy])
  all_goals (try (repeat' (first | exact zq | (apply jm;intro _;exact⟨rfl,rfl⟩) | (apply qV;intro _;exact⟨rfl,rfl⟩) | with_reducible apply zm | with_reducible refine zj ⟨rfl,rfl⟩ ?_ | exact zC | with_reducible apply zg | with_reducible refine zf ⟨rfl,rfl,?_⟩ ?_ | with_reducible apply Az | exact zh rfl | exact zh (by assumption) | (refine⟨⟨?_,rfl,?_,rfl,?_⟩,trivial⟩ <;> first | (simp;done) | (apply qV;intro _;exact⟨rfl,rfl⟩)) | trivial | rfl | (rw[qh oM]) | omega)))
  simp only[ltP];exact⟨rfl,by decide,rfl,zj ⟨rfl,rfl⟩ zC⟩
 refine sW ?_;have e:idxI (fun c:TCl=>KQ c.codes codes) t.cells=fndC t.cells codes:=rfl;rw[e];exact .oA [] []
abbrev linT (y:Lin):T:=.agg [vI y.1,vI 0,vIs y.2]
def inP (codes:List Int) (y:Lin) (n:Nat):Bool:=(List.range n).all fun k=>(codes.getD k 0 == -1)||(codes.getD k 0==y.2.getD k 0)
theorem jA3 (codes:List Int) (y:Lin) (n:Nat):inP codes y (n+1)=(inP codes y n&&((codes.getD n 0 == -1)||(codes.getD n 0==y.2.getD n 0))):=by
 unfold inP;rw[List.range_succ,FK];simp
theorem zt4 (ls:List Lin) (codes:List Int) (hn:ls.length<1000000) (hc:codes.length<1000000) (hl:∀ y∈ls,y.2.length=codes.length):Sp 36 [.sl 3 (ls.map linT),vIs codes] [] (tclT (tclF ls codes)) []:=by
 refine jl [4] qV3 mixm sMp fun e _ hst=>wW ?_;unfold Jh;simp only[yO,List.contains_cons,List.contains_nil,Nat.reduceBEq,Bool.or_false,Bool.or_true,Bool.true_or,Bool.false_or,cond_true,cond_false];refine sW ?_;refine qt mixm (α:=Nat) [6] (fun i=>i≤ls.length) (fun i=>[(6,vI i)]) (fun i=>[aR 4096 7 [tclT ⟨[],0,0,0,0,0,[]⟩],aR 8200 7 [.agg [vIs codes,vI (((ls.take i).filter (inC codes)).length:Nat),vI 0,vI 0,vI 0,vI 0,.asl 1 (((ls.take i).filter (inC codes)).length)]],aR 1 1 ((((ls.take i).filter (inC codes)).map fun y=>y.1).map vI)]) (fun i=>ls.length-i) 0 oM ?_ fun i hi=>?_
 ·exact .oA [uI 4096,uI 8200,(1,none)] []
 have hfl:((ls.take i).filter (inC codes)).length≤i:=FZ (Fx _ _) (by rw[Cz];omega);have hml:(((ls.take i).filter (inC codes)).map fun y=>y.1).length=((ls.take i).filter (inC codes)).length:=BY _;refine sD ?_;refine⟨fun h2=>?_,fun h2=>?_⟩
 ·have hi2:i<ls.length:=by omega
  have hwi:=qh (i:=i) oM;have hsp:(ls.take (i+1)).filter (inC codes)=(ls.take i).filter (inC codes)++if inC codes ls[i]=true then [ls[i]] else []:=by
   rw[qy hi2,FY]
   congr 1
   by_cases h:inC codes ls[i]=true
   ·rw[Aj h,List.filter_cons,Aj h];rfl
   ·rw[Aq h,List.filter_cons,Aq h];rfl
  have hyl:=hl _ (AX hi2);have hin:inC codes ls[i]=inP codes ls[i] codes.length:=rfl;generalize (ls.take i).filter (inC codes)=F at hfl hml hsp;refine qt mixm (α:=Nat) [7,8] (fun k=>k≤codes.length) (fun k=>[(7,vB (inP codes ls[i] k)),(8,vI k)]) (fun k=>[aR 4096 7 [tclT ⟨[],0,0,0,0,0,[]⟩],aR 8200 7 [.agg [vIs codes,vI (F.length:Nat),vI 0,vI 0,vI 0,vI 0,.asl 1 F.length]],aR 1 1 ((F.map fun y=>y.1).map vI)]) (fun k=>codes.length-k) 0 oM ?_ fun k hk=>?_
  ·show Le _ _ ⟨_,_⟩;exact .oA (U3 4096 8200 1) []
  refine sD ?_;refine⟨fun h3=>?_,fun h3=>?_⟩
  ·have hk2:k<codes.length:=by omega
   have hk3:k<ls[i].2.length:=by omega
   have hwk:=qh (i:=k) oM;have hs2:=jA3 codes ls[i] k;rw[qg hk2,qg hk3] at hs2;generalize inP codes ls[i] k=b at hs2;simp only[tZ,↓uU,simprocAttr,Ax,qd hk2,qd hi2,qd hk3,hwk];refine⟨fun _=>by omega,fun _=>by omega,fun _=>by omega,fun _=>by omega,kR,k+1,oM,oM,?_⟩;rw[hs2];exact .oA (U3 4096 8200 1) []
  ·have hkl:k=codes.length:=by omega
   subst hkl;rw[← hin];simp only[tZ,↓uU,simprocAttr,Ax,qd hi2];refine⟨fun h4=>?_,fun h4=>?_⟩
   ·rw[h4,Aq sMp,CW] at hsp;refine W_le [(0,.sl 3 (ls.map linT)),(1,vIs codes),(4,.ptr 4096 1 0 0),(5,.ptr 8200 1 0 0),(6,vI i)] [aR 4096 7 [tclT ⟨[],0,0,0,0,0,[]⟩],aR 8200 7 [.agg [vIs codes,vI (F.length:Nat),vI 0,vI 0,vI 0,vI 0,.asl 1 F.length]],aR 1 1 ((F.map fun y=>y.1).map vI)] ?_ ?_
    ·exact .oA (U3 4096 8200 1) []
    simp only[tZ,↓uU,simprocAttr,hwi];refine⟨i+1,oM,oM,?_⟩;rw[hsp];exact .oA (U3 4096 8200 1) []
   ·rw[Bz] at h4;rw[h4,Aj rfl] at hsp;refine⟨oM,oM,kR,oM,kR,oM,oM,kR,?_⟩;have m1:maxI 0 (IntKind.i64.wrap 0)=0:=by decide
    have m2:IntKind.i64.wrap 0=0:=by decide
    have m3:IntKind.i64.wrap (0+0)=0:=by decide
    have m4:maxI 0 0=0:=by decide
    have m5:=qh (i:=F.length) oM;simp only[m1,m2,m3,m4,m5];refine⟨fun h=>absurd h (by decide),fun _=>?_⟩;refine W_le [(0,.sl 3 (ls.map linT)),(1,vIs codes),(4,.ptr 4096 1 0 0),(5,.ptr 8200 1 0 0),(6,vI i)] [aR 4096 7 [tclT ⟨[],0,0,0,0,0,[]⟩],aR 8200 7 [.agg [vIs codes,vI ((F++[ls[i]]).length:Nat),vI 0,vI 0,vI 0,vI 0,.asl 1 (F++[ls[i]]).length]],aR 1 1 (((F++[ls[i]]).map fun y=>y.1).map vI)] ?_ ?_
    ·rw[AW,By];exact .oA (U3 4096 8200 1) []
    simp only[tZ,↓uU,simprocAttr,hwi];refine⟨i+1,oM,oM,?_⟩;rw[hsp];exact .oA (U3 4096 8200 1) []
 ·have hil:i=ls.length:=by omega
  subst hil;rw[Bw] at hml ⊢
  have e:tclF ls codes=⟨codes,((ls.filter (inC codes)).length:Int),0,0,0,0,(ls.filter (inC codes)).map fun y=>y.1⟩:=rfl;rw[e];refine .of [] [1] rfl (by first | rfl | (rw[hst];rfl)) ?_ ?_
  all_goals (try simp only[tL,simprocAttr,By,List.map_cons,List.map_nil,BW,Cy,hml])
  all_goals (try (exact clA))
abbrev exT (c:Cnd) (ds:List Pk):T:=.agg [vI 10,vI 0,vS ⟨#[]⟩,vI (-1),.v (.slice none 0 0),vPs ds,vI c.op,vI c.col,vI c.code,vI c.lo,vI c.hi,vCs c.kids,vI 0,vI 0,vI 0,vI 0,vI 0,.v (.slice none 0 0),.v (.slice none 0 0)]
theorem zt5 (c:Cnd):Sp 166 [cnT c] [] (vB (qj1 c cnd0)) []:=by
 have h:=qm7 c cnd0 fun h=>.mk c (by rw[h];decide) (by rw[Dy.1 (show c.kids.length=0 from h)];simp);refine sIr qY3 fun e _ hst=>?_;unfold JC;refine sW ?_;refine C1.shut [] h ?_ rF rfl ?_
 ·all_goals (try exact clA)
 refine sW ?_;exact .oA [] []
theorem zB1 (c:Cnd) (ds:List Pk):Sp 140 [exT c ds] [] (vB true) []:=by
 have sZ:=zt5 cnd0;rw[show qj1 cnd0 cnd0=true by kernel_rfl] at sZ;refine sIr zn0 fun e _ hst=>?_;unfold KJ;refine sW ?_;refine⟨kR,?_⟩;refine C2.no (fun h=>h) ?_;simp only[tZ,↓uU,simprocAttr,jC8,jn5,qt4,not_false_eq_true,true_and];refine C2.one trivial (C1.shut [] sZ ?_ rF rfl ?_)
 ·all_goals (try exact clA)
 refine sW ?_
 repeat (first | refine⟨oM,?_⟩ | refine⟨kR,?_⟩)
 exact .oA [] []
def addP (s:Sch) (l:List Pk) (c:Cnd):List Pk:=(zu s c).foldl (fun l p=>jz l p.col p.lev) l
theorem zd0 (s:Sch) (hs:jY s) (hL:0<s.lists.length) (c:Cnd) (ds:List Pk):Sp 81 [schT s,exT c ds] [] (vB ((schE s==0)&&(wB s ds==0)&&(chkC s c==0))) []:=by
 have sC:=zy s hs;have sO:=zB1 c ds;have sI:=Wn s (-1) 3;rw[show isB s (-1) 3=false by
  cases e:isB s (-1) 3 with
  | false=>rfl
  | true=>have:=jk.1 e;omega] at sI
 have sD2:=qm8 s hs ds;have sK:=jt s hs hL c;by_cases hE:schE s=0
 rotate_left
 ·rw[show (schE s==0)=false from Ak.2 hE,Bool.false_and,Bool.false_and];have q1:(schE s != 0)=true:=Bj.2 hE;refine sIr WM fun e _ hst=>?_;unfold wG;refine sW ?_;refine C1.im sC rF rF ?_;simp only[tZ,↓uU,simprocAttr,q1];refine C2.no (fun h=>h) ?_;simp only[tZ,↓uU,simprocAttr,q1,jC8,jn5,qt4,not_false_eq_true,true_and];exact .oA [] []
 rw[hE] at sC;rw[show (schE s==0)=true from AY.2 hE,Fq];refine sIr WM fun e _ hst=>?_;unfold wG;refine sW ?_;refine C1.im sC rF rF ?_;simp only[tZ,↓uU,simprocAttr,bne_self_eq_false];refine C2.one trivial (C1.im sO rF rF ?_);refine sW ?_;refine qt mixm (α:=Nat) [6] (fun i=>i=0) (fun i=>[(6,vI i)]) (fun i=>[aR 4096 2 [schT s],aR 4100 19 [exT c ds]]) (fun _=>0) 0 rfl ?_ fun i hi=>?_
 ·exact .oA (U2 4096 4100) []
 subst hi;refine sW ?_;refine⟨fun h2=>absurd h2 sMp,fun _=>?_⟩;refine C1.im sI rF rF ?_;refine sW ?_;refine C1.im sD2 rF rF ?_;simp only[tZ,↓uU,simprocAttr,Bj,Aw];refine⟨fun h=>?_,fun h=>?_⟩
 ·rw[show (wB s ds==0)=false from Ak.2 h,Bool.false_and];exact .oA [] []
 rw[show (wB s ds==0)=true from AY.2 h,Fq];refine C2.one trivial (C1.im sK rF rF ?_);refine sW ?_
 repeat (first | refine⟨oM,?_⟩ | refine⟨kR,?_⟩)
 exact .oA [] []
theorem qC1 (s:Sch) (hs:jY s) (hL:0<s.lists.length) (l:List Pk) (c:Cnd) (hl:l.length<1000000):Sp 82 [schT s,vPs l,cnT c] [] (vPs (addP s l c)) []:=by
 have sN:=yC s hs hL c;have hn:=wR s c;unfold addP;have hr:∀ i,i≤(zu s c).length→(((zu s c).take i).foldl (fun l p=>jz l p.col p.lev) l).length≤l.length+i:=fun i hi=>by
  induction i with
  | zero=>simp
  | succ i ih=>
    have h1:=ih oM;have hi2:i<(zu s c).length:=by omega
    rw[qy hi2,Gx];have:=wQ (((zu s c).take i).foldl (fun l p=>jz l p.col p.lev) l) (zu s c)[i].col (zu s c)[i].lev;simp only[Dw,List.foldl_nil];omega
 generalize zu s c=N at sN hn hr;refine sIr zm6 fun e _ hst=>?_;unfold KC;refine sW ?_;refine C1.im sN rF rF ?_;refine sW ?_;refine qt mixm (α:=Nat) [1,8] (fun i=>i≤N.length) (fun i=>[(1,vPs ((N.take i).foldl (fun l p=>jz l p.col p.lev) l)),(8,vI i)]) (fun i=>[]) (fun i=>N.length-i) 0 oM ?_ fun i hi=>?_
 ·exact .oA [] []
 have hri:=hr i hi;refine sD ?_;refine⟨fun h2=>?_,fun h2=>?_⟩
 ·have hi2:i<N.length:=by omega
  have hwi:=qh (i:=i) oM;have sR:=jN ((N.take i).foldl (fun l p=>jz l p.col p.lev) l) N[i].col N[i].lev oM;simp only[tZ,↓uU,simprocAttr,Ax,qd hi2];refine⟨oM,oM,?_⟩;refine C1.im sR rF rF ?_;simp only[tZ,↓uU,simprocAttr,hwi];refine⟨kR,i+1,oM,oM,?_⟩;rw[qy hi2,Gx];exact .oA [] []
 ·have hil:i=N.length:=by omega
  subst hil;rw[Bw];exact .oA [] []
def Ke (s:Sch) (c:Cnd) (ds:List Pk):List Pk:=if schE s≠0∨wB s ds≠0∨chkC s c≠0 then [] else ds.foldl (fun l p=>jz l p.col (zO s p.col p.lev)) (addP s (addP s [] c) cnd0)
theorem zd1 (s:Sch) (hs:jY s) (hL:0<s.lists.length) (c:Cnd) (ds:List Pk) (hdl:ds.length<1000):Sp 30 [schT s,exT c ds] [] (vPs (Ke s c ds)) []:=by
 have sR:=zd0 s hs hL c ds;have hA:∀ (l:List Pk) (c:Cnd),(addP s l c).length≤l.length+40:=fun l c=>by
  have hn:=wR s c;have:∀ (N l:List Pk),(N.foldl (fun l p=>jz l p.col p.lev) l).length≤l.length+N.length:=by
   intro N
   induction N with
   | nil=>intro l;simp
   | cons p r ih=>
     intro l;have h1:=ih (jz l p.col p.lev);have h2:=wQ l p.col p.lev;rw[Dw,CJ];omega
  have:=this (zu s c) l;unfold addP;omega
 have sA1:=qC1 s hs hL [] c (by decide);have hA1:=hA [] c;have sA2:=qC1 s hs hL (addP s [] c) cnd0 (by simp at hA1;omega);have hA2:=hA (addP s [] c) cnd0;by_cases h0:schE s≠0∨wB s ds≠0∨chkC s c≠0
 ·rw[show ((schE s==0)&&(wB s ds==0)&&(chkC s c==0))=false by
   rw[FJ,FJ,Ak,Ak,Ak];rcases h0 with h | h | h
   ·exact .inl (.inl h)
   ·exact .inl (.inr h)
   ·exact .inr h] at sR
  unfold Ke;rw[Aj h0];refine sIr WK fun e _ hst=>?_;unfold wE;refine sW ?_;refine C1.im sR rF rF ?_;refine sW ?_;exact .oA [] []
 have e0:schE s=0∧wB s ds=0∧chkC s c=0:=by
  refine⟨?_,?_,?_⟩ <;> exact AQ fun k=>h0 (by simp [k])
 rw[e0.1,e0.2.1,e0.2.2] at sR;unfold Ke;rw[Aq h0];generalize addP s (addP s [] c) cnd0=A at sA2 hA2;generalize addP s [] c=B at sA1 sA2 hA1 hA2;have hX:∀ i,i≤ds.length→((ds.take i).foldl (fun l p=>jz l p.col (zO s p.col p.lev)) A).length≤A.length+i:=fun i hi=>by
  induction i with
  | zero=>simp
  | succ i ih=>
    have h1:=ih oM;have hi2:i<ds.length:=by omega
    rw[qy hi2,Gx];have:=wQ ((ds.take i).foldl (fun l p=>jz l p.col (zO s p.col p.lev)) A) ds[i].col (zO s ds[i].col ds[i].lev);simp only[Dw,List.foldl_nil];omega
 refine sIr WK fun e _ hst=>?_;unfold wE;refine sW ?_;refine C1.im sR rF rF ?_;refine sW ?_;refine C1.shut [] sA1 ?_ rF rfl ?_
 ·all_goals (try exact clA)
 refine sW ?_;refine C1.shut [] sA2 ?_ rF rfl ?_
 ·all_goals (try exact clA)
 refine sW ?_
 repeat (refine⟨kR,?_⟩)
 refine qt mixm (α:=Nat) [5,6] (fun i=>i≤ds.length) (fun i=>[(5,vPs ((ds.take i).foldl (fun l p=>jz l p.col (zO s p.col p.lev)) A)),(6,vI i)]) (fun i=>[aR 4096 2 [schT s],aR 4100 19 [exT c ds]]) (fun i=>ds.length-i) 0 oM ?_ fun i hi=>?_
 ·exact .oA (U2 4096 4100) []
 have hri:=hX i hi;refine sD ?_;refine⟨fun h2=>?_,fun h2=>?_⟩
 ·have hi2:i<ds.length:=by omega
  have hwi:=qh (i:=i) oM;have sL:=JH s hs ds[i].col ds[i].lev;have sX:=jN ((ds.take i).foldl (fun l p=>jz l p.col (zO s p.col p.lev)) A) ds[i].col (zO s ds[i].col ds[i].lev) (by simp at hA1;omega);simp only[tZ,↓uU,simprocAttr,Ax,qd hi2];refine⟨oM,oM,oM,?_⟩;refine C1.im sL rF rF ?_;refine sW ?_;refine C1.im sX rF rF ?_;simp only[tZ,↓uU,simprocAttr,hwi];refine⟨kR,i+1,oM,oM,?_⟩;rw[qy hi2,Gx];exact .oA (U2 4096 4100) []
 ·have hil:i=ds.length:=by omega
  subst hil;rw[Bw];refine qt mixm (α:=Nat) [7] (fun i=>i=0) (fun i=>[(7,vI i)]) (fun i=>[aR 4096 2 [schT s],aR 4100 19 [exT c ds]]) (fun _=>0) 0 rfl ?_ fun j hj=>?_
  ·exact .oA (U2 4096 4100) []
  subst hj;refine sW ?_;refine⟨fun h2=>absurd h2 sMp,fun _=>?_⟩;refine qt mixm (α:=Nat) [8] (fun i=>i=0) (fun i=>[(8,vI i)]) (fun i=>[aR 4096 2 [schT s],aR 4100 19 [exT c ds]]) (fun _=>0) 0 rfl ?_ fun j hj=>?_
  ·exact .oA (U2 4096 4100) []
  subst hj;refine sW ?_;refine⟨fun h2=>absurd h2 sMp,fun _=>?_⟩;exact .oA [] []
set_option maxHeartbeats 16000000
theorem zB2 {s:Sch} {l:List Pk} (h:wB s l=0):qe5 s l=true∧1≤l.length∧l.length≤3:=by
 unfold wB at h;split at h
 ·cases h
 rename_i h1;refine⟨Bk.2 fun i hi=>?_,oM,oM⟩;have hi2:=Dk.1 hi;have h2:=yI h i hi2;unfold dimE at h2;rw[show pkAt l i=l[i] from qg hi2] at h2;split at h2
 ·rename_i h3;exact absurd h2 h3
 rename_i h3;split at h2
 ·cases h2
 rename_i h4;split at h2
 ·cases h2
 rename_i h5;have h4:isB s l[i].col 2=true:=by simpa using h4
 obtain⟨_,_,h6⟩:=jk.1 h4;rw[zr0,qg hi2];simp only[Bq,AY];refine⟨⟨AQ h3,h6⟩,?_⟩;rw[Bool.not_eq_true,List.any_eq_false] at h5;rw[Bk];intro x hx;have:=h5 x hx;simpa using this
theorem jA4 (s:Sch) {l:List Pk} {i:Nat} (h:i<l.length):szD s (l.take (i+1))=szD s (l.take i)*((atL (qK s l[i].col.toNat) l[i].lev).length+1):=by
 unfold szD;rw[qy h,By,Gx]
 rfl
theorem jI5 {s:Sch} (hok:SchOk s):∀ l:List Pk,(∀ d∈l,CdC s d.col)→szD s l≤61 ^ l.length
 | [],_=>BZ 1
 | d::r,h=>by
   have ih:=jI5 hok r fun x hx=>h x (CQ _ hx);have hc:=h d sMp;have hr:=hc.rng;obtain⟨_,d2⟩:=hok.cdl (i:=d.col.toNat) oM hc.kind;obtain⟨_,_,d6⟩:=ze d2;have h2:=qZ6 (qK s d.col.toNat) d.lev;unfold szD at ih ⊢
   rw[List.map_cons,Dw,KX _ (1*_),Nat.one_mul,CJ,Nat.pow_succ,Nat.mul_comm];exact Nat.mul_le_mul ih oM
def cntF (ev:Nat→Int) (n:Nat):List Int:=List.map (fun i:Nat=>(i:Int)) ((List.range n).filter fun i=>ev i==1)
theorem jp1 (ev:Nat→Int) (n:Nat):cntF ev (n+1)=cntF ev n++(if ev n=1 then [(n:Int)] else []):=by
 unfold cntF;rw[List.range_succ,FY,By]
 congr 1
 by_cases h:ev n=1
 ·rw[Aj h,List.filter_cons,Aj (AY.2 h)];rfl
 ·rw[Aq h,List.filter_cons,Aq (by rw[AY];exact h)];rfl
theorem jA5 (ev:Nat→Int) (n:Nat):(cntF ev n).length≤n:=by
 unfold cntF;rw[BY];exact FZ (Fx _ _) sMp
theorem qL9 (s:Sch) (hs:jY s) (x:Ext) (hp:x.picks.length<1000000) (hr:∀ r∈x.rows,0<r.length∧r.length<1000000) (hn:x.rows.length<1000000) (hx:extE s x=0) (c:Cnd) (ev:Nat→Int) (hev:∀ i (h:i<x.rows.length),Sp 89 [schT s,cnT c,vPs x.picks,vIs (x.rows[i].drop 1)] [] (vI (ev i)) []):Sp 32 [schT s,extT x,cnT c,vIs []] [] (vIs (cntF ev x.rows.length)) []:=by
 have sC:=qf3 s hs x oM (fun r h=>by have:=hr r h;omega);rw[hx] at sC;refine sIr qv5 fun e _ hst=>?_;unfold yR;refine sW ?_;refine C1.im sC rF rF ?_;simp only[tZ,↓uU,simprocAttr,Bj,Aw];refine qt mixm (α:=Nat) [9,10] (fun i=>i≤x.rows.length) (fun i=>[(9,.asl 1 (cntF ev i).length),(10,vI i)]) (fun i=>[aR 4096 2 [schT s],aR 4100 4 [extT x],aR 4104 6 [cnT c],aR 1 1 ((cntF ev i).map vI)]) (fun i=>x.rows.length-i) 0 oM ?_ fun i hi=>?_
 ·show Le _ _ ⟨_,[aR 4096 2 [schT s],aR 4100 4 [extT x],aR 4104 6 [cnT c],aR 1 1 []]⟩;exact .oA [uI 4096,uI 4100,uI 4104,(1,none)] []
 have hfl:=jA5 ev i;refine sD ?_;refine⟨fun h2=>?_,fun h2=>?_⟩
 ·have hi2:i<x.rows.length:=by omega
  have hwi:=qh (i:=i) oM;have hri:=hr _ (AX hi2);have hsu:=jp1 ev i;have sE:=hev i hi2;simp only[tZ,↓uU,simprocAttr,Ax,qd hi2];refine⟨oM,oM,?_⟩;rw[Kt,show (1:Int)=((1:Nat):Int) from rfl,qU0];refine C1.im sE rF rF ?_;refine sW ?_;refine⟨kR,?_⟩;refine qt mixm (α:=Nat) [11,12] (fun k=>k=0) (fun k=>[(11,vB (ev i==1)),(12,vI k)]) (fun k=>[aR 4096 2 [schT s],aR 4100 4 [extT x],aR 4104 6 [cnT c],aR 1 1 ((cntF ev i).map vI)]) (fun k=>0) 0 rfl ?_ fun k hk=>?_
  ·exact .oA (U4 4096 4100 4104 1) []
  subst hk;refine sW ?_;refine⟨fun h3=>absurd h3 sMp,fun _=>⟨fun h4=>?_,fun h4=>?_⟩⟩
  ·rw[Aj (AY.1 h4)] at hsu;simp only[tZ,↓uU,simprocAttr,hwi];refine⟨oM,i+1,oM,oM,?_⟩;rw[hsu];exact .oA (U4 4096 4100 4104 1) []
  ·rw[Aq (by simpa using h4),CW] at hsu;simp only[tZ,↓uU,simprocAttr,hwi];refine⟨i+1,oM,oM,?_⟩;rw[hsu];exact .oA (U4 4096 4100 4104 1) []
 ·have hil:i=x.rows.length:=by omega
  subst hil;exact .oA [] [1]
end Go.Proofs
