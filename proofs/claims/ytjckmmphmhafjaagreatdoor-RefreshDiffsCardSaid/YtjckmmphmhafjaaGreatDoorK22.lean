/- A part of the proof: trees of Go values, short forms, contracts. -/
import Derived.WalkKit
import Derived.Still
import Derived.MapKept
import GoSem.Builtin.Cap
import Derived.Laws.Externs
import GoSem.Extern.SlicesOverlaps
import Derived.Carry
import Derived.ProofKit
import Derived.OpenShut
import Derived.HandedShaped
import Derived.Lay
import Derived.LaidLaws
import Derived.MakeChecks
import Derived.SevenTiedAt
import Derived.Test.YtjckmmphmhafjaaGreatDoorChecked
import Derived.Test.YtjckmmphmhafjaaGreatDoorK21
set_option linter.unusedSimpArgs false
set_option linter.unusedVariables false
namespace Go.Proofs
open Go Go.TL
set_option maxHeartbeats 4000000
theorem jh6 {s:Src} (h:SrcOk s) {r:List Int} (hr:r∈s.rows):∃ j:Nat,qc0 s (hd r) = j∧∃ hj:j < s.rows.length,s.rows[j] = r:=by
 have h1:s.rows.any (atR (hd r)) = true:=List.any_eq_true.2 ⟨r,hr,by rw [zi9 (h.rows r hr)];simp⟩
 have h2:s.rows.findIdx (atR (hd r)) < s.rows.length:=List.findIdx_lt_length_of_exists (by
  obtain ⟨x,a,b⟩:=List.any_eq_true.1 h1
  exact ⟨x,a,b⟩)
 refine ⟨_,by rw [qc0,if_pos h1],h2,?_⟩
 have h3:=List.findIdx_getElem (p:=atR (hd r)) (xs:=s.rows) (w:=h2)
 rw [zi9 (h.rows _ (List.getElem_mem h2)),beq_iff_eq] at h3
 obtain ⟨i,hi,rfl⟩:=List.getElem_of_mem hr
 have hp:=List.pairwise_iff_getElem.1 h.asc
 by_cases c1:s.rows.findIdx (atR (hd s.rows[i])) < i
 ·have:=hp _ i h2 hi c1;omega
 ·by_cases c2:i < s.rows.findIdx (atR (hd s.rows[i]))
  ·have:=hp i _ hi h2 c2;omega
  ·have e:s.rows.findIdx (atR (hd s.rows[i])) = i:=by omega
   simp only [e]
theorem zY2 {s:Sch} {l:List Pk} (h:WQ s l = 0):l.length≤8:=by
 obtain ⟨h1,h2,h3⟩:=zh4 h
 have hn:=(qT h1).nc
 have key:∀ i (hi:i < l.length),(i:Int) + 1≤l[i].col:=by
  intro i
  induction i with
  | zero=>intro hi;have:=qV0 (h2 _ (List.getElem_mem hi));omega
  | succ i ih=>
    intro hi
    have a:=ih (by omega)
    have b:=List.pairwise_iff_getElem.1 h3 i (i + 1) (by omega) hi (by omega)
    omega
 refine Classical.byContradiction fun c=>?_
 have a:=key 7 (by omega)
 have b:=qV0 (h2 _ (List.getElem_mem (show 7 < l.length by omega)))
 omega
def rowX (s:Src) (l:List Pk) (k:Int) (r:List Int):List Int:=keyI k (hd r) :: l.map fun p=>jb s.sch p.col p.lev (r.getD p.col.toNat 0)
def ZH (s:Src) (l:List Pk) (k:Int):List (List Int)→List Int→List (List Int):=fun a r=>putR a (rowX s l k r)
def qi6 (s:Src) (d:Dcl) (l:List Pk) (k:Int):List (List Int):=(ownR s d).foldl (ZH s l k) []
def buildE (s:Src) (d:Dcl) (l:List Pk) (k:Int):Int:=if srcB s = false then 13 else if zp5 s.sch d l≠0 then zp5 s.sch d l else if k < 0∨k≥1152921504606846976 then 2 else 0
abbrev ext0:Ext:=⟨⟨#[]⟩,0,[],[]⟩
def ZI (s:Src) (d:Dcl) (l:List Pk) (k:Int):Ext:=if buildE s d l k≠0 then ext0 else ⟨d.proj,s.ver,l,qi6 s d l k⟩
theorem jh7 {s:Sch} {d:Dcl} {l:List Pk} (h:zp5 s d l = 0):dclE s d = 0∧WQ s l = 0:=by
 unfold zp5 at h
 split at h
 ·rename_i h1;exact absurd h h1
 rename_i h1
 split at h
 ·rename_i h2;exact absurd h h2
 rename_i h2
 exact ⟨Classical.byContradiction h1,Classical.byContradiction h2⟩
theorem zA7 (s:Src) (l:List Pk) (k:Int) (r:List Int):0 < (rowX s l k r).length:=by simp [rowX]
theorem zA8 {l:List (List Int)} {row:List Int} (h:∀ r∈l,0 < r.length) (h0:0 < row.length):∀ r∈putR l row,0 < r.length:=by
 have key:∀ (m:List (List Int)) (x:List (List Int)×Bool),(∀ r∈m,0 < r.length)→(∀ r∈x.1,0 < r.length)→∀ r∈(m.foldl (putS row) x).1,0 < r.length:=by
  intro m
  induction m with
  | nil=>intro x _ h;exact h
  | cons y m ih=>
    intro x h1 h2
    rw [List.foldl_cons]
    refine ih _ (fun r hr=>h1 r (List.mem_cons_of_mem _ hr)) ?_
    have hy:=h1 y (by simp)
    unfold putS
    intro r hr
    split at hr
    ·exact h2 r hr
    ·split at hr
     ·simp only [List.mem_append,List.mem_singleton] at hr
      rcases hr with (hr | hr) | hr
      ·exact h2 r hr
      ·rw [hr];exact h0
      ·rw [hr];exact hy
     ·simp only [List.mem_append,List.mem_singleton] at hr
      rcases hr with hr | hr
      ·exact h2 r hr
      ·rw [hr];exact hy
 have k2:=key l ([],false) h (by simp)
 unfold putR
 dsimp only
 split
 ·exact k2
 ·intro r hr
  rcases List.mem_append.1 hr with hr | hr
  ·exact k2 r hr
  ·rw [List.mem_singleton.1 hr];exact h0
theorem zj9 (s:Src) (l:List Pk) (k:Int):∀ (m a:List (List Int)),(∀ r∈a,0 < r.length)→(∀ r∈m.foldl (ZH s l k) a,0 < r.length)∧(m.foldl (ZH s l k) a).length≤a.length + m.length
 | [],a,h=>⟨h,Nat.le_refl _⟩
 | r :: m,a,h=>by
   obtain ⟨h1,h2⟩:=zj9 s l k m (ZH s l k a r) (zA8 h (zA7 s l k r))
   have h3:=Yj a (rowX s l k r)
   refine ⟨h1,?_⟩
   rw [List.foldl_cons,List.length_cons]
   unfold ZH at h2 ⊢
   omega
theorem qi7 (s:Src) (d:Dcl) (l:List Pk) (k:Int) (hs:qI3 s) (hL:0 < s.sch.lists.length) (hl:l.length < 4611686018427387904):Spc Tryz.prog Qk [srcT s,dclT d,vPs l,vI k] [] (.tup [extT (ZI s d l k),vI (buildE s d l k)]) []:=by
 have hE:=(rfl:buildE s d l k = buildE s d l k)
 have hS:ZI s d l k = if buildE s d l k≠0 then ext0 else ⟨d.proj,s.ver,l,qi6 s d l k⟩:=rfl
 conv at hE=>rhs;unfold buildE
 have hbad:∀ v,v≠0→buildE s d l k = v→ZI s d l k = ext0∧buildE s d l k = v:=fun v h1 h2=>⟨by rw [hS,h2,if_pos h1],h2⟩
 have hgood:buildE s d l k = 0→ZI s d l k = ⟨d.proj,s.ver,l,qi6 s d l k⟩:=fun h=>by rw [hS,h,if_neg (by simp)]
 clear hS
 generalize buildE s d l k = E at hE hbad hgood ⊢
 generalize ZI s d l k = A at hbad hgood ⊢
 refine qe qC3 mixm (by simp) fun e _ hst=>qh ?_
 unfold ZR
 refine sW ?_
 refine C1.im (KO s hs) (by rfl) (by rfl) ?_
 simp only [tZ,↓un_u,simprocAttr,Bool.not_eq_true',Bool.not_eq_false']
 refine ⟨fun h=>?_,fun h=>?_⟩
 ·obtain ⟨a1,a2⟩:=hbad 13 (by decide) (by rw [hE,if_pos h])
  rw [a1,a2]
  exact .oA [] []
 rw [if_neg (by rw [h];simp)] at hE
 have hok:=qm6.1 h
 refine C1.im (qW0 s.sch hs.1 hL d l hl) (by rfl) (by rfl) ?_
 simp only [tZ,↓un_u,simprocAttr,bne_iff_ne,bne_eq_false_iff_eq]
 refine ⟨fun h2=>?_,fun h2=>?_⟩
 ·obtain ⟨a1,a2⟩:=hbad _ h2 (by rw [hE,if_pos h2])
  rw [a1,a2]
  exact .oA [] []
 rw [if_neg (by rw [h2];simp)] at hE
 obtain ⟨hd0,hp0⟩:=jh7 h2
 refine sD ?_
 refine ⟨fun h3=>?_,fun h3=>?_⟩
 ·obtain ⟨a1,a2⟩:=hbad 2 (by decide) (by rw [hE,if_pos (by omega)])
  rw [a1,a2]
  exact .oA [] []
 rw [if_neg (by omega)] at hE
 have a1:=hgood hE
 rw [a1,hE]
 clear hbad hgood
 have hpl:=zY2 hp0
 obtain ⟨_,hpk,_⟩:=zh4 hp0
 refine ⟨by omega,by kernel_rfl,?_⟩
 refine C1.im (qI6 s d hs hL) (by rfl) (by rfl) ?_
 have hoR:∀ r∈ownR s d,r∈s.rows:=fun r hr=>by
  unfold ownR at hr
  split at hr
  ·simp at hr
  ·exact (List.mem_filter.1 hr).1
 have hol:(ownR s d).length≤200:=by
  unfold ownR
  split
  ·simp
  ·exact Nat.le_trans (List.length_filter_le _ _) hok.nr
 unfold ownS qi6
 generalize ownR s d = R at hoR hol ⊢
 refine sW ?_
 refine qr mixm (α:=Nat) [13] (fun i=>i≤R.length) (fun i=>[(13,vI i)]) (fun i=>[(4096,.arr 5 [srcT s] false),(4104,.arr 4 [extT ext0] false),(36884,.arr 2 (l.map pkT) false),(36892,.arr 4 [.agg [vS d.proj,vI s.ver,.asl 36884 l.length,vRw ((R.take i).foldl (ZH s l k) [])]] false)]) (fun i=>R.length - i) 0 (by omega) ?_ fun i hi=>?_
 ·exact .oA [(4096,some 4096),(4104,some 4104),(36884,some 36884),(36892,some 36892)] []
 refine sD ?_
 refine ⟨fun h4=>?_,fun h4=>?_⟩
 ·have hi2:i < R.length:=by omega
  have hwi:=qg (i:=i) (by omega)
  obtain ⟨b1,b2⟩:=zj9 s l k (R.take i) [] (by simp)
  have hsu:(R.take (i + 1)).foldl (ZH s l k) [] = putR ((R.take i).foldl (ZH s l k) []) (rowX s l k R[i]):=by rw [qD hi2,List.foldl_append];rfl
  generalize (R.take i).foldl (ZH s l k) [] = C at hsu b1 b2 ⊢
  simp only [List.length_nil,List.length_take] at b2
  have hri:=hoR _ (List.getElem_mem hi2)
  obtain ⟨j,f1,f2,f3⟩:=jh6 hok hri
  have hgm:(R.map hd).length = R.length:=List.length_map ..
  have hgh:((R.map hd).map vI).getD i .junk = vI (hd R[i]):=by rw [List.map_map,qd (f:=vI ∘ hd) hi2];rfl
  have hKey:=zq3 k (hd R[i])
  have hpos:=zA7 s l k R[i]
  have hX:rowX s l k R[i] = keyI k (hd R[i]) :: l.map fun p=>jb s.sch p.col p.lev (R[i].getD p.col.toNat 0):=rfl
  have hrl:=(WO (hok.rows _ hri)).2.1
  have hnr:=hok.nr
  have hPut:=KN C (rowX s l k R[i]) (by omega) b1 hpos
  simp only [tZ,↓un_u,simprocAttr,Int.toNat_natCast,hgh]
  refine ⟨by omega,?_⟩
  refine C1.im (ZE s (hd R[i]) (by omega)) (by rfl) (by rfl) ?_
  rw [f1]
  simp only [tZ,↓un_u,simprocAttr,Int.toNat_natCast,qd f2,f3]
  refine ⟨by omega,by kernel_rfl,?_⟩
  generalize R[i] = r at hX hrl hKey hgh hpos hsu hPut ⊢
  simp only [tZ,↓un_u,simprocAttr,Int.toNat_natCast,hgh]
  refine ⟨by omega,?_⟩
  refine C1.im hKey (by rfl) (by rfl) ?_
  refine sW ?_
  refine qr mixm (α:=Nat) [15,16] (fun n=>n≤l.length) (fun n=>[(15,.asl 61464 (n + 1)),(16,vI n)]) (fun n=>[(4096,.arr 5 [srcT s] false),(4104,.arr 4 [extT ext0] false),(36884,.arr 2 (l.map pkT) false),(36892,.arr 4 [.agg [vS d.proj,vI s.ver,.asl 36884 l.length,vRw C]] false),(61464,.arr 1 ((keyI k (hd r) :: (l.take n).map fun p=>jb s.sch p.col p.lev (r.getD p.col.toNat 0)).map vI) false)]) (fun n=>l.length - n) 0 (by omega) ?_ fun n hn=>?_
  ·exact .oA [(4096,some 4096),(4104,some 4104),(36884,some 36884),(36892,some 36892),(61464,some 61464)] []
  have hnl:(l.take n).length = n:=by rw [List.length_take];omega
  refine sD ?_
  refine ⟨fun h5=>?_,fun h5=>?_⟩
  ·have hn2:n < l.length:=by omega
   have hwn:=qg (i:=n) (by omega)
   have hpn:=qV0 (hpk _ (List.getElem_mem hn2))
   have hcl:l[n].col.toNat < r.length:=by omega
   have hgc:(r.map vI).getD l[n].col.toNat .junk = vI (r.getD l[n].col.toNat 0):=by rw [qd hcl,qj hcl]
   simp only [tZ,↓un_u,simprocAttr,Int.toNat_natCast,qd hn2,hgc]
   refine ⟨by omega,by omega,by omega,by omega,?_⟩
   refine C1.im (jc s.sch hs.1 l[n].col l[n].lev _) (by rfl) (by rfl) ?_
   simp only [tZ,↓un_u,simprocAttr,hwn]
   refine ⟨⟨hnl,by omega⟩,by kernel_rfl,n + 1,by omega,by omega,?_⟩
   rw [qD hn2,List.map_append]
   exact .oA [(4096,some 4096),(4104,some 4104),(36884,some 36884),(36892,some 36892),(61464,some 61464)] []
  ·have hnl2:n = l.length:=by omega
   subst hnl2
   rw [hX] at hPut
   rw [List.take_length]
   refine C1.shut [61464] hPut ?_ (by rfl) rfl ?_
   ·simp only [tL,simprocAttr]
    exact ⟨rfl,zy6 (_ :: _)⟩
   rw [← hX,← hsu]
   simp only [tZ,↓un_u,simprocAttr,hwi]
   refine ⟨i + 1,by omega,by omega,?_⟩
   exact .oA [(4096,some 4096),(4104,some 4104),(36884,some 36884),(36892,some 36892)] []
 ·have hil:i = R.length:=by omega
  subst hil
  rw [List.take_length]
  exact .oA [] [36884]
theorem qo9 (a b:Ext) (ha:a.picks.length < 4611686018427387904) (har:a.rows.length < 4611686018427387904) (hr:∀ r∈a.rows,r.length < 4611686018427387904):Spc Tryz.prog yE [extT a,extT b] [] (vB (eqB a.proj b.proj && (a.ver == b.ver) && yH a.picks b.picks && WN a.rows b.rows)) []:=by
 refine qe qQ6 mixm (by simp) fun e _ hst=>qh ?_
 unfold Kn
 refine sW ?_
 refine C2.im (fun _=>JP a.picks b.picks ha) (fun _=>rfl) (by rfl) ?_
 refine sW ?_
 refine C2.im (fun _=>qo6 a.rows b.rows har hr) (fun _=>rfl) (by rfl) ?_
 refine sW ?_
 rw [show (a.proj.toList == b.proj.toList) = eqB a.proj b.proj from rfl]
 exact .oA [] []
end Go.Proofs
namespace Go.Proofs
open Go Go.TL
set_option maxRecDepth 4000
set_option maxHeartbeats 8000000
open So
theorem qW8 (a:Ext) (c:Chg) (ha:ExtSm a) (hc:ChgSm c):Spc Tryz.prog Kc [extT a,chgT c] [] (.tup [extT (appX a c),vI (appE a c)]) []:=by
 have hE:=(rfl:appE a c = appE a c)
 have hS:appX a c = if appE a c≠0 then ⟨⟨#[]⟩,0,[],[]⟩ else ⟨a.proj,c.ver,a.picks,appR a.rows c.gone c.rows⟩:=rfl
 conv at hE=>rhs;unfold appE
 have hbad:∀ v,v≠0→appE a c = v→appX a c = ⟨⟨#[]⟩,0,[],[]⟩∧appE a c = v:=fun v h1 h2=>⟨by rw [hS,h2,if_pos h1],h2⟩
 have hgood:appE a c = 0→appX a c = ⟨a.proj,c.ver,a.picks,appR a.rows c.gone c.rows⟩:=fun h=>by rw [hS,h,if_neg (by simp)]
 clear hS
 generalize appE a c = E at hE hbad hgood ⊢
 generalize appX a c = A at hbad hgood ⊢
 have har:=ha.rows
 have hcr:=hc.rows
 have hap:=ha.picks
 have hla:=har.1
 have hlc:=hcr.1
 have hlg:=hc.gone
 refine qe qC1 mixm (by simp) fun e _ hst=>qh ?_
 unfold ZO
 refine sW ?_
 refine C1.im (wT a.rows har.1) (by rfl) (by rfl) ?_
 refine sW ?_
 refine C2.im (fun _=>wT c.rows hcr.1) (fun _=>rfl) (by rfl) ?_
 simp only [tZ,↓un_u,simprocAttr,tD,Bool.not_eq_true',Bool.not_eq_false']
 refine ⟨fun h=>?_,fun h=>?_⟩
 ·obtain ⟨a1,a2⟩:=hbad 11 (by decide) (by rw [hE,if_pos (by grind)])
  rw [a1,a2]
  exact .oA [] []
 have hAsc:ascI c.gone = false→A = ⟨⟨#[]⟩,0,[],[]⟩∧E = 11:=fun k=>hbad 11 (by decide) (by rw [hE,if_pos (by grind)])
 obtain ⟨hap1,hasa⟩:=KP.1 h.1
 obtain ⟨hcp1,hasc⟩:=KP.1 h.2
 clear hAsc
 refine qr mixm (α:=Nat) [6] (fun i=>1≤i∧(i≤c.gone.length∨i = 1)∧∀ j,j < i→asc2 c.gone j = true) (fun i=>[(6,vI i)]) (fun i=>[(4096,.arr 4 [extT a] false),(4100,.arr 3 [chgT c] false),(4104,.arr 4 [extT ⟨⟨#[]⟩,0,[],[]⟩] false)]) (fun i=>c.gone.length - i) 1 ⟨Nat.le_refl _,.inr rfl,fun j hj=>by rw [show j = 0 by omega];rfl⟩ ?_ fun i hi=>?_
 ·exact .oA [(4096,some 4096),(4100,some 4100),(4104,some 4104)] []
 obtain ⟨i0,i1,i2⟩:=hi
 refine sD ?_
 refine ⟨fun h2=>?_,fun h2=>?_⟩
 ·have hi2:i < c.gone.length:=by omega
  obtain ⟨k,rfl⟩:∃ k,i = k + 1:=⟨i - 1,by omega⟩
  have hk2:k < c.gone.length:=by omega
  have hwi:=qg (i:=k + 1) (by omega)
  have e3:=zk (i:=k + 1) (by omega) (by omega)
  rw [Nat.add_sub_cancel] at e3
  have hP:asc2 c.gone (k + 1) = decide (c.gone[k] < c.gone[k + 1]):=by
   unfold asc2
   rw [Nat.add_sub_cancel,qj hi2,qj hk2,decide_eq_false (by omega),Bool.false_or]
  simp only [tZ,↓un_u,simprocAttr,Int.toNat_natCast,qd hi2,qd hk2,e3,hwi,tD]
  refine ⟨by omega,by omega,by kernel_rfl,fun h4=>?_,fun h4=>?_⟩
  ·have hA:ascI c.gone = false:=List.all_eq_false.2 ⟨k + 1,List.mem_range.2 hi2,by rw [hP];simp;omega⟩
   obtain ⟨a1,a2⟩:=hbad 11 (by decide) (by rw [hE,if_pos (.inr (.inr (.inl hA)))])
   rw [a1,a2]
   exact .oA [] []
  ·refine ⟨k + 2,⟨by omega,.inl (by omega),fun j hj=>?_⟩,by omega,?_⟩
   ·by_cases e:j = k + 1
    ·rw [e,hP];exact decide_eq_true (by omega)
    ·exact i2 j (by omega)
   ·exact .oA [(4096,some 4096),(4100,some 4100),(4104,some 4104)] []
 have hasg:ascI c.gone = true:=List.all_eq_true.2 fun j hj=>i2 j (by have:=List.mem_range.1 hj;omega)
 refine qr mixm (α:=Nat) [7] (fun i=>i≤c.rows.length∧(c.rows.take i).any (fun r=>decide (r.length≠a.picks.length + 1)) = false) (fun i=>[(7,vI i)]) (fun i=>[(4096,.arr 4 [extT a] false),(4100,.arr 3 [chgT c] false),(4104,.arr 4 [extT ⟨⟨#[]⟩,0,[],[]⟩] false)]) (fun i=>c.rows.length - i) 0 ⟨by omega,rfl⟩ ?_ fun i hi=>?_
 ·exact .oA [(4096,some 4096),(4100,some 4100),(4104,some 4104)] []
 clear i0 i1 i2 h2
 obtain ⟨i1,i2⟩:=hi
 refine sD ?_
 refine ⟨fun h2=>?_,fun h2=>?_⟩
 ·have hi2:i < c.rows.length:=by omega
  have hwi:=qg (i:=i) (by omega)
  have hwp:=qg (i:=a.picks.length) (by omega)
  simp only [tZ,↓un_u,simprocAttr,Int.toNat_natCast,qd hi2,hwi,hwp,bne_iff_ne,bne_eq_false_iff_eq]
  refine ⟨by omega,by kernel_rfl,fun h4=>?_,fun h4=>?_⟩
  ·have hA:=qo3 (p:=fun r:List Int=>decide (r.length≠a.picks.length + 1)) hi2 (decide_eq_true (by omega))
   obtain ⟨a1,a2⟩:=hbad 11 (by decide) (by rw [hE,if_pos (.inr (.inr (.inr hA)))])
   rw [a1,a2]
   exact .oA [] []
  ·refine ⟨i + 1,⟨by omega,zP hi2 i2 (decide_eq_false (by omega))⟩,by omega,?_⟩
   exact .oA [(4096,some 4096),(4100,some 4100),(4104,some 4104)] []
 have hil:i = c.rows.length:=by omega
 subst hil
 rw [List.take_length] at i2
 rw [if_neg (by rw [h.1,h.2,hasg,i2];simp)] at hE
 clear i1 i2 h2
 refine qr mixm (α:=Nat) [8] (fun i=>i≤c.gone.length∧(c.gone.take i).any (fun k=>!hasK a.rows k) = false) (fun i=>[(8,vI i)]) (fun i=>[(4096,.arr 4 [extT a] false),(4100,.arr 3 [chgT c] false),(4104,.arr 4 [extT ⟨⟨#[]⟩,0,[],[]⟩] false)]) (fun i=>c.gone.length - i) 0 ⟨by omega,rfl⟩ ?_ fun i hi=>?_
 ·exact .oA [(4096,some 4096),(4100,some 4100),(4104,some 4104)] []
 obtain ⟨i1,i2⟩:=hi
 refine sD ?_
 refine ⟨fun h2=>?_,fun h2=>?_⟩
 ·have hi2:i < c.gone.length:=by omega
  have hwi:=qg (i:=i) (by omega)
  have hfd:=ZF a.rows c.gone[i] (by omega) hap1
  have hfn:fndR a.rows c.gone[i] < 0↔hasK a.rows c.gone[i] = false:=by
   unfold fndR
   cases hasK a.rows c.gone[i] with
   | true=>simp
   | false=>simp
  simp only [tZ,↓un_u,simprocAttr,Int.toNat_natCast,qd hi2]
  refine ⟨by omega,?_⟩
  refine C1.im hfd (by rfl) (by rfl) ?_
  simp only [tZ,↓un_u,simprocAttr,tD,hwi]
  refine ⟨by kernel_rfl,fun h4=>?_,fun h4=>?_⟩
  ·obtain ⟨a1,a2⟩:=hbad 21 (by decide) (by rw [hE,if_pos (qo3 (p:=fun k=>!hasK a.rows k) hi2 (by rw [hfn.1 h4];rfl))])
   rw [a1,a2]
   exact .oA [] []
  ·refine ⟨i + 1,⟨by omega,zP hi2 i2 (by cases e:hasK a.rows c.gone[i] with | true=>rfl | false=>exact absurd (hfn.2 e) h4)⟩,by omega,?_⟩
   exact .oA [(4096,some 4096),(4100,some 4100),(4104,some 4104)] []
 have hil:i = c.gone.length:=by omega
 subst hil
 rw [List.take_length] at i2
 rw [if_neg (by rw [i2];simp)] at hE
 clear i1 i2 h2
 refine qr mixm (α:=Nat) [9] (fun i=>i≤c.gone.length∧(c.gone.take i).any (fun k=>hasK c.rows k) = false) (fun i=>[(9,vI i)]) (fun i=>[(4096,.arr 4 [extT a] false),(4100,.arr 3 [chgT c] false),(4104,.arr 4 [extT ⟨⟨#[]⟩,0,[],[]⟩] false)]) (fun i=>c.gone.length - i) 0 ⟨by omega,rfl⟩ ?_ fun i hi=>?_
 ·exact .oA [(4096,some 4096),(4100,some 4100),(4104,some 4104)] []
 obtain ⟨i1,i2⟩:=hi
 refine sD ?_
 refine ⟨fun h2=>?_,fun h2=>?_⟩
 ·have hi2:i < c.gone.length:=by omega
  have hwi:=qg (i:=i) (by omega)
  have hfd:=ZF c.rows c.gone[i] (by omega) hcp1
  have hfn:0≤fndR c.rows c.gone[i]↔hasK c.rows c.gone[i] = true:=by
   unfold fndR
   cases hasK c.rows c.gone[i] with
   | true=>simp
   | false=>simp
  simp only [tZ,↓un_u,simprocAttr,Int.toNat_natCast,qd hi2]
  refine ⟨by omega,?_⟩
  refine C1.im hfd (by rfl) (by rfl) ?_
  simp only [tZ,↓un_u,simprocAttr,tD,hwi]
  refine ⟨by kernel_rfl,fun h4=>?_,fun h4=>?_⟩
  ·obtain ⟨a1,a2⟩:=hbad 10 (by decide) (by rw [hE,if_pos (qo3 (p:=fun k=>hasK c.rows k) hi2 (hfn.1 (by omega)))])
   rw [a1,a2]
   exact .oA [] []
  ·refine ⟨i + 1,⟨by omega,zP hi2 i2 (by cases e:hasK c.rows c.gone[i] with | false=>rfl | true=>exact absurd (hfn.2 e) (by omega))⟩,by omega,?_⟩
   exact .oA [(4096,some 4096),(4100,some 4100),(4104,some 4104)] []
 have hil:i = c.gone.length:=by omega
 subst hil
 rw [List.take_length] at i2
 rw [if_neg (by rw [i2];simp)] at hE
 have a1:=hgood hE
 rw [a1,hE]
 clear hbad hgood i1 i2 h2
 refine qr mixm (α:=Nat) [11] (fun i=>i≤a.rows.length) (fun i=>[(11,vI i)]) (fun i=>[(4096,.arr 4 [extT a] false),(4100,.arr 3 [chgT c] false),(4104,.arr 4 [extT ⟨⟨#[]⟩,0,[],[]⟩] false),(98332,.arr 4 [.agg [vS a.proj,vI c.ver,vPs a.picks,.asl 1 ((a.rows.take i).filter fun r=>!c.gone.contains (hd r)).length]] false),(1,.arr 1 (((a.rows.take i).filter fun r=>!c.gone.contains (hd r)).map vIs) false)]) (fun i=>a.rows.length - i) 0 (by omega) ?_ fun i hi=>?_
 ·simp only [List.take_zero,List.filter_nil,List.length_nil,List.map_nil]
  exact .oA [(4096,some 4096),(4100,some 4100),(4104,some 4104),(98332,some 98332),(1,none)] []
 have hsl:=List.length_filter_le (fun r:List Int=>!c.gone.contains (hd r)) (a.rows.take i)
 rw [List.length_take] at hsl
 refine sD ?_
 refine ⟨fun h2=>?_,fun h2=>?_⟩
 ·have hi2:i < a.rows.length:=by omega
  have hwi:=qg (i:=i) (by omega)
  have hpi:=hap1 _ (List.getElem_mem hi2)
  have hgi:=qU hpi
  have hct:=yn c.gone (hd a.rows[i]) (by omega)
  have hsp:(a.rows.take (i + 1)).filter (fun r=>!c.gone.contains (hd r)) = (a.rows.take i).filter (fun r=>!c.gone.contains (hd r)) ++ if c.gone.contains (hd a.rows[i]) = true then [] else [a.rows[i]]:=by
   rw [qD hi2,List.filter_append,List.filter_cons,List.filter_nil]
   cases c.gone.contains (hd a.rows[i]) <;> rfl
  generalize (a.rows.take i).filter (fun r=>!c.gone.contains (hd r)) = L at hsl hsp ⊢
  simp only [tZ,↓un_u,simprocAttr,Int.toNat_natCast,qd hi2,hgi]
  refine ⟨by omega,by omega,?_⟩
  refine C1.im hct (by rfl) (by rfl) ?_
  simp only [tZ,↓un_u,simprocAttr,Bool.not_eq_true',Bool.not_eq_false']
  refine ⟨by kernel_rfl,fun h4=>?_,fun h4=>?_⟩
  ·rw [if_neg (by rw [h4];simp)] at hsp
   have hspl:=congrArg List.length hsp
   simp only [List.length_append,List.length_cons,List.length_nil] at hspl
   simp only [tZ,↓un_u,simprocAttr,Int.toNat_natCast,qd hi2,hwi]
   refine ⟨by omega,by omega,by kernel_rfl,i + 1,by omega,by omega,?_⟩
   rw [hsp]
   exact .oA [(4096,some 4096),(4100,some 4100),(4104,some 4104),(98332,some 98332),(1,some 1)] []
  ·rw [if_pos h4,List.append_nil] at hsp
   simp only [tZ,↓un_u,simprocAttr,hwi]
   refine ⟨i + 1,by omega,by omega,?_⟩
   rw [hsp]
   exact .oA [(4096,some 4096),(4100,some 4100),(4104,some 4104),(98332,some 98332),(1,some 1)] []
 have hil:i = a.rows.length:=by omega
 subst hil
 rw [List.take_length] at hsl ⊢
 have hq2:∀ x∈a.rows.filter (fun r=>!c.gone.contains (hd r)),0 < x.length:=fun x hx=>hap1 x (List.mem_filter.1 hx).1
 unfold appR
 generalize a.rows.filter (fun r=>!c.gone.contains (hd r)) = L at hsl hq2 ⊢
 have hpos:∀ (rs l:List (List Int)),(∀ x∈l,0 < x.length)→(∀ x∈rs,0 < x.length)→(∀ x∈rs.foldl putR l,0 < x.length)∧(rs.foldl putR l).length≤l.length + rs.length:=by
  intro rs
  induction rs with
  | nil=>intro l h1 _;exact ⟨h1,by simp⟩
  | cons r rs ih=>
    intro l h1 h2
    obtain ⟨k1,k2⟩:=ih (putR l r) (zA8 h1 (h2 r (by simp))) (fun x hx=>h2 x (List.mem_cons_of_mem _ hx))
    have:=Yj l r
    rw [List.foldl_cons,List.length_cons]
    exact ⟨k1,by omega⟩
 refine qr mixm (α:=Nat) [12] (fun i=>i≤c.rows.length) (fun i=>[(12,vI i)]) (fun i=>[(4100,.arr 3 [chgT c] false),(4104,.arr 4 [extT ⟨⟨#[]⟩,0,[],[]⟩] false),(98332,.arr 4 [.agg [vS a.proj,vI c.ver,vPs a.picks,vRw ((c.rows.take i).foldl putR L)]] false)]) (fun i=>c.rows.length - i) 0 (by omega) ?_ fun i hi=>?_
 ·rw [List.take_zero,List.foldl_nil]
  refine .of [(4100,some 4100),(4104,some 4104),(98332,some 98332)] [1] rfl (by first | rfl | (rw [hst];rfl)) ?_ ?_
  all_goals (try simp only [tL,simprocAttr,List.map_append,List.map_cons,List.map_nil,List.cons_append,List.nil_append])
  all_goals (try (repeat' (first | exact qZ | (apply zN;intro _;exact ⟨rfl,rfl⟩) | (apply qA;intro _;exact ⟨rfl,rfl⟩) | with_reducible apply za | with_reducible refine zo ⟨rfl,rfl⟩ ?_ | exact zO | with_reducible apply qV | with_reducible refine qJ ⟨rfl,rfl,?_⟩ ?_ | with_reducible apply And.intro | exact qW rfl | exact qW (by assumption) | (refine ⟨⟨?_,rfl,?_,rfl,?_⟩,trivial⟩ <;> first | (simp;done) | (apply qA;intro _;exact ⟨rfl,rfl⟩)) | trivial | rfl | (rw [qg (by omega)]) | omega)))
  show ltCs _ _ _ [vS a.proj,vI c.ver,vPs a.picks,.asl 1 L.length] [vS a.proj,vI c.ver,vPs a.picks,vRw L]
  all_goals (try exact clA)
 obtain ⟨p1,p2⟩:=hpos (c.rows.take i) L hq2 fun x hx=>hcp1 x (List.mem_of_mem_take hx)
 rw [List.length_take] at p2
 refine sD ?_
 refine ⟨fun h2=>?_,fun h2=>?_⟩
 ·have hi2:i < c.rows.length:=by omega
  have hwi:=qg (i:=i) (by omega)
  have hsp:(c.rows.take (i + 1)).foldl putR L = putR ((c.rows.take i).foldl putR L) c.rows[i]:=by rw [qD hi2,List.foldl_append];rfl
  generalize (c.rows.take i).foldl putR L = C at p1 p2 hsp ⊢
  have hpu:=KN C c.rows[i] (by omega) p1 (hcp1 _ (List.getElem_mem hi2))
  simp only [tZ,↓un_u,simprocAttr,Int.toNat_natCast,qd hi2]
  refine ⟨by omega,?_⟩
  refine C1.im hpu (by rfl) (by rfl) ?_
  simp only [tZ,↓un_u,simprocAttr,hwi]
  refine ⟨by kernel_rfl,i + 1,by omega,by omega,?_⟩
  rw [hsp]
  exact .oA [(4100,some 4100),(4104,some 4104),(98332,some 98332)] []
 have hil:i = c.rows.length:=by omega
 subst hil
 rw [List.take_length]
 exact .oA [] []
end Go.Proofs
namespace Go.Proofs
open Go Go.TL
set_option maxRecDepth 4000
set_option maxHeartbeats 8000000
open So
def awA:Ext:=⟨⟨#[112]⟩,0,[],[[3],[5]]⟩
def awB:Ext:=⟨⟨#[112]⟩,2,[],[[5],[9]]⟩
def awC:Chg:=⟨2,[3],[[9]]⟩
theorem jo5:ExtSm awA:=⟨⟨by decide,by decide⟩,by decide⟩
theorem jy0:ExtSm awB:=⟨⟨by decide,by decide⟩,by decide⟩
theorem jy1:ChgSm awC:=⟨⟨by decide,by decide⟩,by decide⟩
theorem qi8:Spc Tryz.prog Qj [] [] (vB true) []:=by
 have hD:=YH awA awB jo5 jy0
 rw [show qi3 awA awB = awC by kernel_rfl,show JQ awA awB = 0 by kernel_rfl] at hD
 have hA:=WV awA awC jo5 jy1
 rw [show appX awA awC = awB by kernel_rfl,show appE awA awC = 0 by kernel_rfl] at hA
 have hS:=qo9 awB awB (by decide) (by decide) (by decide)
 rw [show (eqB awB.proj awB.proj && (awB.ver == awB.ver) && yH awB.picks awB.picks && WN awB.rows awB.rows) = true by kernel_rfl] at hS
 have hI1:=yG [3] [3] (by decide)
 rw [show WM [3] [3] = true by kernel_rfl] at hI1
 have hK:=YI awC (by decide)
 rw [show setI (qI5 awC) = [3,9] by kernel_rfl] at hK
 have hI2:=yG [3,9] [3,9] (by decide)
 rw [show WM [3,9] [3,9] = true by kernel_rfl] at hI2
 have hT:=WW awC [1,9] (by decide) (by decide)
 rw [show zX6 awC [1,9] = true by kernel_rfl] at hT
 have hU:=WW awC [5] (by decide) (by decide)
 rw [show zX6 awC [5] = false by kernel_rfl] at hU
 refine qe qB9 mixm (by simp) fun e _ hst=>qh ?_
 unfold ZN
 refine sW ?_
 refine C1.shutD [8192,8196,8200,12288,12292,12296] hD ?_ (by rfl) rfl ?_
 ·simp [ptw,ltAD,ltD,TL.get,T.cells,imT,imL,awA,awB]
  all_goals (try (repeat' apply And.intro))
  all_goals (try rfl)
 refine sW ?_
 refine C1.shutD [8192,8196,8200] hA ?_ (by rfl) rfl ?_
 ·simp [ptw,ltAD,ltD,TL.get,T.cells,imT,imL,awA,awC]
  all_goals (try (repeat' apply And.intro))
  all_goals (try rfl)
 refine sW ?_
 refine C2.lendD [12288,12292,12296] (fun _=>hS) (fun _=>?_) (by rfl) (by rfl) ?_
 ·simp [ptw,ltAD,ltD,TL.get,T.cells,imT,imL,awB]
  all_goals (try (repeat' apply And.intro))
  all_goals (try rfl)
 refine sW ?_
 refine C2.lendD [24632] (fun _=>hI1) (fun _=>?_) (by rfl) (by rfl) ?_
 ·simp [ptw,ltAD,ltD,TL.get,T.cells,imT,imL]
  all_goals (try (repeat' apply And.intro))
  all_goals (try rfl)
 refine sW ?_
 refine C2.im (fun _=>hK) (fun _=>rfl) (by rfl) ?_
 refine sW ?_
 refine C2.lendD [24656] (fun _=>hI2) (fun _=>?_) (by rfl) (by rfl) ?_
 ·simp [ptw,ltAD,ltD,TL.get,T.cells,imT,imL]
  all_goals (try (repeat' apply And.intro))
  all_goals (try rfl)
 refine sW ?_
 refine C2.lendD [24676] (fun _=>hT) (fun _=>?_) (by rfl) (by rfl) ?_
 ·simp [ptw,ltAD,ltD,TL.get,T.cells,imT,imL]
  all_goals (try (repeat' apply And.intro))
  all_goals (try rfl)
 refine sW ?_
 refine C2.lendD [24696] (fun _=>hU) (fun _=>?_) (by rfl) (by rfl) ?_
 ·simp [ptw,ltAD,ltD,TL.get,T.cells,imT,imL]
  all_goals (try (repeat' apply And.intro))
  all_goals (try rfl)
 refine sW ?_
 exact .oA [] []
end Go.Proofs
namespace Go.Proofs
open Go Go.TL
theorem zt (l:List UInt8) (at_:Nat) (lo hi:Int) (hl:l.length≤400) (ha:at_≤l.length) (hlo : -1000000≤lo∧lo≤1000000) (hhi:lo≤hi∧hi≤lo + 100000) :
 Spc Tryz.prog qz [.ptr 0 1 0 0,vI lo,vI hi] [(0,oC l at_)] (vI (lo + (nx l at_ (hi - lo + 1)).1)) [(0,oC l (nx l at_ (hi - lo + 1)).2)]:=by
 refine qe qa3 mixm (by simp) fun e _ hst=>qh ?_
 unfold kS
 have hw1:IntKind.i64.wrap (hi - lo) = hi - lo:=IntWalk.i64_in _ (by omega)
 have hw2:IntKind.i64.wrap (hi - lo + 1) = hi - lo + 1:=IntWalk.i64_in _ (by omega)
 simp only [tZ,↓un_u,simprocAttr,hw1,hw2]
 refine C1.draw 0 l at_ _ (zB l at_ (hi - lo + 1) hl ha (by omega)) rfl rfl rfl ?_
 have hr:=kJ l at_ (hi - lo + 1) (by omega)
 have hw3:IntKind.i64.wrap (lo + (nx l at_ (hi - lo + 1)).1) = lo + (nx l at_ (hi - lo + 1)).1:=IntWalk.i64_in _ (by omega)
 simp only [tZ,↓un_u,simprocAttr,hw3]
 refine .of [(0,some 0)] [] rfl rfl ?_ ?_
 ·simp only [tL,simprocAttr]
  exact qJ ⟨rfl,rfl,rfl,rfl,trivial⟩ qZ
 ·simp only [tL,simprocAttr]
end Go.Proofs
namespace Go.Proofs
open Go Go.TL
set_option maxRecDepth 4000
set_option maxHeartbeats 4000000
def d36:ByteArray:=⟨#[48,49,50,51,52,53,54,55,56,57,97,98,99,100,101,102,103,104,105,106,107,108,109,110,111,112,113,114,115,116,117,118,119,120,121,122]⟩
theorem qN5 {a b:ByteArray} (h:a.data.toList = b.data.toList):a = b:=by
 cases a;cases b
 exact congrArg ByteArray.mk (Array.ext' h)
def dgS (n:Nat):ByteArray:=⟨#[dgt n]⟩
theorem jy2 (n:Nat) (h:n < 10):d36.extract n (n + 1) = dgS n:=by
 have:((List.range 10).all fun n=>(d36.extract n (n + 1)).data.toList == (dgS n).data.toList) = true:=by decide +kernel
 exact qN5 (eq_of_beq (List.all_eq_true.1 this n (List.mem_range.2 h)))
theorem qi9 (c:UInt8) (n:Nat):(⟨#[c]⟩:ByteArray) ++ dgS n = ⟨#[c,dgt n]⟩:=by
 apply qN5
 rw [ByteArray.toList_data_append]
 rfl
theorem jt0 (n:Nat) (h:n < 10):Spc Tryz.prog jh [vI n] [] (vS (dgS n)) []:=by
 have h1:=qg (i:=n) (by omega)
 have z1:d36.size = 36:=rfl
 refine qe Js mixm (by simp) fun e _ hst=>qh ?_
 unfold zZ
 simp only [tZ,↓un_u,simprocAttr,tD,h1,Int.toNat_natCast]
 refine ⟨fun h2=>?_,fun h2=>by omega⟩
 refine ⟨?_,?_⟩
 ·show (0≤(n:Int)∧(n:Int)≤((n + 1:Nat):Int)∧((n + 1:Nat):Int)≤(d36.size:Int))
  omega
 ·show yb [] (vS (d36.extract n (n + 1))) [] (vS (dgS n)) []
  rw [jy2 n (by omega)]
  exact .oA [] []
theorem qj0 (n:Nat) (h:n < 10):Spc Tryz.prog zV [vI n] [] (vS (dgS n)) []:=by
 have h1:Spc Tryz.prog zx [vI n,vI 10] [] (vS (dgS n)) []:=by
  have e1:decide (0≤(n:Int)) = true:=decide_eq_true (by omega)
  have e2:decide ((n:Int) < 100) = true:=decide_eq_true (by omega)
  refine qe yS mixm (by simp) fun e _ hst=>qh ?_
  unfold zu
  simp only [tZ,↓un_u,simprocAttr,beq_self_eq_true,e1,e2,Bool.true_and]
  refine C1.im (jt0 n h) (by rfl) (by rfl) ?_
  refine sW ?_
  exact .oA [] []
 have h2:Spc Tryz.prog jp [vI n] [] (vS (dgS n)) []:=by
  refine qe JJ mixm (by simp) fun e _ hst=>qh ?_
  unfold jj
  refine sW ?_
  refine C1.im h1 (by rfl) (by rfl) ?_
  refine sW ?_
  exact .oA [] []
 refine qe qw4 mixm (by simp) fun e _ hst=>qh ?_
 unfold QZ
 refine sW ?_
 refine C1.im h2 (by rfl) (by rfl) ?_
 refine sW ?_
 exact .oA [] []
def oneB (l:List UInt8) (a:Nat) (n:Int):Bool:=(nx l a n).1 == n - 1
theorem kL (l:List UInt8) (a:Nat) (n:Int) (hl:l.length≤400) (ha:a≤l.length) (hn:0≤n∧n≤1000000):Spc Tryz.prog qG [.ptr 0 1 0 0,vI n] [(0,oC l a)] (vB (oneB l a n)) [(0,oC l (nx l a n).2)]:=by
 have hw:IntKind.i64.wrap (n - 1) = n - 1:=IntWalk.i64_in _ (by omega)
 refine qe ql5 mixm (by simp) fun e _ hst=>qh ?_
 unfold yk
 refine sW ?_
 refine C1.draw 0 l a _ (zB l a n hl ha hn.2) rfl rfl rfl ?_
 simp only [tZ,↓un_u,simprocAttr,hw]
 rw [show ((nx l a n).1 == n - 1) = oneB l a n from rfl]
 exact .oA [(0,some 0)] []
theorem jY (l:List UInt8) (a:Nat) (n:Int) (hl:l.length≤400) (ha:a≤l.length) (hn:1≤n∧n≤1000000) :
 ∃ v b,0≤v∧v < n∧b≤l.length∧Spc Tryz.prog qo [.ptr 0 1 0 0,vI n] [(0,oC l a)] (vI v) [(0,oC l b)]:=
 ⟨_,_,(kJ l a n hn.1).1,(kJ l a n hn.1).2,qe4 l a n ha,zB l a n hl ha hn.2⟩
theorem Qb (l:List UInt8) (a:Nat) (lo hi:Int) (hl:l.length≤400) (ha:a≤l.length) (hlo : -1000000≤lo∧lo≤1000000) (hhi:lo≤hi∧hi≤lo + 100000) :
 ∃ v b,lo≤v∧v≤hi∧b≤l.length∧Spc Tryz.prog qz [.ptr 0 1 0 0,vI lo,vI hi] [(0,oC l a)] (vI v) [(0,oC l b)]:=by
 have r:=kJ l a (hi - lo + 1) (by omega)
 exact ⟨_,_,by omega,by omega,qe4 l a (hi - lo + 1) ha,zt l a lo hi hl ha hlo hhi⟩
theorem zF6 (l:List UInt8) (a:Nat) (n:Int) (hl:l.length≤400) (ha:a≤l.length) (hn:0≤n∧n≤1000000) :
 ∃ o b,b≤l.length∧Spc Tryz.prog qG [.ptr 0 1 0 0,vI n] [(0,oC l a)] (vB o) [(0,oC l b)]:=
 ⟨_,_,qe4 l a n ha,kL l a n hl ha hn⟩
theorem jt1 (m:Nat) (h:m < 4):wTab.getD m []∈wTab:=by rw [qj (by exact h)];exact List.getElem_mem _
theorem Qg (n:Nat) (l:List UInt8) (a:Nat) (hl:l.length≤400) (ha:a≤l.length) :
 ∃ r:Col×Nat,(DrM n r.1∧r.2≤l.length)∧Spc Tryz.prog ky [.ptr 0 1 0 0,vS ⟨#[109,dgt n]⟩] [(0,oC l a)] (colT r.1) [(0,oC l r.2)]:=by
 have h1:=zt l a (-4) 2 hl ha (by omega) (by omega)
 have r1:=kJ l a (2 - -4 + 1) (by omega)
 have b1:=qe4 l a (2 - -4 + 1) ha
 generalize nx l a (2 - -4 + 1) = x1 at h1 r1 b1
 have h2:=zB l x1.2 4 hl b1 (by omega)
 have r2:=kJ l x1.2 4 (by omega)
 have b2:=qe4 l x1.2 4 b1
 generalize nx l x1.2 4 = x2 at h2 r2 b2
 have h3:=kL l x2.2 3 hl b2 (by omega)
 have b3:=qe4 l x2.2 3 b2
 generalize (nx l x2.2 3).2 = a3 at h3 b3
 generalize oneB l x2.2 3 = o at h3
 have h4:=zB l a3 45 hl b3 (by omega)
 have r4:=kJ l a3 45 (by omega)
 have b4:=qe4 l a3 45 b3
 generalize nx l a3 45 = x4 at h4 r4 b4
 refine ⟨(⟨⟨#[109,dgt n]⟩,3,0,-4 + x1.1,-4 + x1.1 + x4.1,wTab.getD x2.1.toNat [],o⟩,x4.2),⟨⟨rfl,rfl,rfl,by dsimp only;omega,by dsimp only;omega,jt1 _ (by omega)⟩,b4⟩,?_⟩
 obtain ⟨m,hm⟩:=Int.eq_ofNat_of_zero_le r2.1
 have hw:IntKind.i64.wrap (-4 + x1.1 + x4.1) = -4 + x1.1 + x4.1:=IntWalk.i64_in _ (by omega)
 refine qe WI mixm (by simp) fun e _ hst=>qh ?_
 unfold jT
 refine sW ?_
 refine C1.draw 0 l a _ h1 rfl rfl rfl ?_
 refine sW ?_
 refine C1.draw 0 l x1.2 _ h2 rfl rfl rfl ?_
 rw [hm] at r2 ⊢
 rw [Int.toNat_natCast]
 have hm4:m = 0∨m = 1∨m = 2∨m = 3:=by omega
 have k0:wTab.getD 0 [] = [1]:=rfl
 have k1:wTab.getD 1 [] = [1,5]:=rfl
 have k2:wTab.getD 2 [] = [1,5,20]:=rfl
 have k3:wTab.getD 3 [] = [1,2,4,12]:=rfl
 rcases hm4 with e | e | e | e
 all_goals (
  subst e
  simp only [tZ,↓un_u,simprocAttr,Int.toNat_natCast,k0,k1,k2,k3]
  repeat (refine ⟨by omega,?_⟩)
  refine C1.draw 0 l x2.2 _ h3 rfl rfl rfl ?_
  refine sW ?_
  refine ⟨by kernel_rfl,?_⟩
  refine C1.draw 0 l a3 _ h4 rfl rfl rfl ?_
  simp only [tZ,↓un_u,simprocAttr,hw]
  refine ⟨by kernel_rfl,?_⟩
  )
 ·exact .oA [(0,some 0)] [8204]
 ·exact .oA [(0,some 0)] [8208]
 ·exact .oA [(0,some 0)] [8212]
 ·exact .oA [(0,some 0)] [8216]
def addN (i:Nat):Nat→List Cod→List Cod
 | 0,cs=>cs
 | k + 1,cs=>addN i k (addL cs i)
theorem qB1 (i:Nat):∀ (k:Nat) (cs:List Cod),(List.range k).foldl (fun cs _=>addL cs i) cs = addN i k cs:=by
 have key:∀ (m:List Nat) (cs:List Cod),m.foldl (fun cs _=>addL cs i) cs = addN i m.length cs:=by
  intro m
  induction m with
  | nil=>intro cs;rfl
  | cons x m ih=>intro cs;rw [List.foldl_cons,ih];rfl
 intro k cs
 rw [key,List.length_range]
theorem zk0:∀ (ns:List Nat) (cs:List Cod) (i n:Nat),lefL cs i (ns ++ [n]) = addN (i + ns.length) n (lefL cs i ns)
 | [],cs,i,n=>by rw [List.nil_append,lefL,lefL,qB1];rfl
 | x :: r,cs,i,n=>by rw [List.cons_append,lefL,lefL,zk0 r _ (i + 1) n,List.length_cons,show i + 1 + r.length = i + (r.length + 1) by omega]
theorem zA9 (i:Nat):∀ (k:Nat) (cs:List Cod),(addN i k cs).length = cs.length + k
 | 0,cs=>rfl
 | k + 1,cs=>by rw [addN,zA9 i k,addL,List.length_append];simp;omega
theorem zB0:∀ (ns:List Nat) (cs:List Cod) (i:Nat),(∀ x∈ns,x = 1∨x = 2)→cs.length + ns.length≤(lefL cs i ns).length∧(lefL cs i ns).length≤cs.length + 2 * ns.length
 | [],cs,i,_=>by rw [lefL];simp
 | x :: r,cs,i,h=>by
   have h1:=zB0 r ((List.range x).foldl (fun cs _=>addL cs i) cs) (i + 1) fun y hy=>h y (List.mem_cons_of_mem _ hy)
   rw [qB1,zA9] at h1
   rw [lefL,qB1,List.length_cons]
   have:=h x (by simp)
   omega
theorem JR (nm:ByteArray) (hnm:nm = zg7∨nm = zg8) (l:List UInt8) (a:Nat) (hl:l.length≤400) (ha:a≤l.length) :
 ∃ r:CodL×Nat,(DrL nm r.1∧r.2≤l.length)∧Spc Tryz.prog kf [.ptr 0 1 0 0,vS nm] [(0,oC l a)] (cdlT r.1) [(0,oC l r.2)]:=by
 have h1:=zt l a 1 3 hl ha (by omega) (by omega)
 have r1:=kJ l a (3 - 1 + 1) (by omega)
 have b1:=qe4 l a (3 - 1 + 1) ha
 generalize nx l a (3 - 1 + 1) = x1 at h1 r1 b1
 obtain ⟨K,hK⟩:=Int.eq_ofNat_of_zero_le (show 0≤1 + x1.1 by omega)
 rw [hK] at h1
 have hK3:1≤K∧K≤3:=by omega
 refine zg qg3 mixm (fun r:CodL×Nat=>cdlT r.1) (fun r=>[(0,oC l r.2)]) (by simp) ?_
 unfold wN
 refine sW ?_
 refine XE.mp (fun _ _=>C1.draw 0 l a _ h1 rfl rfl rfl) ?_
 refine sW ?_
 have hk0:(Wa 0).map codT = [.agg [vS ⟨#[116,111,112]⟩,vI (-1)]]:=rfl
 have hkl:∀ i,(Wa i).length = i + 1:=fun i=>by simp [Wa]
 have hks:∀ i,Wa (i + 1) = Wa i ++ [kidC i]:=fun i=>by rw [Wa,List.range_succ,List.map_append];rfl
 refine XE.loopF mixm [7] (fun i:Nat=>i≤K) (fun i=>[(7,vI i)]) (fun i=>[(0,oC l x1.2),(4096,.arr 2 [cdlT default] false),(8200,.arr 2 ((Wa i).map codT) false),(8208,.arr 2 [.agg [vS nm,.asl 8200 (i + 1)]] false)]) (fun i=>K - i) 0 (by omega) (fun e ⟨_,hst⟩=>?_) fun T' i hi ih=>?_
 ·simp only [hk0]
  exact .oA [(0,some 0),(4096,some 4096),(8200,some 8200),(8208,some 8208)] []
 simp only [tZ,↓un_u,simprocAttr,decide_eq_true_eq,decide_eq_false_iff_not]
 refine XE.brN (fun h=>?_) (fun h=>?_)
 ·have hwi:=qg (i:=i) (by omega)
  refine XE.mp (fun _ _=>C1.im (qj0 i (by omega)) (by rfl) (by rfl)) ?_
  simp only [tZ,↓un_u,simprocAttr,hwi]
  refine XE.sd (show 1 + 1≤9223372036854775807 by omega) (XE.sd ⟨hkl i,by omega⟩ (XE.sd (hkl i) (XE.sd (by kernel_rfl) ?_)))
  refine XE.next ih (i + 1) (by omega) (by omega) fun e ⟨_,hst⟩=>?_
  rw [qi9,hks]
  exact .oA [(0,some 0),(4096,some 4096),(8200,some 8200),(8208,some 8208)] []
 ·have hiK:i = K:=by omega
  subst hiK
  have h2:=kL l x1.2 2 hl b1 (by omega)
  have b2:=qe4 l x1.2 2 b1
  generalize (nx l x1.2 2).2 = a2 at h2 b2
  generalize oneB l x1.2 2 = o at h2
  refine XE.mp (fun _ _=>C1.draw 0 l x1.2 _ h2 rfl rfl rfl) ?_
  refine sW ?_
  refine XE.brB (fun h3=>?_) (fun h3=>?_)
  ·refine XE.fin (⟨nm,Wa i⟩,a2) ⟨⟨rfl,(zV3 hnm hK3).1,by rw [hkl];omega⟩,b2⟩ fun e ⟨_,hst⟩=>?_
   have hkli:=hkl i
   refine ⟨hkl i,?_⟩
   exact .oA [(0,some 0)] [8200]
  ·refine XE.loopF mixm [8] (fun y:List Nat×Nat=>y.1.length≤i∧(∀ x∈y.1,x = 1∨x = 2)∧y.2≤l.length) (fun y=>[(8,vI y.1.length)]) (fun y=>[(0,oC l y.2),(4096,.arr 2 [cdlT default] false),(8200,.arr 2 ((lefL (Wa i) 0 y.1).map codT) false),(8208,.arr 2 [.agg [vS nm,.asl 8200 (lefL (Wa i) 0 y.1).length]] false)]) (fun y=>i - y.1.length) ([],a2) ⟨by simp,by simp,b2⟩ (fun e ⟨_,hst⟩=>?_) fun T2 y hy ih2=>?_
   ·have hkli:=hkl i
    simp only [lefL]
    refine .of [(0,some 0),(4096,some 4096),(8200,some 8200),(8208,some 8208)] [] rfl (by first | rfl | (rw [hst];rfl)) ?_ ?_
    all_goals (try simp only [tL,simprocAttr,List.map_append,List.map_cons,List.map_nil,List.cons_append,List.nil_append,hkl])
    all_goals (try (repeat' (first | exact qZ | (apply zN;intro _;exact ⟨rfl,rfl⟩) | (apply qA;intro _;exact ⟨rfl,rfl⟩) | with_reducible apply za | with_reducible refine zo ⟨rfl,rfl⟩ ?_ | exact zO | with_reducible apply qV | with_reducible refine qJ ⟨rfl,rfl,?_⟩ ?_ | with_reducible apply And.intro | exact qW rfl | exact qW (by assumption) | (refine ⟨⟨?_,rfl,?_,rfl,?_⟩,trivial⟩ <;> first | (simp;done) | (apply qA;intro _;exact ⟨rfl,rfl⟩)) | trivial | rfl | (rw [qg (by omega)]) | omega)))
   obtain ⟨ns,a3⟩:=y
   obtain ⟨y1,y2,y3⟩:=hy
   dsimp only at y1 y2 y3
   have hll:=zB0 ns (Wa i) 0 y2
   rw [hkl] at hll
   simp only [tZ,↓un_u,simprocAttr,decide_eq_true_eq,decide_eq_false_iff_not]
   refine XE.brN (fun h4=>?_) (fun h4=>?_)
   ·have h5:=zt l a3 1 2 hl y3 (by omega) (by omega)
    have r5:=kJ l a3 (2 - 1 + 1) (by omega)
    have b5:=qe4 l a3 (2 - 1 + 1) y3
    generalize nx l a3 (2 - 1 + 1) = x5 at h5 r5 b5
    obtain ⟨M,hM⟩:=Int.eq_ofNat_of_zero_le (show 0≤1 + x5.1 by omega)
    rw [hM] at h5
    have hsn:=zk0 ns (Wa i) 0 M
    rw [Nat.zero_add] at hsn
    refine XE.mp (fun _ _=>C1.draw 0 l a3 _ h5 rfl rfl rfl) ?_
    refine sW ?_
    generalize lefL (Wa i) 0 ns = cs at hll hsn ⊢
    refine XE.loopF mixm [9] (fun z:Nat×List Cod=>addN ns.length z.1 z.2 = addN ns.length M cs∧z.2.length + z.1 = cs.length + M) (fun z=>[(9,vI z.1)]) (fun z=>[(0,oC l x5.2),(4096,.arr 2 [cdlT default] false),(8200,.arr 2 (z.2.map codT) false),(8208,.arr 2 [.agg [vS nm,.asl 8200 z.2.length]] false)]) (fun z=>z.1) (M,cs) ⟨rfl,rfl⟩ (fun e ⟨_,hst⟩=>?_) fun T3 z hz ih3=>?_
    ·exact .oA [(0,some 0),(4096,some 4096),(8200,some 8200),(8208,some 8208)] []
    obtain ⟨k,ds⟩:=z
    obtain ⟨z1,z2⟩:=hz
    dsimp only at z1 z2
    simp only [tZ,↓un_u,simprocAttr,decide_eq_true_eq,decide_eq_false_iff_not]
    refine XE.brN (fun h6=>?_) (fun h6=>?_)
    ·have hwn:=qg (i:=ns.length) (by omega)
     have hwk:=zk (i:=k) (by omega) (by omega)
     have hw1:IntKind.i64.wrap (1 + (ns.length:Int)) = 1 + (ns.length:Int):=IntWalk.i64_in _ (by omega)
     refine XE.mp (fun _ _=>C1.im (qj0 ds.length (by omega)) (by rfl) (by rfl)) ?_
     simp only [tZ,↓un_u,simprocAttr,hwk,hw1]
     refine XE.sd (show 1 + 1≤9223372036854775807 by omega) (XE.sd (by omega) (XE.sd (by kernel_rfl) ?_))
     refine XE.next ih3 (k - 1,addL ds ns.length) ⟨?_,by dsimp only;rw [addL,List.length_append];simp;omega⟩ (by dsimp only;omega) fun e ⟨_,hst⟩=>?_
     ·dsimp only
      rw [← z1]
      obtain ⟨j,rfl⟩:∃ j,k = j + 1:=⟨k - 1,by omega⟩
      rfl
     ·rw [qi9]
      have e1:addL ds ns.length = ds ++ [⟨⟨#[108,dgt ds.length]⟩,1 + (ns.length:Int)⟩]:=rfl
      rw [e1]
      exact .oA [(0,some 0),(4096,some 4096),(8200,some 8200),(8208,some 8208)] []
    ·have hk0:k = 0:=by omega
     subst hk0
     have hwn:=qg (i:=ns.length) (by omega)
     rw [addN,← hsn] at z1
     simp only [tZ,↓un_u,simprocAttr,hwn]
     refine XE.next ih2 (ns ++ [M],x5.2) ⟨by simp;omega,fun x hx=>?_,b5⟩ (by simp;omega) fun e ⟨_,hst⟩=>?_
     ·rcases List.mem_append.1 hx with hx | hx
      ·exact y2 x hx
      ·rw [List.mem_singleton.1 hx];omega
     ·simp only [z1,List.length_append,List.length_cons,List.length_nil]
      rw [← z1]
      exact .oA [(0,some 0),(4096,some 4096),(8200,some 8200),(8208,some 8208)] []
   ·have hni:ns.length = i:=by omega
    have hok:=(zV3 hnm hK3).2 ns hni y2
    refine XE.fin (⟨nm,lefL (Wa i) 0 ns⟩,a3) ⟨⟨rfl,hok,by dsimp only;omega⟩,y3⟩ fun e ⟨_,hst⟩=>?_
    exact .oA [(0,some 0)] [8200]
end Go.Proofs
namespace Go.Proofs
open Go Go.TL
set_option maxRecDepth 4000
set_option maxHeartbeats 4000000
theorem qc4 (l:List UInt8) (a:Nat) (hl:l.length≤400) (ha:a≤l.length) :
 ∃ r:Sch×Nat,(DrS r.1∧r.2≤l.length)∧Spc Tryz.prog kP [.ptr 0 1 0 0] [(0,oC l a)] (schT r.1) [(0,oC l r.2)]:=by
 obtain ⟨⟨A,a1⟩,⟨dA,ha1⟩,sA⟩:=JR zg7 (.inl rfl) l a hl ha
 obtain ⟨⟨B,a2⟩,⟨dB,ha2⟩,sB⟩:=JR zg8 (.inr rfl) l a1 hl ha1
 dsimp only at dA ha1 sA dB ha2 sB
 have h1:=kL l a2 2 hl ha2 (by omega)
 have b1:=qe4 l a2 2 ha2
 generalize (nx l a2 2).2 = a3 at h1 b1
 generalize oneB l a2 2 = o at h1
 have h2:=zt l a3 1 3 hl b1 (by omega) (by omega)
 have r2:=kJ l a3 (3 - 1 + 1) (by omega)
 have b2:=qe4 l a3 (3 - 1 + 1) b1
 generalize nx l a3 (3 - 1 + 1) = x2 at h2 r2 b2
 obtain ⟨N,hN⟩:=Int.eq_ofNat_of_zero_le (show 0≤1 + x2.1 by omega)
 rw [hN] at h2
 refine zg Yv mixm (fun r:Sch×Nat=>schT r.1) (fun r=>[(0,oC l r.2)]) (by simp) ?_
 unfold kE
 refine sW ?_
 refine XE.mp (fun _ _=>C1.draw 0 l a _ sA rfl rfl rfl) ?_
 refine sW ?_
 refine XE.mp (fun _ _=>C1.draw 0 l a1 _ sB rfl rfl rfl) ?_
 refine sW ?_
 refine XE.mp (fun _ _=>C1.draw 0 l a2 _ h1 rfl rfl rfl) ?_
 refine sW ?_
 refine XE.brB (fun ho=>?_) (fun ho=>?_)
 ·refine XE.mp (fun _ _=>C1.draw 0 l a3 _ h2 rfl rfl rfl) ?_
  refine sW ?_
  refine XE.loopF mixm [4,15] (fun y:List Col×Nat=>y.1.length≤N∧(∀ i (h:i < y.1.length),DrM (3 + i) y.1[i])∧y.2≤l.length) (fun y=>[(4,vI ((N - y.1.length:Nat):Int))]) (fun y=>[(0,oC l y.2),(4096,.arr 2 [schT default] false),(8208,.arr 2 [cdlT A,cdlT B] false),(8220,.arr 7 (([whoC,sexC,jobC] ++ y.1).map colT) false),(8228,.arr 2 [.agg [.asl 8208 2,.asl 8220 (3 + y.1.length)]] false)]) (fun y=>N - y.1.length) ([],x2.2) ⟨by simp,fun i h=>by simp at h,b2⟩ (fun e ⟨_,hst⟩=>?_) fun T' y hy ih=>?_
  ·show Le _ _ ⟨[(4,vI N),(0,_),(2,_),(3,_)],[(0,oC l x2.2),(4096,.arr 2 [schT default] false),(8208,.arr 2 [cdlT A,cdlT B] false),(8220,.arr 7 [colT whoC,colT sexC,colT jobC] false),(8228,.arr 2 [.agg [.asl 8208 2,.asl 8220 3]] false)]⟩
   exact .oA [(0,some 0),(4096,some 4096),(8208,some 8208),(8220,some 8220),(8228,some 8228)] []
  obtain ⟨ms,a4⟩:=y
  obtain ⟨y1,y2,y3⟩:=hy
  dsimp only at y1 y2 y3
  simp only [tZ,↓un_u,simprocAttr,decide_eq_true_eq,decide_eq_false_iff_not]
  refine XE.brN (fun h4=>?_) (fun h4=>?_)
  ·have hlt:ms.length < N:=by omega
   have hI:=qj0 (3 + ms.length) (by omega)
   obtain ⟨⟨M,a5⟩,⟨dM,ha5⟩,sM⟩:=Qg (3 + ms.length) l a4 hl y3
   dsimp only at dM ha5 sM
   have hwk:=zk (i:=N - ms.length) (by omega) (by omega)
   refine XE.sd (by omega) ?_
   refine XE.mp (fun _ _=>C1.im hI (by rfl) (by rfl)) ?_
   simp only [tZ,↓un_u,simprocAttr,qi9]
   refine XE.sd (show 1 + 1≤9223372036854775807 by omega) ?_
   refine XE.mp (fun _ _=>C1.draw 0 l a4 _ sM rfl rfl rfl) ?_
   simp only [tZ,↓un_u,simprocAttr,hwk]
   refine XE.sd (by omega) (XE.sd (by omega) (XE.sd (by kernel_rfl) ?_))
   refine XE.next ih (ms ++ [M],a5) ⟨by simp;omega,fun i h=>?_,ha5⟩ (by simp;omega) fun e ⟨_,hst⟩=>?_
   ·dsimp only at h ⊢
    by_cases hi:i < ms.length
    ·rw [List.getElem_append_left hi]
     exact y2 i hi
    ·have he:i = ms.length:=by rw [List.length_append] at h;simp at h;omega
     subst he
     rw [List.getElem_append_right (Nat.le_refl _)]
     simpa using dM
   ·have e1:N - (ms ++ [M]).length = N - ms.length - 1:=by rw [List.length_append];simp;omega
    simp only [e1]
    exact .oA [(0,some 0),(4096,some 4096),(8208,some 8208),(8220,some 8220),(8228,some 8228)] []
  ·have hnl:ms.length = N:=by omega
   refine XE.fin (⟨[A,B],[whoC,sexC,jobC] ++ ms⟩,a4) ⟨⟨⟨A,B,rfl,dA,dB⟩,⟨ms,.inr ⟨rfl,y2⟩,by omega,by omega⟩⟩,y3⟩ fun e ⟨_,hst⟩=>?_
   refine ⟨by omega,?_⟩
   exact .oA [(0,some 0)] [8208,8220]
 ·refine XE.mp (fun _ _=>C1.draw 0 l a3 _ h2 rfl rfl rfl) ?_
  refine sW ?_
  refine XE.loopF mixm [4,15] (fun y:List Col×Nat=>y.1.length≤N∧(∀ i (h:i < y.1.length),DrM (2 + i) y.1[i])∧y.2≤l.length) (fun y=>[(4,vI ((N - y.1.length:Nat):Int))]) (fun y=>[(0,oC l y.2),(4096,.arr 2 [schT default] false),(8208,.arr 2 [cdlT A,cdlT B] false),(8220,.arr 7 (([whoC,sexC] ++ y.1).map colT) false),(8228,.arr 2 [.agg [.asl 8208 2,.asl 8220 (2 + y.1.length)]] false)]) (fun y=>N - y.1.length) ([],x2.2) ⟨by simp,fun i h=>by simp at h,b2⟩ (fun e ⟨_,hst⟩=>?_) fun T' y hy ih=>?_
  ·show Le _ _ ⟨[(4,vI N),(0,_),(2,_),(3,_)],[(0,oC l x2.2),(4096,.arr 2 [schT default] false),(8208,.arr 2 [cdlT A,cdlT B] false),(8220,.arr 7 [colT whoC,colT sexC] false),(8228,.arr 2 [.agg [.asl 8208 2,.asl 8220 2]] false)]⟩
   exact .oA [(0,some 0),(4096,some 4096),(8208,some 8208),(8220,some 8220),(8228,some 8228)] []
  obtain ⟨ms,a4⟩:=y
  obtain ⟨y1,y2,y3⟩:=hy
  dsimp only at y1 y2 y3
  simp only [tZ,↓un_u,simprocAttr,decide_eq_true_eq,decide_eq_false_iff_not]
  refine XE.brN (fun h4=>?_) (fun h4=>?_)
  ·have hlt:ms.length < N:=by omega
   have hI:=qj0 (2 + ms.length) (by omega)
   obtain ⟨⟨M,a5⟩,⟨dM,ha5⟩,sM⟩:=Qg (2 + ms.length) l a4 hl y3
   dsimp only at dM ha5 sM
   have hwk:=zk (i:=N - ms.length) (by omega) (by omega)
   refine XE.sd (by omega) ?_
   refine XE.mp (fun _ _=>C1.im hI (by rfl) (by rfl)) ?_
   simp only [tZ,↓un_u,simprocAttr,qi9]
   refine XE.sd (show 1 + 1≤9223372036854775807 by omega) ?_
   refine XE.mp (fun _ _=>C1.draw 0 l a4 _ sM rfl rfl rfl) ?_
   simp only [tZ,↓un_u,simprocAttr,hwk]
   refine XE.sd (by omega) (XE.sd (by omega) (XE.sd (by kernel_rfl) ?_))
   refine XE.next ih (ms ++ [M],a5) ⟨by simp;omega,fun i h=>?_,ha5⟩ (by simp;omega) fun e ⟨_,hst⟩=>?_
   ·dsimp only at h ⊢
    by_cases hi:i < ms.length
    ·rw [List.getElem_append_left hi]
     exact y2 i hi
    ·have he:i = ms.length:=by rw [List.length_append] at h;simp at h;omega
     subst he
     rw [List.getElem_append_right (Nat.le_refl _)]
     simpa using dM
   ·have e1:N - (ms ++ [M]).length = N - ms.length - 1:=by rw [List.length_append];simp;omega
    simp only [e1]
    exact .oA [(0,some 0),(4096,some 4096),(8208,some 8208),(8220,some 8220),(8228,some 8228)] []
  ·have hnl:ms.length = N:=by omega
   refine XE.fin (⟨[A,B],[whoC,sexC] ++ ms⟩,a4) ⟨⟨⟨A,B,rfl,dA,dB⟩,⟨ms,.inl ⟨rfl,y2⟩,by omega,by omega⟩⟩,y3⟩ fun e ⟨_,hst⟩=>?_
   refine ⟨by omega,?_⟩
   exact .oA [(0,some 0)] [8208,8220]
end Go.Proofs
