/- A part of the proof: trees of Go values, short forms, contracts. -/
import Derived.WalkKit
import Derived.Still
import Derived.MapKept
import GoSem.Builtin.Cap
import Derived.Laws.Externs
import GoSem.Extern.SlicesOverlaps
import Derived.Carry
import Derived.ProofKit
import Derived.OpenShut
import Derived.HandedShaped
import Derived.Lay
import Derived.LaidLaws
import Derived.MakeChecks
import Derived.SevenTiedAt
import Derived.Test.YtpmgddadeedmbaaGreatDoorChecked
import Derived.Test.YtpmgddadeedmbaaGreatDoorK21
set_option linter.unusedSimpArgs false
set_option linter.unusedVariables false
namespace Go.Proofs
open Go Go.TL
set_option maxRecDepth 4000
set_option maxHeartbeats 8000000
theorem qd5 (l:List Pk) (p:Pk) (hl:l.length < 4611686018427387904):Spc Tryz.prog wt [vPs l,pkT p] [] (vI (idxI (fun y=>eqPk p y) l)) []:=by
 refine qd Yu mixm (by simp) fun e _ hst=>qk ?_
 unfold kU
 refine sW ?_
 refine qy mixm (α:=Nat) [8] (fun i=>i≤l.length∧((l.take i).any (fun y=>eqPk p y) = false)) (fun i=>[(8,vI i)]) (fun i=>[(4096,.arr 2 [pkT p] false)]) (fun i=>l.length - i) 0 ⟨by omega,?_⟩ ?_ fun i hi=>?_
 ·rfl
 ·exact .oA [(4096,some 4096)] []
 simp only [tZ,↓un_u,simprocAttr,decide_eq_true_eq,decide_eq_false_iff_not]
 refine ⟨fun h=>?_,fun h=>?_⟩
 ·have hi2:i < l.length:=by omega
  have hwi:=qj (i:=i) (by omega)
  simp only [tZ,↓un_u,simprocAttr,Int.toNat_natCast,qe hi2,hwi]
  refine ⟨by omega,?_⟩
  repeat (first | refine ⟨by omega,?_⟩ | refine ⟨by kernel_rfl,?_⟩)
  have e:(p.col == l[i].col && p.lev == l[i].lev) = eqPk p l[i]:=rfl
  rw [e]
  refine ⟨fun h3=>?_,fun h3=>⟨i + 1,⟨by omega,jD hi2 hi.2 h3⟩,by omega,?_⟩⟩
  ·rw [idxI,if_pos (qf1 hi2 h3),yH hi2 hi.2 h3]
   exact .oA [] []
  ·exact .oA [(4096,some 4096)] []
 ·have h2:i = l.length:=by omega
  have h3:=hi.2
  rw [h2,List.take_length] at h3
  rw [idxI,if_neg (by rw [h3];simp)]
  exact .oA [] []
theorem Wf (l:List Pk) (p:Pk) (hl:l.length < 4611686018427387904):Spc Tryz.prog jU [vPs l,pkT p] [] (vB (l.any fun y=>eqPk p y)) []:=by
 refine qd Ki mixm (by simp) fun e _ hst=>qk ?_
 unfold jJ
 refine sW ?_
 refine C1.im (qd5 l p hl) (by rfl) (by rfl) ?_
 refine sW ?_
 rw [show decide (idxI (fun y=>eqPk p y) l≥0) = l.any (fun y=>eqPk p y) from qa1 _ l]
 exact .oA [] []
theorem zN1 (x y:Pk):eqPk x y = eqPk y x:=by
 rw [Bool.eq_iff_iff,qu4,qu4];exact ⟨fun h=>h.symm,fun h=>h.symm⟩
theorem zf9 {α:Type} {p:α→Bool} {l:List α} (h:l.any p = true):∃ (i:Nat) (hi:i < l.length),idxI p l = i∧p l[i] = true:=by
 obtain ⟨x,hx,hp⟩:=List.any_eq_true.1 h
 have hlt:=List.findIdx_lt_length_of_exists ⟨x,hx,hp⟩
 exact ⟨l.findIdx p,hlt,by rw [idxI,if_pos h],List.findIdx_getElem⟩
abbrev witT (w:Int×Int×Int×Bool):T:=.tup [vI w.1,vI w.2.1,vI w.2.2.1,vB w.2.2.2]
theorem qk7 (s:Sch) (hs:Js s) (d:Dcl) (col:Int) (w:Int×Int×Int×Bool) (hW:WitR s d col w)
 (hM:∀ (q:Qst) (k:Nat) (lev a b:Int),QstOk s q→0 < k→k < s.cols.length→(qg s k).kind≠2→0≤lev→lev≤finI s k→zM7 s q k lev a b→Spc Tryz.prog wg [schT s,qstT q,vI k,vI lev] [] (.tup [vI a,vI b]) []):Spc Tryz.prog wS [schT s,dclT d,vI col] [] (witT w) []:=by
 have sP:=ZR s hs d
 have hpl:=qC4 s d
 have sI:=yA (fun p=>p.col == col) jm [.ip [vI col]] rfl (jl s d) (fun p _=>YJ p col) (by omega)
 have hge:=qa1 (fun p:Pk=>p.col == col) (jl s d)
 have hany:((jl s d).any fun p=>p.col == col) = true→dclE s d = 0→0 < mxl (jl s d) col:=fun h hd=>by
  obtain ⟨p,hp,e⟩:=List.any_eq_true.1 h
  rw [beq_iff_eq] at e
  have h1:=zq5 hp
  rw [Qh hd] at hp
  have:=(ZY hp).1
  rw [e] at h1;omega
 refine qd qa8 mixm (by simp) fun e _ hst=>qk ?_
 unfold wy
 refine sW ?_
 refine C1.im sP (by rfl) (by rfl) ?_
 refine sW ?_
 refine C1.lend [4104] sI ?_ (by rfl) (by rfl) ?_
 ·all_goals (try simp only [tL,simprocAttr,List.map_append,List.map_cons,List.map_nil,List.cons_append,List.nil_append])
  all_goals (try (repeat' (first | exact qY | (apply zy;intro _;exact ⟨rfl,rfl⟩) | (apply qA;intro _;exact ⟨rfl,rfl⟩) | with_reducible apply qR | with_reducible refine qG ⟨rfl,rfl⟩ ?_ | exact qV | with_reducible apply qM | with_reducible refine qO ⟨rfl,rfl,?_⟩ ?_ | with_reducible apply And.intro | exact qQ rfl | exact qQ (by assumption) | (refine ⟨⟨?_,rfl,?_,rfl,?_⟩,trivial⟩ <;> first | (simp;done) | (apply qA;intro _;exact ⟨rfl,rfl⟩)) | trivial | rfl | (rw [qj (by omega)]) | omega)))
  all_goals (simp only [ltP];exact ⟨rfl,by decide,rfl,qG ⟨rfl,rfl⟩ qV⟩)
 simp only [tZ,↓un_u,simprocAttr,tD,bne_iff_ne,bne_eq_false_iff_eq]
 refine ⟨fun h=>?_,fun h=>?_⟩
 ·have hw:w = (0,0,0,false):=by
   rcases hW with ⟨_,hw⟩ | ⟨hd,k,n,a,b,e1,e2,e3,e4,_,_,_,_,_⟩
   ·exact hw
   ·exfalso
    rcases h with h | h
    ·exact h hd
    ·obtain ⟨p,hp,e⟩:=jm2 e4
     have:((jl s d).any fun p=>p.col == col) = true:=List.any_eq_true.2 ⟨p,hp,by rw [beq_iff_eq,e1];exact e⟩
     rw [this,decide_eq_true_eq] at hge
     omega
  rw [hw]
  exact .oA [] []
 obtain ⟨hd,hi0⟩:=h
 have hA:((jl s d).any fun p=>p.col == col) = true:=by rw [← hge,decide_eq_true_eq];omega
 rcases hW with ⟨hno,_⟩ | ⟨_,k,n,a,b,rfl,hk0,hk,hm,hn,hnq,hnm,hP,rfl⟩
 ·exact absurd ⟨hd,hany hA hd⟩ hno
 obtain ⟨i,hi,hidx,hic⟩:=zf9 hA
 rw [hidx]
 rw [beq_iff_eq] at hic
 obtain ⟨_,_,_,_,_,hq1,hq2,hqs⟩:=qo0 hd
 have hkey:∀ p∈jl s d,p.col = k→p.lev = mxl (jl s d) k:=fun p hp e=>by
  rw [zM8 hd hk]
  have h2:=hp
  rw [Qh hd] at h2
  have:=(ZY h2).2.1
  rw [e,Int.toNat_natCast] at this
  exact this
 have hlev:=hkey _ (List.getElem_mem hi) hic
 have hfin:mxl (jl s d) k≤finI s k:=by
  rw [← hnq,qD5 (hqs n hn) hk]
  have hqk:=WO (hqs n hn)
  exact zM4 (qo8 hqk.sch hk0 hk) fun p hp e=>by rw [← e];exact zb1 hqk p hp
 have hat:qg s k = s.cols[k]:=by rw [qg,qh hk]
 have hE:=(qo0 hd).1
 have hf59:=WN (c:=k) hE
 have hgi:((jl s d).map pkT).getD i .junk = pkT (jl s d)[i]:=qe hi
 have hpi:(jl s d)[i] = ⟨k,mxl (jl s d) k⟩:=by
  rw [← hlev]
  cases h:(jl s d)[i] with
  | mk c v=>rw [h] at hic;dsimp only at hic;rw [hic]
 rw [hpi] at hgi
 have hw1:IntKind.i64.wrap (mxl (jl s d) k - 1) = mxl (jl s d) k - 1:=IntWalk.i64_in _ (by omega)
 generalize hlp:mxl (jl s d) k = lev at hm hnq hnm hP hlev hfin hgi hw1
 generalize hLL:jl s d = L at hi hgi hlp hpl
 refine qy mixm (α:=Nat) [37] (fun j=>j≤n) (fun j=>[(37,vI j)]) (fun j=>[(4096,.arr 2 [schT s] false),(4104,.arr 1 [vI k] false)]) (fun j=>n - j) 0 (by omega) ?_ fun j hj=>?_
 ·exact .oA [(4096,some 4096),(4104,some 4104)] []
 refine sD ?_
 refine ⟨fun h3=>?_,fun h3=>by omega⟩
 have hj2:j < d.qs.length:=by omega
 have hwj:=qj (i:=j) (by omega)
 have hqj:qAt d.qs j = d.qs[j]:=by rw [qAt,qh hj2]
 have hqe:=hqs j hj2
 rw [hqj] at hqe
 have sN:=JU s hs d.qs[j]
 have hnl:=qC3 s d.qs[j]
 have sC:=Wf (wL s d.qs[j]) ⟨k,lev⟩ (by omega)
 have hhas:=zN0 hqe hk hm
 rw [show (fun p=>eqPk p (⟨k,lev⟩:Pk)) = fun p=>eqPk ⟨k,lev⟩ p from funext fun p=>zN1 _ _] at hhas
 simp only [tZ,↓un_u,simprocAttr,Int.toNat_natCast,qe hj2]
 refine ⟨by omega,?_⟩
 refine C1.im sN (by rfl) (by rfl) ?_
 simp only [tZ,↓un_u,simprocAttr,Int.toNat_natCast,hgi]
 refine ⟨by omega,?_⟩
 refine C1.im sC (by rfl) (by rfl) ?_
 simp only [tZ,↓un_u,simprocAttr,Bool.not_eq_true',Bool.not_eq_false',hwj]
 refine ⟨by kernel_rfl,fun h4=>?_,fun h4=>?_⟩
 ·have hne:j≠n:=fun e=>by
   subst e
   rw [hqj] at hnq
   rw [hhas.2 hnq] at h4
   cases h4
  refine ⟨j + 1,by omega,by omega,?_⟩
  exact .oA [(4096,some 4096),(4104,some 4104)] []
 have hjn:j = n:=by
  refine Classical.byContradiction fun hne=>hnm j (by omega) ?_
  rw [hqj]
  exact hhas.1 h4
 subst hjn
 rw [hqj] at hP
 have hqk:=WO hqe
 unfold zM7 at hP
 have hMM:=hM d.qs[j] k (lev - 1) a b hqk hk0 hk
 have hCC:=We s d.qs[j] hqk k hk hk0
 unfold zM7 at hMM
 rw [hat] at hP hMM hCC
 simp only [tZ,↓un_u,simprocAttr,Int.toNat_natCast,qe hk,beq_iff_eq,beq_eq_false_iff_ne]
 refine ⟨by omega,fun h5=>?_,fun h5=>?_⟩
 ·rw [if_pos h5] at hP
  simp only [tZ,↓un_u,simprocAttr,hw1,hgi]
  refine ⟨by omega,?_⟩
  refine C1.im (hCC h5 (lev - 1) a b hP) (by rfl) (by rfl) ?_
  refine sW ?_
  repeat (first | refine ⟨by omega,?_⟩ | refine ⟨by kernel_rfl,?_⟩)
  exact .oA [] []
 ·have hMM:=hMM h5 (by omega) (by omega) hP
  simp only [tZ,↓un_u,simprocAttr,hw1,hgi]
  refine ⟨by omega,?_⟩
  refine C1.im hMM (by rfl) (by rfl) ?_
  refine sW ?_
  repeat (first | refine ⟨by omega,?_⟩ | refine ⟨by kernel_rfl,?_⟩)
  exact .oA [] []
end Go.Proofs
namespace Go.Proofs
open Go Go.TL
set_option maxRecDepth 4000
set_option maxHeartbeats 8000000
def zV4:CodL:=⟨⟨#[108]⟩,[⟨⟨#[97]⟩,-1⟩,⟨⟨#[98]⟩,0⟩,⟨⟨#[99]⟩,0⟩]⟩
def YK:Sch:=⟨[zV4],[⟨⟨#[119,104,111]⟩,1,0,0,0,[],false⟩,⟨⟨#[115,101,120]⟩,2,0,0,0,[],false⟩]⟩
def zV5:Qst:=⟨⟨#[113]⟩,1,.mk 1 0 0 0 0 [],[⟨1,1⟩],-1,[],cnd0⟩
def qD6:Dcl:=⟨⟨#[112]⟩,⟨#[115]⟩,.mk 1 0 0 0 0 [],⟨1,1,0⟩,[zV5]⟩
theorem qP9:Js YK:=⟨by decide,by decide,by decide⟩
theorem jm3:WitR YK qD6 1 (1,2,0,true):=by
 have hE:schE YK = 0:=by kernel_rfl
 have hok:=qW hE
 have hlv:qJ YK 1 = [1,2]:=by kernel_rfl
 have h2:(qg YK 1).kind = 2:=rfl
 have hh:∀ v,kE YK 1 v = true→v = 1∨v = 2:=fun v hv=>by
  have:=(qD3 hok (i:=1) (by decide) h2).1 hv
  rw [hlv] at this
  simpa using this
 have hm:mxl (jl YK qD6) (1:Nat) = 1:=by kernel_rfl
 refine .inr ⟨by kernel_rfl,1,0,1,2,rfl,by decide,by decide,by rw [hm];decide,by decide,?_,fun m h=>by omega,?_,rfl⟩
 ·rw [hm];kernel_rfl
 ·rw [hm]
  unfold zM7
  rw [if_pos h2]
  refine ⟨by kernel_rfl,by kernel_rfl,by decide,⟨by kernel_rfl,by kernel_rfl⟩,fun x y hx hy hxy _=>?_⟩
  rcases hh x hx with e | e <;> rcases hh y hy with e2 | e2 <;> omega
theorem qQ0:Spc Tryz.prog Kc [] [] (vB true) []:=by
 have hP:=ZR YK qP9 qD6
 rw [show jl YK qD6 = [⟨1,1⟩] by kernel_rfl,show dclE YK qD6 = 0 by kernel_rfl] at hP
 have hW:=qk7 YK qP9 qD6 1 _ jm3 fun q k lev a b _ h1 h2 h3 _ _ _=>by
  have:k = 1:=by
   have:k < 2:=h2
   omega
  subst this
  exact absurd rfl h3
 have hS:=qo1 [⟨1,1⟩] [⟨1,1⟩] (by decide)
 rw [show qA8 [⟨1,1⟩] [⟨1,1⟩] = true by kernel_rfl] at hS
 have hC:=KK YK qP9 qD6 [] (by decide)
 rw [show qZ5 YK qD6 [] = 23 by kernel_rfl] at hC
 have hI:=jB [⟨1,1⟩] [⟨1,1⟩] (by decide) (by decide)
 rw [show covB [⟨1,1⟩] [⟨1,1⟩] = true by kernel_rfl] at hI
 refine qd qE4 mixm (by simp) fun e _ hst=>qk ?_
 unfold Jc
 refine sW ?_
 refine C1.shutD [8204,8212,8224,16400,16408] hP ?_ (by rfl) rfl ?_
 ·simp [ptw,ltAD,ltD,TL.get,T.cells,imT,imL,YK,zV5,zV4,qD6]
  all_goals (try (repeat' apply And.intro))
  all_goals (try rfl)
 refine sW ?_
 refine C1.lendD [8204,8212,8224,16400,16408] hW ?_ (by rfl) (by rfl) ?_
 ·simp [ptw,ltAD,ltD,TL.get,T.cells,imT,imL,YK,zV5,zV4,qD6]
  all_goals (try (repeat' apply And.intro))
  all_goals (try rfl)
 refine sW ?_
 refine C2.lendD [28692] (fun _=>hS) (fun _=>?_) (by rfl) (by rfl) ?_
 ·simp [ptw,ltAD,ltD,TL.get,T.cells,imT,imL]
  all_goals (try (repeat' apply And.intro))
  all_goals (try rfl)
 refine sW ?_
 refine C2.lendD [8204,8212,8224,16400,16408] (fun _=>hC) (fun _=>?_) (by rfl) (by rfl) ?_
 ·simp [ptw,ltAD,ltD,TL.get,T.cells,imT,imL,YK,zV5,zV4,qD6]
  all_goals (try (repeat' apply And.intro))
  all_goals (try rfl)
 refine sW ?_
 refine C2.im (fun _=>hI) (fun _=>rfl) (by rfl) ?_
 refine sW ?_
 exact .oA [] []
end Go.Proofs
namespace Go.Proofs
open Go Go.TL
set_option maxRecDepth 4000
set_option maxHeartbeats 8000000
theorem nm_p:∀ n:Nat,n < 10→jb ⟨#[112,dgt n]⟩ = true∧jb ⟨#[113,dgt n]⟩ = true:=by
 have:∀ n:Fin 10,jb ⟨#[112,dgt n.1]⟩ = true∧jb ⟨#[113,dgt n.1]⟩ = true:=by decide +kernel
 exact fun n h=>this ⟨n,h⟩
theorem jm4:∀ i j:Nat,i < 10→j < 10→i≠j→eqB ⟨#[113,dgt i]⟩ ⟨#[113,dgt j]⟩ = false:=by
 have:∀ i j:Fin 10,i.1≠j.1→eqB ⟨#[113,dgt i.1]⟩ ⟨#[113,dgt j.1]⟩ = false:=by decide +kernel
 exact fun i j hi hj h=>this ⟨i,hi⟩ ⟨j,hj⟩ h
def qt6:ByteArray:=⟨#[115,114,99]⟩
theorem jm5:jb qt6 = true:=by decide +kernel
abbrev dcl0:Dcl:=⟨⟨#[]⟩,⟨#[]⟩,cnd0,⟨0,0,0⟩,[]⟩
theorem jm6 {s:Sch} {P:Nat} {c:Cnd} {x:Smp} {qs:List Qst} {N:Nat} (hE:schE s = 0) (hP:P < 10) (hc:chkC s c = 0) (hx:smpE x = 0) (h1:1≤qs.length) (hN:qs.length = N) (hN3:N≤3) (hq:∀ i (h:i < qs.length),qstE s qs[i] = 0∧qs[i].name = ⟨#[113,dgt (N - i)]⟩) :
 dclE s ⟨⟨#[112,dgt P]⟩,qt6,c,x,qs⟩ = 0:=by
 rw [dclE,if_neg (by rw [hE];simp),if_neg (by rw [(nm_p P hP).1,jm5];simp),if_neg (by rw [hc];simp),if_neg (by rw [hx];simp),if_neg (by dsimp only;omega)]
 refine JM fun i hi=>?_
 have hi:i < qs.length:=hi
 have hpi:qAt qs i = qs[i]:=by rw [qAt,qh hi]
 obtain ⟨a,b⟩:=hq i hi
 rw [qsE,hpi,if_neg (by rw [a];simp),if_neg]
 intro k
 obtain ⟨x,hx,e⟩:=List.any_eq_true.1 k
 obtain ⟨j,hj,rfl⟩:=List.mem_take_iff_getElem.1 hx
 have hj2:j < i∧j < qs.length:=by have:j < min i qs.length:=hj;omega
 rw [b,(hq j (by omega)).2,jm4 (N - j) (N - i) (by omega) (by omega) (by omega)] at e
 cases e
structure DrD (s:Sch) (d:Dcl):Prop where
 len:d.qs.length≤3
 nm:∀ q∈d.qs,∃ n,n < 10∧q.name = ⟨#[113,dgt n]⟩
 coh:CndOk s 1 d.coh
theorem qQ1 {s:Sch} {P:Nat} {c:Cnd} {x:Smp} {qs:List Qst} {N:Nat} (hE:schE s = 0) (hP:P < 10) (hco:CndOk s 1 c) (hc:chkC s c = 0) (hx:smpE x = 0) (h1:1≤qs.length) (hN:qs.length = N) (hN3:N≤3) (hq:∀ i (h:i < qs.length),qstE s qs[i] = 0∧qs[i].name = ⟨#[113,dgt (N - i)]⟩) :
 dclE s ⟨⟨#[112,dgt P]⟩,qt6,c,x,qs⟩ = 0∧DrD s ⟨⟨#[112,dgt P]⟩,qt6,c,x,qs⟩:=
 ⟨jm6 hE hP hc hx h1 hN hN3 hq,by dsimp only;omega,fun q hq2=>by
   obtain ⟨i,hi,rfl⟩:=List.getElem_of_mem hq2
   exact ⟨N - i,by omega,(hq i hi).2⟩,hco⟩
theorem Jx (s:Sch) (hd:DrS s) (l:List UInt8) (a:Nat) (hl:l.length≤400) (ha:a≤l.length) :
 ∃ r:Dcl×Nat,((dclE s r.1 = 0∧DrD s r.1)∧r.2≤l.length)∧Spc Tryz.prog zd [.ptr 0 1 0 0,schT s] [(0,oC l a)] (dclT r.1) [(0,oC l r.2)]:=by
 have hE:=hd.ok
 have hok:=qW hE
 obtain ⟨p,a1,p1,p2,ha1,sP⟩:=yx l a 3 hl ha (by omega)
 obtain ⟨P,rfl⟩:=Int.eq_ofNat_of_zero_le p1
 have hIt:=qj3 P (by omega)
 obtain ⟨⟨c0,a2⟩,⟨hc0,ha2⟩,sC⟩:=Qf s hd l hl 1 a1 ha1 (by omega)
 dsimp only at hc0 ha2 sC
 have hcf0:=hc0.chk hE (by omega)
 have hca:chkC s (.mk 1 0 0 0 0 []) = 0:=(wG (s:=s) 1 (qC6 s) rfl).chk hE (by omega)
 obtain ⟨sd,a3,sd1,sd2,ha3,sS⟩:=yx l a2 999 hl ha2 (by omega)
 obtain ⟨o1,a4,ha4,sO⟩:=zT8 l a3 3 hl ha3 (by omega)
 obtain ⟨o2,a5,ha5,sO2⟩:=zT8 l a4 3 hl ha4 (by omega)
 obtain ⟨f,a6,f1,f2,ha6,sF⟩:=WQ l a5 2 5 hl ha5 (by omega) (by omega)
 obtain ⟨g,a7,g1,g2,ha7,sG⟩:=WQ l a6 1 f hl ha6 (by omega) (by omega)
 obtain ⟨ra,ba,ra1,ra2,hba,sRa⟩:=WQ l a5 1 3 hl ha5 (by omega) (by omega)
 obtain ⟨Na,rfl⟩:=Int.eq_ofNat_of_zero_le (show 0≤ra by omega)
 obtain ⟨rb,bb,rb1,rb2,hbb,sRb⟩:=WQ l a7 1 3 hl ha7 (by omega) (by omega)
 obtain ⟨Nb,rfl⟩:=Int.eq_ofNat_of_zero_le (show 0≤rb by omega)
 refine zV Je mixm (fun r:Dcl×Nat=>dclT r.1) (fun r=>[(0,oC l r.2)]) (by simp) ?_
 unfold ji
 refine sW ?_
 refine XE.mp (fun _ _=>C1.draw 0 l a _ sP rfl rfl rfl) ?_
 refine sW ?_
 refine XE.mp (fun _ _=>C1.im hIt (by rfl) (by rfl)) ?_
 simp only [tZ,↓un_u,simprocAttr,qj2]
 refine XE.sd (show 1 + 1≤9223372036854775807 by omega) ?_
 refine XE.mp (fun _ _=>C1.draw 0 l a1 _ sC rfl rfl rfl) ?_
 refine sW ?_
 refine XE.mp (fun _ _=>C1.draw 0 l a2 _ sS rfl rfl rfl) ?_
 refine sW ?_
 refine XE.sd (by kernel_rfl) ?_
 refine XE.mp (fun _ _=>C1.draw 0 l a3 _ sO rfl rfl rfl) ?_
 refine sW ?_
 apply XE.brB
 ·intro h1
  refine XE.mp (fun _ _=>C1.draw 0 l a4 _ sO2 rfl rfl rfl) ?_
  refine sW ?_
  apply XE.brB
  focus
   intro h2
   refine XE.mp (fun _ _=>C1.draw 0 l a5 _ sF rfl rfl rfl) ?_
   refine sW ?_
   refine XE.mp (fun _ _=>C1.draw 0 l a6 _ sG rfl rfl rfl) ?_
   refine sW ?_
   refine XE.mp (fun _ _=>C1.draw 0 l a7 _ (sRb) rfl rfl rfl) ?_
   refine sW ?_
   refine XE.loopF mixm [6,19,23] (fun y:List Qst×Nat=>y.1.length≤Nb∧(∀ i (h:i < y.1.length),qstE s y.1[i] = 0∧y.1[i].name = ⟨#[113,dgt (Nb - i)]⟩)∧y.2≤l.length) (fun y=>[(6,vI ((Nb - y.1.length:Nat):Int))]) (fun y=>[(0,oC l y.2),(4096,.arr 2 [schT s] false),(4100,.arr 12 [dclT dcl0] false),(8236,.arr 12 [.agg [vS ⟨#[112,dgt P]⟩,vS qt6,vI ((.mk 1 0 0 0 0 []):Cnd).op,vI ((.mk 1 0 0 0 0 []):Cnd).col,vI ((.mk 1 0 0 0 0 []):Cnd).code,vI ((.mk 1 0 0 0 0 []):Cnd).lo,vI ((.mk 1 0 0 0 0 []):Cnd).hi,vCs ((.mk 1 0 0 0 0 []):Cnd).kids,vI g,vI f,vI sd,.asl 1 y.1.length]] false),(1,.arr 17 (y.1.map qstT) false)]) (fun y=>Nb - y.1.length) ([],bb) ⟨by simp,fun i h=>by simp at h,hbb⟩ (fun e ⟨_,hst⟩=>?_) fun T' y hy ih=>?_
   ·exact .oA [(0,some 0),(4096,some 4096),(4100,some 4100),(8236,some 8236),(1,none)] []
   obtain ⟨qs,a8⟩:=y
   obtain ⟨y1,y2,y3⟩:=hy
   dsimp only at y1 y2 y3
   simp only [tZ,↓un_u,simprocAttr,decide_eq_true_eq,decide_eq_false_iff_not]
   refine XE.brN (fun h4=>?_) (fun h4=>?_)
   ·have hlt:qs.length < Nb:=by omega
    have hI:=qj3 (Nb - qs.length) (by omega)
    obtain ⟨⟨q,a9⟩,⟨⟨hq,hqn⟩,ha9⟩,sQ⟩:=je s hd ⟨#[113,dgt (Nb - qs.length)]⟩ (nm_p _ (by omega)).2 l a8 hl y3
    dsimp only at hq hqn ha9 sQ
    have hwk:=wQ (i:=Nb - qs.length) (by omega) (by omega)
    refine XE.mp (fun _ _=>C1.im hI (by rfl) (by rfl)) ?_
    simp only [tZ,↓un_u,simprocAttr,qj2]
    refine XE.sd (show 1 + 1≤9223372036854775807 by omega) ?_
    refine XE.mp (fun _ _=>C1.draw 0 l a8 _ sQ rfl rfl rfl) ?_
    simp only [tZ,↓un_u,simprocAttr,hwk]
    refine XE.sd (by omega) (XE.sd (by kernel_rfl) ?_)
    refine XE.next ih (qs ++ [q],a9) ⟨by simp;omega,fun i h=>?_,ha9⟩ (by simp;omega) fun e ⟨_,hst⟩=>?_
    ·dsimp only at h ⊢
     by_cases hi:i < qs.length
     ·rw [List.getElem_append_left hi]
      exact y2 i hi
     ·have he:i = qs.length:=by rw [List.length_append] at h;simp at h;omega
      subst he
      rw [List.getElem_append_right (Nat.le_refl _)]
      simpa using And.intro hq hqn
    ·have e1:Nb - (qs ++ [q]).length = Nb - qs.length - 1:=by rw [List.length_append];simp;omega
     simp only [e1]
     exact .oA [(0,some 0),(4096,some 4096),(4100,some 4100),(8236,some 8236),(1,some 1)] []
   ·refine XE.fin (⟨⟨#[112,dgt P]⟩,qt6,(.mk 1 0 0 0 0 []),⟨g,f,sd⟩,qs⟩,a8) ⟨qQ1 hE (by omega) (wG (s:=s) 1 (qC6 s) rfl) hca (by rw [smpE,if_neg];dsimp only;omega) (by omega) rfl (by omega) (fun i h=>by have:=y2 i h;rwa [show Nb = qs.length by omega] at this),y3⟩ fun e ⟨_,hst⟩=>?_
    exact .oA [(0,some 0)] [1]
  focus
   intro h2
   refine XE.mp (fun _ _=>C1.draw 0 l a5 _ (sRa) rfl rfl rfl) ?_
   refine sW ?_
   refine XE.loopF mixm [6,19,23] (fun y:List Qst×Nat=>y.1.length≤Na∧(∀ i (h:i < y.1.length),qstE s y.1[i] = 0∧y.1[i].name = ⟨#[113,dgt (Na - i)]⟩)∧y.2≤l.length) (fun y=>[(6,vI ((Na - y.1.length:Nat):Int))]) (fun y=>[(0,oC l y.2),(4096,.arr 2 [schT s] false),(4100,.arr 12 [dclT dcl0] false),(8236,.arr 12 [.agg [vS ⟨#[112,dgt P]⟩,vS qt6,vI ((.mk 1 0 0 0 0 []):Cnd).op,vI ((.mk 1 0 0 0 0 []):Cnd).col,vI ((.mk 1 0 0 0 0 []):Cnd).code,vI ((.mk 1 0 0 0 0 []):Cnd).lo,vI ((.mk 1 0 0 0 0 []):Cnd).hi,vCs ((.mk 1 0 0 0 0 []):Cnd).kids,vI 1,vI 1,vI sd,.asl 1 y.1.length]] false),(1,.arr 17 (y.1.map qstT) false)]) (fun y=>Na - y.1.length) ([],ba) ⟨by simp,fun i h=>by simp at h,hba⟩ (fun e ⟨_,hst⟩=>?_) fun T' y hy ih=>?_
   ·exact .oA [(0,some 0),(4096,some 4096),(4100,some 4100),(8236,some 8236),(1,none)] []
   obtain ⟨qs,a8⟩:=y
   obtain ⟨y1,y2,y3⟩:=hy
   dsimp only at y1 y2 y3
   simp only [tZ,↓un_u,simprocAttr,decide_eq_true_eq,decide_eq_false_iff_not]
   refine XE.brN (fun h4=>?_) (fun h4=>?_)
   ·have hlt:qs.length < Na:=by omega
    have hI:=qj3 (Na - qs.length) (by omega)
    obtain ⟨⟨q,a9⟩,⟨⟨hq,hqn⟩,ha9⟩,sQ⟩:=je s hd ⟨#[113,dgt (Na - qs.length)]⟩ (nm_p _ (by omega)).2 l a8 hl y3
    dsimp only at hq hqn ha9 sQ
    have hwk:=wQ (i:=Na - qs.length) (by omega) (by omega)
    refine XE.mp (fun _ _=>C1.im hI (by rfl) (by rfl)) ?_
    simp only [tZ,↓un_u,simprocAttr,qj2]
    refine XE.sd (show 1 + 1≤9223372036854775807 by omega) ?_
    refine XE.mp (fun _ _=>C1.draw 0 l a8 _ sQ rfl rfl rfl) ?_
    simp only [tZ,↓un_u,simprocAttr,hwk]
    refine XE.sd (by omega) (XE.sd (by kernel_rfl) ?_)
    refine XE.next ih (qs ++ [q],a9) ⟨by simp;omega,fun i h=>?_,ha9⟩ (by simp;omega) fun e ⟨_,hst⟩=>?_
    ·dsimp only at h ⊢
     by_cases hi:i < qs.length
     ·rw [List.getElem_append_left hi]
      exact y2 i hi
     ·have he:i = qs.length:=by rw [List.length_append] at h;simp at h;omega
      subst he
      rw [List.getElem_append_right (Nat.le_refl _)]
      simpa using And.intro hq hqn
    ·have e1:Na - (qs ++ [q]).length = Na - qs.length - 1:=by rw [List.length_append];simp;omega
     simp only [e1]
     exact .oA [(0,some 0),(4096,some 4096),(4100,some 4100),(8236,some 8236),(1,some 1)] []
   ·refine XE.fin (⟨⟨#[112,dgt P]⟩,qt6,(.mk 1 0 0 0 0 []),⟨1,1,sd⟩,qs⟩,a8) ⟨qQ1 hE (by omega) (wG (s:=s) 1 (qC6 s) rfl) hca (by rw [smpE,if_neg];dsimp only;omega) (by omega) rfl (by omega) (fun i h=>by have:=y2 i h;rwa [show Na = qs.length by omega] at this),y3⟩ fun e ⟨_,hst⟩=>?_
    exact .oA [(0,some 0)] [1]
 ·intro h1
  refine XE.mp (fun _ _=>C1.draw 0 l a4 _ sO2 rfl rfl rfl) ?_
  refine sW ?_
  apply XE.brB
  focus
   intro h2
   refine XE.mp (fun _ _=>C1.draw 0 l a5 _ sF rfl rfl rfl) ?_
   refine sW ?_
   refine XE.mp (fun _ _=>C1.draw 0 l a6 _ sG rfl rfl rfl) ?_
   refine sW ?_
   refine XE.mp (fun _ _=>C1.draw 0 l a7 _ (sRb) rfl rfl rfl) ?_
   refine sW ?_
   refine XE.loopF mixm [6,19,23] (fun y:List Qst×Nat=>y.1.length≤Nb∧(∀ i (h:i < y.1.length),qstE s y.1[i] = 0∧y.1[i].name = ⟨#[113,dgt (Nb - i)]⟩)∧y.2≤l.length) (fun y=>[(6,vI ((Nb - y.1.length:Nat):Int))]) (fun y=>[(0,oC l y.2),(4096,.arr 2 [schT s] false),(4100,.arr 12 [dclT dcl0] false),(8236,.arr 12 [.agg [vS ⟨#[112,dgt P]⟩,vS qt6,vI (c0:Cnd).op,vI (c0:Cnd).col,vI (c0:Cnd).code,vI (c0:Cnd).lo,vI (c0:Cnd).hi,vCs (c0:Cnd).kids,vI g,vI f,vI sd,.asl 1 y.1.length]] false),(1,.arr 17 (y.1.map qstT) false)]) (fun y=>Nb - y.1.length) ([],bb) ⟨by simp,fun i h=>by simp at h,hbb⟩ (fun e ⟨_,hst⟩=>?_) fun T' y hy ih=>?_
   ·exact .oA [(0,some 0),(4096,some 4096),(4100,some 4100),(8236,some 8236),(1,none)] []
   obtain ⟨qs,a8⟩:=y
   obtain ⟨y1,y2,y3⟩:=hy
   dsimp only at y1 y2 y3
   simp only [tZ,↓un_u,simprocAttr,decide_eq_true_eq,decide_eq_false_iff_not]
   refine XE.brN (fun h4=>?_) (fun h4=>?_)
   ·have hlt:qs.length < Nb:=by omega
    have hI:=qj3 (Nb - qs.length) (by omega)
    obtain ⟨⟨q,a9⟩,⟨⟨hq,hqn⟩,ha9⟩,sQ⟩:=je s hd ⟨#[113,dgt (Nb - qs.length)]⟩ (nm_p _ (by omega)).2 l a8 hl y3
    dsimp only at hq hqn ha9 sQ
    have hwk:=wQ (i:=Nb - qs.length) (by omega) (by omega)
    refine XE.mp (fun _ _=>C1.im hI (by rfl) (by rfl)) ?_
    simp only [tZ,↓un_u,simprocAttr,qj2]
    refine XE.sd (show 1 + 1≤9223372036854775807 by omega) ?_
    refine XE.mp (fun _ _=>C1.draw 0 l a8 _ sQ rfl rfl rfl) ?_
    simp only [tZ,↓un_u,simprocAttr,hwk]
    refine XE.sd (by omega) (XE.sd (by kernel_rfl) ?_)
    refine XE.next ih (qs ++ [q],a9) ⟨by simp;omega,fun i h=>?_,ha9⟩ (by simp;omega) fun e ⟨_,hst⟩=>?_
    ·dsimp only at h ⊢
     by_cases hi:i < qs.length
     ·rw [List.getElem_append_left hi]
      exact y2 i hi
     ·have he:i = qs.length:=by rw [List.length_append] at h;simp at h;omega
      subst he
      rw [List.getElem_append_right (Nat.le_refl _)]
      simpa using And.intro hq hqn
    ·have e1:Nb - (qs ++ [q]).length = Nb - qs.length - 1:=by rw [List.length_append];simp;omega
     simp only [e1]
     exact .oA [(0,some 0),(4096,some 4096),(4100,some 4100),(8236,some 8236),(1,some 1)] []
   ·refine XE.fin (⟨⟨#[112,dgt P]⟩,qt6,c0,⟨g,f,sd⟩,qs⟩,a8) ⟨qQ1 hE (by omega) hc0 hcf0 (by rw [smpE,if_neg];dsimp only;omega) (by omega) rfl (by omega) (fun i h=>by have:=y2 i h;rwa [show Nb = qs.length by omega] at this),y3⟩ fun e ⟨_,hst⟩=>?_
    exact .oA [(0,some 0)] [1]
  focus
   intro h2
   refine XE.mp (fun _ _=>C1.draw 0 l a5 _ (sRa) rfl rfl rfl) ?_
   refine sW ?_
   refine XE.loopF mixm [6,19,23] (fun y:List Qst×Nat=>y.1.length≤Na∧(∀ i (h:i < y.1.length),qstE s y.1[i] = 0∧y.1[i].name = ⟨#[113,dgt (Na - i)]⟩)∧y.2≤l.length) (fun y=>[(6,vI ((Na - y.1.length:Nat):Int))]) (fun y=>[(0,oC l y.2),(4096,.arr 2 [schT s] false),(4100,.arr 12 [dclT dcl0] false),(8236,.arr 12 [.agg [vS ⟨#[112,dgt P]⟩,vS qt6,vI (c0:Cnd).op,vI (c0:Cnd).col,vI (c0:Cnd).code,vI (c0:Cnd).lo,vI (c0:Cnd).hi,vCs (c0:Cnd).kids,vI 1,vI 1,vI sd,.asl 1 y.1.length]] false),(1,.arr 17 (y.1.map qstT) false)]) (fun y=>Na - y.1.length) ([],ba) ⟨by simp,fun i h=>by simp at h,hba⟩ (fun e ⟨_,hst⟩=>?_) fun T' y hy ih=>?_
   ·exact .oA [(0,some 0),(4096,some 4096),(4100,some 4100),(8236,some 8236),(1,none)] []
   obtain ⟨qs,a8⟩:=y
   obtain ⟨y1,y2,y3⟩:=hy
   dsimp only at y1 y2 y3
   simp only [tZ,↓un_u,simprocAttr,decide_eq_true_eq,decide_eq_false_iff_not]
   refine XE.brN (fun h4=>?_) (fun h4=>?_)
   ·have hlt:qs.length < Na:=by omega
    have hI:=qj3 (Na - qs.length) (by omega)
    obtain ⟨⟨q,a9⟩,⟨⟨hq,hqn⟩,ha9⟩,sQ⟩:=je s hd ⟨#[113,dgt (Na - qs.length)]⟩ (nm_p _ (by omega)).2 l a8 hl y3
    dsimp only at hq hqn ha9 sQ
    have hwk:=wQ (i:=Na - qs.length) (by omega) (by omega)
    refine XE.mp (fun _ _=>C1.im hI (by rfl) (by rfl)) ?_
    simp only [tZ,↓un_u,simprocAttr,qj2]
    refine XE.sd (show 1 + 1≤9223372036854775807 by omega) ?_
    refine XE.mp (fun _ _=>C1.draw 0 l a8 _ sQ rfl rfl rfl) ?_
    simp only [tZ,↓un_u,simprocAttr,hwk]
    refine XE.sd (by omega) (XE.sd (by kernel_rfl) ?_)
    refine XE.next ih (qs ++ [q],a9) ⟨by simp;omega,fun i h=>?_,ha9⟩ (by simp;omega) fun e ⟨_,hst⟩=>?_
    ·dsimp only at h ⊢
     by_cases hi:i < qs.length
     ·rw [List.getElem_append_left hi]
      exact y2 i hi
     ·have he:i = qs.length:=by rw [List.length_append] at h;simp at h;omega
      subst he
      rw [List.getElem_append_right (Nat.le_refl _)]
      simpa using And.intro hq hqn
    ·have e1:Na - (qs ++ [q]).length = Na - qs.length - 1:=by rw [List.length_append];simp;omega
     simp only [e1]
     exact .oA [(0,some 0),(4096,some 4096),(4100,some 4100),(8236,some 8236),(1,some 1)] []
   ·refine XE.fin (⟨⟨#[112,dgt P]⟩,qt6,c0,⟨1,1,sd⟩,qs⟩,a8) ⟨qQ1 hE (by omega) hc0 hcf0 (by rw [smpE,if_neg];dsimp only;omega) (by omega) rfl (by omega) (fun i h=>by have:=y2 i h;rwa [show Na = qs.length by omega] at this),y3⟩ fun e ⟨_,hst⟩=>?_
    exact .oA [(0,some 0)] [1]
theorem JW (s:Sch) (hd:DrS s) (l:List UInt8) (a:Nat) (hl:l.length≤400) (ha:a≤l.length) :
 ∃ r:Dcl×Nat,(dclE s r.1 = 0∧r.2≤l.length)∧Spc Tryz.prog zd [.ptr 0 1 0 0,schT s] [(0,oC l a)] (dclT r.1) [(0,oC l r.2)]:=by
 obtain ⟨r,⟨⟨h1,_⟩,h2⟩,h⟩:=Jx s hd l a hl ha
 exact ⟨r,⟨h1,h2⟩,h⟩
end Go.Proofs
namespace Go.Proofs
open Go Go.TL
set_option maxRecDepth 4000
set_option maxHeartbeats 8000000
theorem zg0 {s:Sch} {d:Dcl} (h:dclE s d = 0):yC s (jl s d) = 0∧(∀ p∈jl s d,0 < p.lev)∧(jl s d).Pairwise fun a b=>a.col < b.col:=by
 obtain ⟨hE,_,_,_,_,_,_,hqs⟩:=qo0 h
 have hp:yC s (jl s d) = 0:=by
  rw [Qh h]
  refine zu5 hE fun k hk h0=>?_
  obtain ⟨p,hp,e1,e2⟩:=qD4 h0
  obtain ⟨q,hq,hp2⟩:=List.mem_flatMap.1 hp
  have hb:=qu8 q p hp2
  have hqe:qstE s q = 0:=by
   obtain ⟨n,hn,rfl⟩:=List.getElem_of_mem hq
   have:=hqs n hn
   rw [qAt,qh hn] at this
   exact this
  have hqk:=WO hqe
  refine ⟨by omega,?_⟩
  rw [← e2]
  have h1:=zq5 hp2
  rw [e1,qD5 hqe hk] at h1
  have:=zM4 (l:=qD1 s q) (k:=k) (qo8 hE (by omega) hk) fun p hp e=>by rw [← e];exact zb1 hqk p hp
  omega
 refine ⟨hp,fun p hp=>?_,(qj0 hp).2.2⟩
 rw [Qh h] at hp
 exact (ZY hp).1
theorem zN2 (l:List Pk):covB l l = true:=Ym.2 fun x hx=>⟨x,hx,rfl,Int.le_refl _⟩
def WX (l:List Pk) (i:Nat):List Pk:=l.set i ⟨(l.getD i default).col,(l.getD i default).lev - 1⟩
theorem zg1 {s:Sch} {l:List Pk} (hp:yC s l = 0) (hpos:∀ p∈l,0 < p.lev) {i:Nat} (hi:i < l.length):yC s (WX l i) = 0∧covB l (WX l i) = false∧covB (WX l i) l = true:=by
 obtain ⟨hE,h1,h2⟩:=qj0 hp
 have hg:l.getD i default = l[i]:=qh hi
 have hlen:(WX l i).length = l.length:=by rw [WX,List.length_set]
 have hget:∀ j (hj:j < (WX l i).length),(WX l i)[j].col = (l[j]'(by omega)).col∧(j≠i→(WX l i)[j] = l[j]'(by omega))∧(j = i→(WX l i)[j].lev = (l[j]'(by omega)).lev - 1):=fun j hj=>by
  unfold WX at hj ⊢
  rw [List.getElem_set]
  by_cases e:i = j
  ·subst e
   rw [if_pos rfl,hg]
   exact ⟨rfl,fun k=>absurd rfl k,fun _=>rfl⟩
  ·rw [if_neg e]
   exact ⟨rfl,fun _=>rfl,fun k=>absurd k.symm e⟩
 refine ⟨qD2 hE (fun p hp=>?_) ?_,?_,?_⟩
 ·obtain ⟨j,hj,rfl⟩:=List.getElem_of_mem hp
  obtain ⟨g1,g2,g3⟩:=hget j hj
  have hm:l[j]'(by omega)∈l:=List.getElem_mem _
  by_cases e:j = i
  ·have h4:=h1 _ hm
   have h5:=hpos _ hm
   obtain ⟨_,q1,q2,q3,q4⟩:=qu3 h4
   rw [Qu,if_neg (by rw [hE];simp),if_neg (by rw [g1];omega),if_neg]
   rw [Bool.not_eq_false,ZX,g1,g3 e]
   omega
  ·rw [g2 e];exact h1 _ hm
 ·rw [List.pairwise_iff_getElem]
  intro a b ha hb hab
  rw [(hget a ha).1,(hget b hb).1]
  exact List.pairwise_iff_getElem.1 h2 a b (by omega) (by omega) hab
 ·rw [Bool.eq_false_iff]
  intro k
  obtain ⟨y,hy,e1,e2⟩:=Ym.1 k l[i] (List.getElem_mem hi)
  obtain ⟨j,hj,rfl⟩:=List.getElem_of_mem hy
  obtain ⟨g1,g2,g3⟩:=hget j hj
  rw [g1] at e1
  have hji:j = i:=by
   rcases Nat.lt_trichotomy j i with q | q | q
   ·have:=List.pairwise_iff_getElem.1 h2 j i (by omega) hi q;omega
   ·exact q
   ·have:=List.pairwise_iff_getElem.1 h2 i j hi (by omega) q;omega
  have:=g3 hji
  subst hji
  omega
 ·refine Ym.2 fun x hx=>?_
  obtain ⟨j,hj,rfl⟩:=List.getElem_of_mem hx
  obtain ⟨g1,g2,g3⟩:=hget j hj
  refine ⟨l[j]'(by omega),List.getElem_mem _,g1.symm,?_⟩
  by_cases e:j = i
  ·rw [g3 e];omega
  ·rw [g2 e];exact Int.le_refl _
theorem x_SD (l:List UInt8) (hl:l.length≤400):∃ (s:Sch) (d:Dcl) (a1 a2:Nat),DrS s∧dclE s d = 0∧a1≤l.length∧a2≤l.length∧schE s = 0∧Js s∧0 < s.lists.length∧1≤s.cols.length∧s.cols.length≤8∧
 Spc Tryz.prog jE [.ptr 0 1 0 0] [(0,oC l 0)] (schT s) [(0,oC l a1)]∧Spc Tryz.prog zd [.ptr 0 1 0 0,schT s] [(0,oC l a1)] (dclT d) [(0,oC l a2)]:=by
 obtain ⟨⟨s,a1⟩,⟨hD,ha1⟩,sS⟩:=qd0 l 0 hl (by omega)
 dsimp only at hD ha1 sS
 obtain ⟨⟨d,a2⟩,⟨hd,ha2⟩,sDd⟩:=JW s hD l a1 hl ha1
 dsimp only at hd ha2 sDd
 have hE:=hD.ok
 have hn:=(qW hE).nc
 exact ⟨s,d,a1,a2,hD,hd,ha1,ha2,hE,(qW hE).sm,by obtain ⟨a,b,e,_⟩:=hD.ls;rw [e];simp,by omega,by omega,sS,sDd⟩
theorem WY (bs:List UInt8):Spc Tryz.prog Qs [vL bs] [] (vB true) []:=by
 have hl4:(bs.take 400).length≤400:=by rw [List.length_take];omega
 obtain ⟨s,d,a1,a2,hD,hd,ha1,ha2,hE,hs,hL,hc1,hc8,sS,sDd⟩:=x_SD (bs.take 400) hl4
 have sP:=ZR s hs d
 rw [hd] at sP
 obtain ⟨hpp,hpos,hasc⟩:=zg0 hd
 have hpl:=qC4 s d
 have sC:=fun p (hp:p.length < 4611686018427387904)=>KK s hs d p hp
 have hck:=fun p (hp:yC s p = 0)=>zq6 hd hp
 have hself:=zN2 (jl s d)
 have hless:=fun i (hi:i < (jl s d).length)=>zg1 hpp hpos hi
 generalize jl s d = P at sP hpp hpos hasc hpl hck hself hless
 have sC1:=sC P (by omega)
 rw [hck P hpp,if_pos hself] at sC1
 refine qd KN mixm (by simp) fun e _ hst=>qk ?_
 unfold jW
 refine sW ?_
 refine C1.newdraw 8196 (zt9 bs) rfl rfl ?_
 generalize bs.take 400 = m at hl4 sS sDd ha1 ha2 ⊢
 refine sW ?_
 refine C1.draw 8196 m 0 _ sS rfl rfl rfl ?_
 refine sW ?_
 refine C1.draw 8196 m a1 _ sDd rfl rfl rfl ?_
 refine sW ?_
 refine C1.im sP (by rfl) (by rfl) ?_
 simp only [tZ,↓un_u,simprocAttr,bne_self_eq_false]
 refine C2.im (fun _=>sC1) (fun _=>rfl) (by rfl) ?_
 simp only [tZ,↓un_u,simprocAttr,bne_self_eq_false]
 refine qy mixm (α:=Nat×Nat) [8] (fun y=>y.1≤4∧y.2≤m.length) (fun y=>[(8,vI y.1)]) (fun y=>[(8196,oC m y.2),(12296,.arr 2 [schT s] false),(16396,.arr 12 [dclT d] false)]) (fun y=>4 - y.1) (0,a2) ⟨by simp,ha2⟩ ?_ fun y hy=>?_
 ·exact .oA [(8196,some 8196),(12296,some 12296),(16396,some 16396)] []
 obtain ⟨i,a3⟩:=y
 obtain ⟨y1,y2⟩:=hy
 dsimp only at y1 y2
 refine sD ?_
 refine ⟨fun h3=>?_,fun h3=>?_⟩
 ·have hwi:=qj (i:=i) (by omega)
  obtain ⟨⟨p,a4⟩,⟨⟨hp0,hp8⟩,ha4⟩,sPk⟩:=qk5 s hD m a3 hl4 y2
  dsimp only at hp0 hp8 ha4 sPk
  have sCp:=sC p (by omega)
  rw [hck p hp0] at sCp
  have sWi:=jB P p (by omega) (by omega)
  have hb:(((if covB P p = true then (0:Int) else 23) == 0) != covB P p) = false:=by cases covB P p <;> rfl
  refine C1.draw 8196 m a3 _ sPk rfl rfl rfl ?_
  refine sW ?_
  refine C1.im sCp (by rfl) (by rfl) ?_
  refine sW ?_
  refine C1.im sWi (by rfl) (by rfl) ?_
  simp only [tZ,↓un_u,simprocAttr,hb,hwi]
  refine ⟨(i + 1,a4),⟨by dsimp only;omega,ha4⟩,by dsimp only;omega,?_⟩
  exact .oA [(8196,some 8196),(12296,some 12296),(16396,some 16396)] []
 ·refine qy mixm (α:=Nat) [52] (fun i=>i≤P.length) (fun i=>[(52,vI i)]) (fun i=>[(12296,.arr 2 [schT s] false),(16396,.arr 12 [dclT d] false)]) (fun i=>P.length - i) 0 (by omega) ?_ fun i hi=>?_
  ·exact .oA [(12296,some 12296),(16396,some 16396)] []
  refine sD ?_
  refine ⟨fun h5=>?_,fun h5=>?_⟩
  ·have hi2:i < P.length:=by omega
   have hwi:=qj (i:=i) (by omega)
   obtain ⟨g1,g2,g3⟩:=hless i hi2
   have hpi:=hpos _ (List.getElem_mem hi2)
   have hll:(WX P i).length = P.length:=by rw [WX,List.length_set]
   have sCl:=sC (WX P i) (by omega)
   rw [hck _ g1,if_neg (by rw [g2];simp)] at sCl
   have sW1:=jB P (WX P i) (by omega) (by omega)
   have sW2:=jB (WX P i) P (by omega) (by omega)
   rw [g2] at sW1
   rw [g3] at sW2
   have hfi:=(qu3 ((qj0 hpp).2.1 _ (List.getElem_mem hi2))).2.2.2.2
   have h59:=WN (c:=P[i].col) hE
   have hwl:IntKind.i64.wrap (P[i].lev - 1) = P[i].lev - 1:=IntWalk.i64_in _ (by omega)
   have hset:((P.map pkT).set i (T.agg [vI P[i].col,vI (P[i].lev - 1)])) = (WX P i).map pkT:=by
    rw [WX,List.map_set,qh hi2]
   simp only [tZ,↓un_u,simprocAttr,Int.toNat_natCast,qe hi2,hwl]
   refine ⟨by omega,by omega,hi2,by omega,hi2,?_⟩
   rw [hset]
   rw [← hll]
   refine C1.lend [69636] sCl ?_ (by rfl) (by rfl) ?_
   ·all_goals (try exact clA)
   simp only [tZ,↓un_u,simprocAttr,bne_self_eq_false]
   refine C2.lend [69636] (fun _=>sW1) (fun _=>?_) (by rfl) (by rfl) ?_
   ·all_goals (try exact clA)
   refine sW ?_
   refine C2.lend [69636] (fun _=>sW2) (fun _=>?_) (by rfl) (by rfl) ?_
   ·all_goals (try exact clA)
   simp only [tZ,↓un_u,simprocAttr,hwi]
   refine ⟨i + 1,by omega,by omega,?_⟩
   rw [hll]
   exact .oA [(12296,some 12296),(16396,some 16396)] []
  ·refine C1.im qQ0 (by rfl) (by rfl) ?_
   refine sW ?_
   exact .oA [] []
end Go.Proofs
