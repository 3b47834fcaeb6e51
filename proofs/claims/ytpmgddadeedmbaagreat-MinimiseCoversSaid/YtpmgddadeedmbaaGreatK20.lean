/- A part of the proof: trees of Go values, short forms, contracts. -/
import Derived.WalkKit
import Derived.Still
import Derived.MapKept
import GoSem.Builtin.Cap
import Derived.Laws.Externs
import GoSem.Extern.SlicesOverlaps
import Derived.Carry
import Derived.ProofKit
import Derived.OpenShut
import Derived.HandedShaped
import Derived.Lay
import Derived.LaidLaws
import Derived.MakeChecks
import Derived.SevenTiedAt
import Derived.Test.YtpmgddadeedmbaaGreatChecked
import Derived.Test.YtpmgddadeedmbaaGreatK19
set_option linter.unusedSimpArgs false
set_option linter.unusedVariables false
namespace Go.Proofs
open Go Go.TL
set_option maxRecDepth 4000
set_option maxHeartbeats 8000000
def Qb (s:Sch) (q:Qst) (k:Nat) (lev:Int) (x y:Int):Prop:=qG s k lev x = qG s k lev y∧zs4 s q k x y = true
structure FirstV (s:Sch) (q:Qst) (k:Nat) (lev:Int) (x y:Int):Prop where
 hx:jM s k x = true
 hy:jM s k y = true
 lt:x < y
 qb:Qb s q k lev x y
 least:∀ x' y',jM s k x' = true→jM s k y' = true→x' < y'→Qb s q k lev x' y'→x < x'∨(x = x'∧y≤y')
structure LeastX (s:Sch) (q:Qst) (k:Nat) (lev:Int) (x:Int):Prop where
 lo:(qh s k).low < x
 hi:x≤(qh s k).high
 qb:Qb s q k lev (x - 1) x
 least:∀ y,(qh s k).low < y→y < x→¬ Qb s q k lev (y - 1) y
def zt2 (s:Sch) (q:Qst) (k:Nat) (lev a b:Int):Prop:=
 if (qh s k).kind = 2 then FirstV s q k lev a b
 else if lev = 0∧(qh s k).opt = true then a = Wg∧b = (qh s k).low
 else LeastX s q k lev b∧a = (if lev = 0 then (qh s k).low else max (qh s k).low (qG s k lev b))
def WitR (s:Sch) (d:Dcl) (col:Int) (w:Int×Int×Int×Bool):Prop:=
 (¬ (dclE s d = 0∧0 < mxl (jA s d) col)∧w = (0,0,0,false))∨
 (dclE s d = 0∧∃ (k n:Nat) (a b:Int),col = k∧0 < k∧k < s.cols.length∧0 < mxl (jA s d) k∧n < d.qs.length∧mxl (kI s (qAt d.qs n)) k = mxl (jA s d) k∧(∀ m,m < n→mxl (kI s (qAt d.qs m)) k≠mxl (jA s d) k)∧zt2 s (qAt d.qs n) k (mxl (jA s d) k - 1) a b∧w = (a,b,(n:Int),true))
theorem qJ3 {s:Sch} {q:Qst} (h:qstE s q = 0) {k:Nat} (hk:k < s.cols.length):mxl (kI s q) k = mxl (qp8 s q) k:=by
 rw [Zf h,qg2 fun k=>ZL _ _,if_pos hk]
theorem zt3 {s:Sch} {d:Dcl} (h:dclE s d = 0) {k:Nat} (hk:k < s.cols.length):mxl (jA s d) k = mxl (zb1 s d.qs) k:=by
 rw [Zh h,qg2 fun k=>ZL _ _,if_pos hk]
theorem zS4 {l:List Pk} {k:Int} (h:0 < mxl l k):∃ p∈l,p.col = k:=by
 obtain ⟨p,hp,e,_⟩:=qy3 h
 exact ⟨p,hp,e⟩
end Go.Proofs
namespace Go.Proofs
open Go Go.TL
set_option maxRecDepth 4000
set_option maxHeartbeats 8000000
def KM (L:List Int) (f g:Int→Int) (v:Int):Int×Bool:=match L.filter (fun x=>f x == v) with
 | []=>(0,false)
 | x :: r=>if (r.all fun y=>g y == g x) = true then (g x,true) else (0,false)
theorem qN3 {L:List Int} {f:Int→Int} {v:Int} {i:Nat} (h:i < L.length):(L.take (i + 1)).filter (fun x=>f x == v) = (L.take i).filter (fun x=>f x == v) ++ if (f L[i] == v) = true then [L[i]] else []:=by
 rw [qS h,List.filter_append]
 congr 1
 split
 ·rename_i h2;rw [List.filter_cons_of_pos (p:=fun x=>f x == v) h2];rfl
 ·rename_i h2;rw [List.filter_cons_of_neg (p:=fun x=>f x == v) h2];rfl
def TcI (g:Int→Int) (M:List Int) (o:Int) (b:Bool):Prop:=(M = []∧o = 0∧b = false)∨∃ x r,M = x :: r∧(∀ y∈r,g y = g x)∧o = g x∧b = true
theorem TcI.fin {L:List Int} {f g:Int→Int} {v o:Int} {b:Bool} (h:TcI g (L.filter fun x=>f x == v) o b):KM L f g v = (o,b):=by
 unfold KM
 rcases h with ⟨h1,h2,h3⟩ | ⟨x,r,h1,h2,h3,h4⟩
 ·rw [h1,h2,h3]
 ·rw [h1,h3,h4]
  dsimp only
  rw [if_pos (List.all_eq_true.2 fun y hy=>beq_iff_eq.2 (h2 y hy))]
theorem zb2 {L:List Int} {f g:Int→Int} {v:Int} {i:Nat} (h:i < L.length) {o:Int} (hI:TcI g ((L.take i).filter fun x=>f x == v) o true) (h1:(f L[i] == v) = true) (h2:g L[i]≠o):KM L f g v = (0,false):=by
 rcases hI with ⟨_,_,h3⟩ | ⟨x,r,h3,h4,h5,_⟩
 ·cases h3
 ·have hL:L.filter (fun x=>f x == v) = x :: (r ++ L[i] :: (L.drop (i + 1)).filter fun x=>f x == v):=by
   conv=>lhs;rw [← List.take_append_drop i L,List.filter_append,h3,zr0 h,List.filter_cons_of_pos (p:=fun x=>f x == v) h1]
   simp
  unfold KM
  rw [hL]
  dsimp only
  rw [if_neg]
  intro k
  have:=List.all_eq_true.1 k L[i] (by simp)
  rw [beq_iff_eq,← h5] at this
  exact h2 this
theorem qa9 (l:CodL) (hl:lstE l = 0) (a v b:Int):Spc Tryz.prog wE [cdlT l,vI a,vI v,vI b] [] (.tup [vI (KM (atL l (zj l - 1)) (fun x=>upC l x a) (fun x=>upC l x b) v).1,vB (KM (atL l (zj l - 1)) (fun x=>upC l x a) (fun x=>upC l x b) v).2]) []:=by
 have hlv:=qw7 (l:=l)
 have hw:IntKind.i64.wrap (zj l - 1) = zj l - 1:=IntWalk.i64_in _ (by omega)
 have hLl:(atL l (zj l - 1)).length≤60:=by
  obtain ⟨_,d5,d6⟩:=zU hl
  unfold atL
  rw [if_neg (by rw [hl];simp),List.length_map]
  refine Nat.le_trans (List.length_filter_le _ _) ?_
  rw [List.length_range];exact d6
 refine qd Yc mixm (by simp) fun e _ hst=>qk ?_
 unfold wm
 refine sW ?_
 refine C1.im (QO l) (by rfl) (by rfl) ?_
 simp only [tZ,↓un_u,simprocAttr,hw]
 refine C1.im (qa4 l (zj l - 1)) (by rfl) (by rfl) ?_
 generalize atL l (zj l - 1) = L at hLl ⊢
 refine sW ?_
 refine ⟨by kernel_rfl,?_⟩
 refine qw mixm (α:=Nat×Int×Bool) [10,11,21] (fun y=>y.1≤L.length∧TcI (fun x=>upC l x b) ((L.take y.1).filter fun x=>upC l x a == v) y.2.1 y.2.2) (fun y=>[(10,vI y.2.1),(11,vB y.2.2),(21,vI y.1)]) (fun y=>[(4096,.arr 2 [cdlT l] false)]) (fun y=>L.length - y.1) (0,0,false) ⟨by simp,.inl ⟨rfl,rfl,rfl⟩⟩ ?_ fun y hy=>?_
 ·exact .oA [(4096,some 4096)] []
 obtain ⟨i,o,t⟩:=y
 obtain ⟨y1,y2⟩:=hy
 dsimp only at y1 y2
 refine sD ?_
 refine ⟨fun h3=>?_,fun h3=>?_⟩
 ·have hi2:i < L.length:=by omega
  have hwi:=qo (i:=i) (by omega)
  have hsp:=qN3 (f:=fun x=>upC l x a) (v:=v) hi2
  have hbad:=fun e=>zb2 (f:=fun x=>upC l x a) (g:=fun x=>upC l x b) (v:=v) (o:=o) hi2 e
  have sU:=fun c=>Kc l L[i] c
  simp only [tZ,↓un_u,simprocAttr,Int.toNat_natCast,qe hi2]
  refine ⟨by omega,?_⟩
  refine C1.im (sU a) (by rfl) (by rfl) ?_
  simp only [tZ,↓un_u,simprocAttr,bne_iff_ne,bne_eq_false_iff_eq,hwi]
  generalize L[i] = x at hsp hbad sU ⊢
  refine ⟨fun h4=>?_,fun h4=>?_⟩
  ·rw [if_neg (by rw [beq_iff_eq];exact h4),List.append_nil] at hsp
   refine ⟨(i + 1,o,t),⟨by dsimp only;omega,by dsimp only;rw [hsp];exact y2⟩,by dsimp only;omega,?_⟩
   exact .oA [(4096,some 4096)] []
  ·rw [if_pos (beq_iff_eq.2 h4)] at hsp
   refine C1.im (sU b) (by rfl) (by rfl) ?_
   simp only [tZ,↓un_u,simprocAttr,tD,bne_iff_ne,bne_eq_false_iff_eq,hwi]
   refine ⟨fun h5=>?_,fun h5=>?_⟩
   ·rw [h5.1] at y2
    rw [hbad y2 (beq_iff_eq.2 h4) h5.2]
    exact .oA [] []
   ·refine ⟨(i + 1,upC l x b,true),⟨by dsimp only;omega,?_⟩,by dsimp only;omega,?_⟩
    ·dsimp only
     rw [hsp]
     rcases y2 with ⟨k1,k2,k3⟩ | ⟨z,r,k1,k2,k3,k4⟩
     ·exact .inr ⟨x,[],by rw [k1];rfl,by simp,rfl,rfl⟩
     ·right
      have hx:upC l x b = o:=by
       rw [k4] at h5
       simpa using h5
      refine ⟨z,r ++ [x],by rw [k1];rfl,fun y hy=>?_,by rw [hx,k3],rfl⟩
      rcases List.mem_append.1 hy with hy | hy
      ·exact k2 y hy
      ·rw [List.mem_singleton.1 hy]
       dsimp only
       rw [hx,k3]
    ·exact .oA [(4096,some 4096)] []
 ·have hil:i = L.length:=by omega
  subst hil
  rw [List.take_length] at y2
  rw [TcI.fin y2]
  exact .oA [] []
theorem zt4 {s:Sch} (hE:schE s = 0) {k:Nat} (hk:k < s.cols.length) (h0:0 < k) (h2:(qh s k).kind = 2) (x:Int):(KM (qE s k) (fun y=>upC (qH s k) y (finI s k)) (fun y=>upC (qH s k) y (finI s k)) x).2 = jM s k x:=by
 have hok:=zq hE
 obtain ⟨_,d2⟩:=hok.cdl hk h2
 have hself:∀ y∈qE s k,upC (qH s k) y (finI s k) = y:=fun y hy=>by
  have h3:=Wj hE h0 hk h2 hy
  have h4:=QX h2 d2 hy
  have hf:=qn1 hE h0 hk
  rw [qG,if_neg (by rw [Bool.not_eq_false,KJ];omega),Int.toNat_natCast,if_pos h2,if_neg (by rw [h4];simp)] at h3
  exact h3
 have hl:=qn2 hok hk h2 (v:=x)
 unfold KM
 cases hf:(qE s k).filter fun y=>upC (qH s k) y (finI s k) == x with
 | nil=>
   dsimp only
   symm
   rw [Bool.eq_false_iff]
   intro hh
   have hm:=hl.1 hh
   have:=List.filter_eq_nil_iff.1 hf x hm
   rw [hself x hm] at this
   simp at this
 | cons y r=>
   dsimp only
   have hy:y∈(qE s k).filter fun y=>upC (qH s k) y (finI s k) == x:=by rw [hf];exact List.mem_cons_self
   obtain ⟨hy1,hy2⟩:=List.mem_filter.1 hy
   rw [hself y hy1,beq_iff_eq] at hy2
   subst hy2
   rw [if_pos,hl.2 hy1]
   rw [List.all_eq_true]
   intro z hz
   have hz2:z∈(qE s k).filter fun y'=>upC (qH s k) y' (finI s k) == y:=by rw [hf];exact List.mem_cons_of_mem _ hz
   obtain ⟨z1,z2⟩:=List.mem_filter.1 hz2
   rw [hself z z1,beq_iff_eq] at z2
   rw [z2];exact beq_self_eq_true _
theorem qf3 (s:Sch) (hE:schE s = 0) (k:Nat) (hk:k < s.cols.length) (h0:0 < k) (h2:(qh s k).kind = 2) (a v b:Int) (ha:0≤a∧a≤finI s k) (hb:0≤b∧b≤finI s k):Spc Tryz.prog yW [schT s,vI k,vI a,vI v,vI b] []
 (let r:=KM (qE s k) (fun x=>upC (qH s k) x a) (fun x=>upC (qH s k) x b) v;.tup [vI (if r.2 = true then r.1 else 0),vB r.2]) []:=by
 have hok:=zq hE
 have hat:qh s k = s.cols[k]:=by rw [qh,qr hk]
 obtain ⟨d1,d2⟩:=hok.cdl hk h2
 have hls:qE s k = atL (qH s k) (zj (qH s k) - 1):=rfl
 have hcd:qH s k = s.lists.getD (qh s k).list.toNat default:=rfl
 have hkk:=(zA (hok.cs k hk)).2.2.2.1 h2
 have sT:=Qq s hE k
 have e1:decide (a < 0) = false:=decide_eq_false (by omega)
 have e2:decide (a > finI s k) = false:=decide_eq_false (by omega)
 have e3:decide (b < 0) = false:=decide_eq_false (by omega)
 have e4:decide (b > finI s k) = false:=decide_eq_false (by omega)
 rw [hls]
 have sC:=qa9 (qH s k) d2 a v b
 generalize KM (atL (qH s k) (zj (qH s k) - 1)) (fun x=>upC (qH s k) x a) (fun x=>upC (qH s k) x b) v = r at sC ⊢
 rw [hat] at d1 h2 hcd hkk
 rw [hcd,qr d1] at sC
 dsimp only
 refine qd qd6 mixm (by simp) fun e _ hst=>qk ?_
 unfold yr
 refine sW ?_
 refine C1.im sT (by rfl) (by rfl) ?_
 simp only [tZ,↓un_u,simprocAttr,e1,e2,e3,e4,Int.toNat_natCast,qe hk,beq_iff_eq,beq_eq_false_iff_ne]
 generalize s.cols[k] = x at d1 h2 hkk sC ⊢
 refine ⟨by omega,fun _=>?_,fun h=>absurd h2 h⟩
 simp only [tZ,↓un_u,simprocAttr,qe d1]
 refine ⟨by omega,?_⟩
 refine C1.im sC (by rfl) (by rfl) ?_
 simp only [tZ,↓un_u,simprocAttr,Bool.not_eq_true',Bool.not_eq_false']
 refine ⟨fun h=>?_,fun h=>?_⟩
 ·rw [h,if_neg (by simp)]
  exact .oA [] []
 ·rw [h,if_pos rfl]
  exact .oA [] []
theorem Zi (s:Sch) (hE:schE s = 0) (k:Nat) (hk:k < s.cols.length) (h0:0 < k) (h2:(qh s k).kind = 2) (x:Int):Spc Tryz.prog zX [vI x,.ip (schT s).cells,.ip [vI k],.ip [vI (finI s k)]] [] (vB (jM s k x)) []:=by
 have hf:=qn1 hE h0 hk
 have sT:=qf3 s hE k hk h0 h2 (finI s k) x (finI s k) (by omega) (by omega)
 dsimp only at sT
 rw [zt4 hE hk h0 h2] at sT
 refine qd QF mixm (by simp) fun e _ hst=>qk ?_
 unfold zQ
 refine sW ?_
 refine C1.im sT (by rfl) (by rfl) ?_
 refine sW ?_
 exact .oA [] []
theorem Jg (s:Sch) (q:Qst) (hq:QstOk s q) (k:Nat) (hk:k < s.cols.length) (h0:0 < k) (h2:(qh s k).kind = 2) (lev a b:Int) (hF:FirstV s q k lev a b):Spc Tryz.prog jv [schT s,qstT q,vI k,vI lev] [] (.tup [vI a,vI b]) []:=by
 have hE:=hq.sch
 have hok:=zq hE
 have hs:=hok.sm
 have hat:qh s k = s.cols[k]:=by rw [qh,qr hk]
 obtain ⟨d1,d2⟩:=hok.cdl hk h2
 obtain ⟨_,d5,d6⟩:=zU d2
 have hcd:qH s k = s.lists.getD (qh s k).list.toNat default:=rfl
 have hkk:=(zA (hok.cs k hk)).2.2.2.1 h2
 have sF:=wu s hs k
 have sL:=Zi s hE k hk h0 h2
 have sC:=fun v=>JM s hs k lev v
 have sT:=fun x y=>qf1 s hok q hq.nd hq.nt (qX4 hq) k x y
 have hcode:∀ v,jM s k v = true→∃ c:Nat,v = c∧c < (qH s k).codes.length:=fun v hv=>by
  obtain ⟨c,e,c1,_⟩:=(yR hok hk h2).1 ((qn2 hok hk h2).1 hv)
  exact ⟨c,e,c1⟩
 rw [hat] at d1 hcd hkk
 rw [hcd,qr d1] at hcode d6
 obtain ⟨A,rfl,hA⟩:=hcode a hF.hx
 obtain ⟨B,rfl,hB⟩:=hcode b hF.hy
 have hAB:=hF.lt
 refine qd Zw mixm (by simp) fun e _ hst=>qk ?_
 unfold jm
 simp only [tZ,↓un_u,simprocAttr,Int.toNat_natCast,qe hk]
 generalize s.cols[k] = x at d1 hkk hcode d6 hA hB ⊢
 simp only [tZ,↓un_u,simprocAttr,qe d1]
 refine ⟨by omega,by omega,by kernel_rfl,?_⟩
 generalize s.lists[x.list.toNat] = l at hcode d6 hA hB ⊢
 refine C1.im sF (by rfl) (by rfl) ?_
 refine sW ?_
 refine qw mixm (α:=Nat) [32] (fun i=>i≤A) (fun i=>[(32,vI i)]) (fun i=>[(4096,.arr 2 [schT s] false),(4100,.arr 17 [qstT q] false),(4104,.arr 1 [vI k] false),(12300,.arr 1 [vI (finI s k)] false)]) (fun i=>A - i) 0 (by omega) ?_ fun i hi=>?_
 ·exact .oA [(4096,some 4096),(4100,some 4100),(4104,some 4104),(12300,some 12300)] []
 have hwi:=qo (i:=i) (by omega)
 simp only [tZ,↓un_u,simprocAttr,tD,hwi]
 refine ⟨fun h3=>?_,fun h3=>by omega⟩
 refine qw mixm (α:=Nat) [14] (fun j=>i + 1≤j∧j≤l.codes.length∧(i = A→j≤B)) (fun j=>[(14,vI j)]) (fun j=>[(4096,.arr 2 [schT s] false),(4100,.arr 17 [qstT q] false),(4104,.arr 1 [vI k] false),(12300,.arr 1 [vI (finI s k)] false)]) (fun j=>l.codes.length - j) (i + 1) ⟨by omega,by omega,by omega⟩ ?_ fun j hj=>?_
 ·exact .oA [(4096,some 4096),(4100,some 4100),(4104,some 4104),(12300,some 12300)] []
 obtain ⟨j1,j2,j3⟩:=hj
 have hwj:=qo (i:=j) (by omega)
 refine sW ?_
 refine C2.lend [4096,4104,12300] (fun _=>sL i) (fun _=>?_) (by rfl) (by rfl) ?_
 ·all_goals (try simp only [tL,simprocAttr,List.map_append,List.map_cons,List.map_nil,List.cons_append,List.nil_append])
  all_goals (try (repeat' (first | exact zh | (apply zB;intro _;exact ⟨rfl,rfl⟩) | (apply qz;intro _;exact ⟨rfl,rfl⟩) | with_reducible apply qQ | with_reducible refine qD ⟨rfl,rfl⟩ ?_ | exact qR | with_reducible apply qJ | with_reducible refine qW ⟨rfl,rfl,?_⟩ ?_ | with_reducible apply And.intro | exact qK rfl | exact qK (by assumption) | (refine ⟨⟨?_,rfl,?_,rfl,?_⟩,trivial⟩ <;> first | (simp;done) | (apply qz;intro _;exact ⟨rfl,rfl⟩)) | trivial | rfl | (rw [qo (by omega)]) | omega)))
  all_goals (simp only [ltP];exact ⟨rfl,by decide,rfl,qD ⟨rfl,rfl⟩ qR⟩)
 refine sD ?_
 refine ⟨fun h5=>?_,fun h5=>?_⟩
 ·refine C1.lend [4096,4104,12300] (sL j) ?_ (by rfl) (by rfl) ?_
  ·all_goals (try simp only [tL,simprocAttr,List.map_append,List.map_cons,List.map_nil,List.cons_append,List.nil_append])
   all_goals (try (repeat' (first | exact zh | (apply zB;intro _;exact ⟨rfl,rfl⟩) | (apply qz;intro _;exact ⟨rfl,rfl⟩) | with_reducible apply qQ | with_reducible refine qD ⟨rfl,rfl⟩ ?_ | exact qR | with_reducible apply qJ | with_reducible refine qW ⟨rfl,rfl,?_⟩ ?_ | with_reducible apply And.intro | exact qK rfl | exact qK (by assumption) | (refine ⟨⟨?_,rfl,?_,rfl,?_⟩,trivial⟩ <;> first | (simp;done) | (apply qz;intro _;exact ⟨rfl,rfl⟩)) | trivial | rfl | (rw [qo (by omega)]) | omega)))
   all_goals (simp only [ltP];exact ⟨rfl,by decide,rfl,qD ⟨rfl,rfl⟩ qR⟩)
  refine sW ?_
  refine C2.im (fun _=>sC i) (fun _=>rfl) (by rfl) ?_
  refine sW ?_
  refine C2.im (fun _=>sC j) (fun _=>rfl) (by rfl) ?_
  refine sW ?_
  refine C2.im (fun _=>sT i j) (fun _=>rfl) (by rfl) ?_
  simp only [tZ,↓un_u,simprocAttr,hwj,tD,beq_iff_eq,beq_eq_false_iff_ne]
  have hq2:∀ h1:jM s k i = true,(jM s k j = true∧qG s k lev i = qG s k lev j)∧zs4 s q k i j = true→A = i∧B = j:=fun h1 h2=>by
   have:=hF.least i j h1 h2.1.1 (by omega) ⟨h2.1.2,h2.2⟩
   have hiA:A = i:=by omega
   have:=j3 hiA.symm
   omega
  refine ⟨by kernel_rfl,fun h6=>?_,fun h6=>?_⟩
  ·obtain ⟨e1,e2⟩:=hq2 h5.2 h6
   rw [e1,e2]
   exact .oA [] []
  ·refine ⟨j + 1,⟨by omega,by omega,fun e=>?_⟩,by omega,?_⟩
   ·have h7:=j3 e
    refine Classical.byContradiction fun hn=>?_
    have hjB:j = B:=by omega
    subst hjB
    subst e
    have:=hF.qb
    have hy:=hF.hy
    have h8:¬ ((jM s k j = true∧qG s k lev i = qG s k lev j)∧zs4 s q k i j = true):=fun h=>by
     rcases h6 with h6 | h6
     ·rcases h6 with h6 | h6
      ·rw [h6] at hy;cases hy
      ·exact h6 h.1.2
     ·rw [h6] at h;cases h.2
    exact h8 ⟨⟨hy,this.1⟩,this.2⟩
   ·exact .oA [(4096,some 4096),(4100,some 4100),(4104,some 4104),(12300,some 12300)] []
 ·rw [hwi]
  have hlt:i + 1≤A:=by
   refine Classical.byContradiction fun hn=>?_
   have hiA:i = A:=by omega
   have h7:=j3 hiA
   have hx:=hF.hx
   rw [hiA] at h5
   rcases h5 with h5 | h5
   ·omega
   ·rw [h5] at hx;cases hx
  refine ⟨i + 1,hlt,by omega,?_⟩
  exact .oA [(4096,some 4096),(4100,some 4100),(4104,some 4104),(12300,some 12300)] []
theorem KC (p:Pk) (k:Int):Spc Tryz.prog zR [pkT p,.ip [vI k]] [] (vB (p.col == k)) []:=by
 refine qd Jx mixm (by simp) fun e _ hst=>qk ?_
 unfold jF
 refine sW ?_
 exact .oA [] []
theorem JS {f:Nat→Int} {n:Nat} {p:Pk} (h:p∈canF f n):0 < p.lev∧p.lev = f p.col.toNat∧0≤p.col∧p.col < n:=by
 obtain ⟨k,k1,k2,rfl⟩:=yO.1 h
 exact ⟨k2,rfl,by dsimp only;omega,by dsimp only;omega⟩
theorem zt5 {s:Sch} {q:Qst} (h:qstE s q = 0) {k:Nat} (hk:k < s.cols.length) {lev:Int} (hl:0 < lev):(kI s q).any (fun p=>eqPk p ⟨k,lev⟩) = true↔mxl (kI s q) k = lev:=by
 rw [qJ3 h hk,Zf h,List.any_eq_true]
 constructor
 ·rintro ⟨p,hp,e⟩
  rw [qg0] at e
  subst e
  have:=(JS hp).2.1
  rw [Int.toNat_natCast] at this
  exact this.symm
 ·intro e
  exact ⟨⟨k,lev⟩,yO.2 ⟨k,hk,by omega,by rw [e]⟩,qg0.2 rfl⟩
end Go.Proofs
namespace Go.Proofs
open Go Go.TL
set_option maxRecDepth 4000
set_option maxHeartbeats 8000000
theorem Wp (l:List Pk) (p:Pk) (hl:l.length < 4611686018427387904):Spc Tryz.prog kv [vPs l,pkT p] [] (vI (idxI (fun y=>eqPk p y) l)) []:=by
 refine qd Kl mixm (by simp) fun e _ hst=>qk ?_
 unfold jY
 refine sW ?_
 refine qw mixm (α:=Nat) [8] (fun i=>i≤l.length∧((l.take i).any (fun y=>eqPk p y) = false)) (fun i=>[(8,vI i)]) (fun i=>[(4096,.arr 2 [pkT p] false)]) (fun i=>l.length - i) 0 ⟨by omega,?_⟩ ?_ fun i hi=>?_
 ·rfl
 ·exact .oA [(4096,some 4096)] []
 simp only [tZ,↓un_u,simprocAttr,decide_eq_true_eq,decide_eq_false_iff_not]
 refine ⟨fun h=>?_,fun h=>?_⟩
 ·have hi2:i < l.length:=by omega
  have hwi:=qo (i:=i) (by omega)
  simp only [tZ,↓un_u,simprocAttr,Int.toNat_natCast,qe hi2,hwi]
  refine ⟨by omega,?_⟩
  repeat (first | refine ⟨by omega,?_⟩ | refine ⟨by kernel_rfl,?_⟩)
  have e:(p.col == l[i].col && p.lev == l[i].lev) = eqPk p l[i]:=rfl
  rw [e]
  refine ⟨fun h3=>?_,fun h3=>⟨i + 1,⟨by omega,wY hi2 hi.2 h3⟩,by omega,?_⟩⟩
  ·rw [idxI,if_pos (WF hi2 h3),wA hi2 hi.2 h3]
   exact .oA [] []
  ·exact .oA [(4096,some 4096)] []
 ·have h2:i = l.length:=by omega
  have h3:=hi.2
  rw [h2,List.take_length] at h3
  rw [idxI,if_neg (by rw [h3];simp)]
  exact .oA [] []
theorem Jh (l:List Pk) (p:Pk) (hl:l.length < 4611686018427387904):Spc Tryz.prog ju [vPs l,pkT p] [] (vB (l.any fun y=>eqPk p y)) []:=by
 refine qd Zu mixm (by simp) fun e _ hst=>qk ?_
 unfold jl
 refine sW ?_
 refine C1.im (Wp l p hl) (by rfl) (by rfl) ?_
 refine sW ?_
 rw [show decide (idxI (fun y=>eqPk p y) l≥0) = l.any (fun y=>eqPk p y) from KT _ l]
 exact .oA [] []
theorem zt6 (x y:Pk):eqPk x y = eqPk y x:=by
 rw [Bool.eq_iff_iff,qg0,qg0];exact ⟨fun h=>h.symm,fun h=>h.symm⟩
theorem qN4 {α:Type} {p:α→Bool} {l:List α} (h:l.any p = true):∃ (i:Nat) (hi:i < l.length),idxI p l = i∧p l[i] = true:=by
 obtain ⟨x,hx,hp⟩:=List.any_eq_true.1 h
 have hlt:=List.findIdx_lt_length_of_exists ⟨x,hx,hp⟩
 exact ⟨l.findIdx p,hlt,by rw [idxI,if_pos h],List.findIdx_getElem⟩
abbrev witT (w:Int×Int×Int×Bool):T:=.tup [vI w.1,vI w.2.1,vI w.2.2.1,vB w.2.2.2]
theorem Yx (s:Sch) (hs:Jc s) (d:Dcl) (col:Int) (w:Int×Int×Int×Bool) (hW:WitR s d col w)
 (hM:∀ (q:Qst) (k:Nat) (lev a b:Int),QstOk s q→0 < k→k < s.cols.length→(qh s k).kind≠2→0≤lev→lev≤finI s k→zt2 s q k lev a b→Spc Tryz.prog kh [schT s,qstT q,vI k,vI lev] [] (.tup [vI a,vI b]) []):Spc Tryz.prog kO [schT s,dclT d,vI col] [] (witT w) []:=by
 have sP:=JR s hs d
 have hpl:=qI0 s d
 have sI:=wv (fun p=>p.col == col) zR [.ip [vI col]] rfl (jA s d) (fun p _=>KC p col) (by omega)
 have hge:=KT (fun p:Pk=>p.col == col) (jA s d)
 have hany:((jA s d).any fun p=>p.col == col) = true→dclE s d = 0→0 < mxl (jA s d) col:=fun h hd=>by
  obtain ⟨p,hp,e⟩:=List.any_eq_true.1 h
  rw [beq_iff_eq] at e
  have h1:=zt0 hp
  rw [Zh hd] at hp
  have:=(JS hp).1
  rw [e] at h1;omega
 refine qd KX mixm (by simp) fun e _ hst=>qk ?_
 unfold kB
 refine sW ?_
 refine C1.im sP (by rfl) (by rfl) ?_
 refine sW ?_
 refine C1.lend [4104] sI ?_ (by rfl) (by rfl) ?_
 ·all_goals (try simp only [tL,simprocAttr,List.map_append,List.map_cons,List.map_nil,List.cons_append,List.nil_append])
  all_goals (try (repeat' (first | exact zh | (apply zB;intro _;exact ⟨rfl,rfl⟩) | (apply qz;intro _;exact ⟨rfl,rfl⟩) | with_reducible apply qQ | with_reducible refine qD ⟨rfl,rfl⟩ ?_ | exact qR | with_reducible apply qJ | with_reducible refine qW ⟨rfl,rfl,?_⟩ ?_ | with_reducible apply And.intro | exact qK rfl | exact qK (by assumption) | (refine ⟨⟨?_,rfl,?_,rfl,?_⟩,trivial⟩ <;> first | (simp;done) | (apply qz;intro _;exact ⟨rfl,rfl⟩)) | trivial | rfl | (rw [qo (by omega)]) | omega)))
  all_goals (simp only [ltP];exact ⟨rfl,by decide,rfl,qD ⟨rfl,rfl⟩ qR⟩)
 simp only [tZ,↓un_u,simprocAttr,tD,bne_iff_ne,bne_eq_false_iff_eq]
 refine ⟨fun h=>?_,fun h=>?_⟩
 ·have hw:w = (0,0,0,false):=by
   rcases hW with ⟨_,hw⟩ | ⟨hd,k,n,a,b,e1,e2,e3,e4,_,_,_,_,_⟩
   ·exact hw
   ·exfalso
    rcases h with h | h
    ·exact h hd
    ·obtain ⟨p,hp,e⟩:=zS4 e4
     have:((jA s d).any fun p=>p.col == col) = true:=List.any_eq_true.2 ⟨p,hp,by rw [beq_iff_eq,e1];exact e⟩
     rw [this,decide_eq_true_eq] at hge
     omega
  rw [hw]
  exact .oA [] []
 obtain ⟨hd,hi0⟩:=h
 have hA:((jA s d).any fun p=>p.col == col) = true:=by rw [← hge,decide_eq_true_eq];omega
 rcases hW with ⟨hno,_⟩ | ⟨_,k,n,a,b,rfl,hk0,hk,hm,hn,hnq,hnm,hP,rfl⟩
 ·exact absurd ⟨hd,hany hA hd⟩ hno
 obtain ⟨i,hi,hidx,hic⟩:=qN4 hA
 rw [hidx]
 rw [beq_iff_eq] at hic
 obtain ⟨_,_,_,_,_,hq1,hq2,hqs⟩:=ql9 hd
 have hkey:∀ p∈jA s d,p.col = k→p.lev = mxl (jA s d) k:=fun p hp e=>by
  rw [zt3 hd hk]
  have h2:=hp
  rw [Zh hd] at h2
  have:=(JS h2).2.1
  rw [e,Int.toNat_natCast] at this
  exact this
 have hlev:=hkey _ (List.getElem_mem hi) hic
 have hfin:mxl (jA s d) k≤finI s k:=by
  rw [← hnq,qJ3 (hqs n hn) hk]
  have hqk:=Wk (hqs n hn)
  exact zI4 (qn1 hqk.sch hk0 hk) fun p hp e=>by rw [← e];exact zs9 hqk p hp
 have hat:qh s k = s.cols[k]:=by rw [qh,qr hk]
 have hE:=(ql9 hd).1
 have hf59:=Wi (c:=k) hE
 have hgi:((jA s d).map pkT).getD i .junk = pkT (jA s d)[i]:=qe hi
 have hpi:(jA s d)[i] = ⟨k,mxl (jA s d) k⟩:=by
  rw [← hlev]
  cases h:(jA s d)[i] with
  | mk c v=>rw [h] at hic;dsimp only at hic;rw [hic]
 rw [hpi] at hgi
 have hw1:IntKind.i64.wrap (mxl (jA s d) k - 1) = mxl (jA s d) k - 1:=IntWalk.i64_in _ (by omega)
 generalize hlp:mxl (jA s d) k = lev at hm hnq hnm hP hlev hfin hgi hw1
 generalize hLL:jA s d = L at hi hgi hlp hpl
 refine qw mixm (α:=Nat) [37] (fun j=>j≤n) (fun j=>[(37,vI j)]) (fun j=>[(4096,.arr 2 [schT s] false),(4104,.arr 1 [vI k] false)]) (fun j=>n - j) 0 (by omega) ?_ fun j hj=>?_
 ·exact .oA [(4096,some 4096),(4104,some 4104)] []
 refine sD ?_
 refine ⟨fun h3=>?_,fun h3=>by omega⟩
 have hj2:j < d.qs.length:=by omega
 have hwj:=qo (i:=j) (by omega)
 have hqj:qAt d.qs j = d.qs[j]:=by rw [qAt,qr hj2]
 have hqe:=hqs j hj2
 rw [hqj] at hqe
 have sN:=Zg s hs d.qs[j]
 have hnl:=qm6 s d.qs[j]
 have sC:=Jh (kI s d.qs[j]) ⟨k,lev⟩ (by omega)
 have hhas:=zt5 hqe hk hm
 rw [show (fun p=>eqPk p (⟨k,lev⟩:Pk)) = fun p=>eqPk ⟨k,lev⟩ p from funext fun p=>zt6 _ _] at hhas
 simp only [tZ,↓un_u,simprocAttr,Int.toNat_natCast,qe hj2]
 refine ⟨by omega,?_⟩
 refine C1.im sN (by rfl) (by rfl) ?_
 simp only [tZ,↓un_u,simprocAttr,Int.toNat_natCast,hgi]
 refine ⟨by omega,?_⟩
 refine C1.im sC (by rfl) (by rfl) ?_
 simp only [tZ,↓un_u,simprocAttr,Bool.not_eq_true',Bool.not_eq_false',hwj]
 refine ⟨by kernel_rfl,fun h4=>?_,fun h4=>?_⟩
 ·have hne:j≠n:=fun e=>by
   subst e
   rw [hqj] at hnq
   rw [hhas.2 hnq] at h4
   cases h4
  refine ⟨j + 1,by omega,by omega,?_⟩
  exact .oA [(4096,some 4096),(4104,some 4104)] []
 have hjn:j = n:=by
  refine Classical.byContradiction fun hne=>hnm j (by omega) ?_
  rw [hqj]
  exact hhas.1 h4
 subst hjn
 rw [hqj] at hP
 have hqk:=Wk hqe
 unfold zt2 at hP
 have hMM:=hM d.qs[j] k (lev - 1) a b hqk hk0 hk
 have hCC:=Jg s d.qs[j] hqk k hk hk0
 unfold zt2 at hMM
 rw [hat] at hP hMM hCC
 simp only [tZ,↓un_u,simprocAttr,Int.toNat_natCast,qe hk,beq_iff_eq,beq_eq_false_iff_ne]
 refine ⟨by omega,fun h5=>?_,fun h5=>?_⟩
 ·rw [if_pos h5] at hP
  simp only [tZ,↓un_u,simprocAttr,hw1,hgi]
  refine ⟨by omega,?_⟩
  refine C1.im (hCC h5 (lev - 1) a b hP) (by rfl) (by rfl) ?_
  refine sW ?_
  repeat (first | refine ⟨by omega,?_⟩ | refine ⟨by kernel_rfl,?_⟩)
  exact .oA [] []
 ·have hMM:=hMM h5 (by omega) (by omega) hP
  simp only [tZ,↓un_u,simprocAttr,hw1,hgi]
  refine ⟨by omega,?_⟩
  refine C1.im hMM (by rfl) (by rfl) ?_
  refine sW ?_
  repeat (first | refine ⟨by omega,?_⟩ | refine ⟨by kernel_rfl,?_⟩)
  exact .oA [] []
end Go.Proofs
namespace Go.Proofs
open Go Go.TL
set_option maxRecDepth 4000
set_option maxHeartbeats 8000000
def zC0:CodL:=⟨⟨#[108]⟩,[⟨⟨#[97]⟩,-1⟩,⟨⟨#[98]⟩,0⟩,⟨⟨#[99]⟩,0⟩]⟩
def KD:Sch:=⟨[zC0],[⟨⟨#[119,104,111]⟩,1,0,0,0,[],false⟩,⟨⟨#[115,101,120]⟩,2,0,0,0,[],false⟩]⟩
def zC1:Qst:=⟨⟨#[113]⟩,1,.mk 1 0 0 0 0 [],[⟨1,1⟩],-1,[],cnd0⟩
def qn3:Dcl:=⟨⟨#[112]⟩,⟨#[115]⟩,.mk 1 0 0 0 0 [],⟨1,1,0⟩,[zC1]⟩
theorem qy5:Jc KD:=⟨by decide,by decide,by decide⟩
theorem zS5:WitR KD qn3 1 (1,2,0,true):=by
 have hE:schE KD = 0:=by kernel_rfl
 have hok:=zq hE
 have hlv:qE KD 1 = [1,2]:=by kernel_rfl
 have h2:(qh KD 1).kind = 2:=rfl
 have hh:∀ v,jM KD 1 v = true→v = 1∨v = 2:=fun v hv=>by
  have:=(qn2 hok (i:=1) (by decide) h2).1 hv
  rw [hlv] at this
  simpa using this
 have hm:mxl (jA KD qn3) (1:Nat) = 1:=by kernel_rfl
 refine .inr ⟨by kernel_rfl,1,0,1,2,rfl,by decide,by decide,by rw [hm];decide,by decide,?_,fun m h=>by omega,?_,rfl⟩
 ·rw [hm];kernel_rfl
 ·rw [hm]
  unfold zt2
  rw [if_pos h2]
  refine ⟨by kernel_rfl,by kernel_rfl,by decide,⟨by kernel_rfl,by kernel_rfl⟩,fun x y hx hy hxy _=>?_⟩
  rcases hh x hx with e | e <;> rcases hh y hy with e2 | e2 <;> omega
theorem Yy:Spc Tryz.prog yG [] [] (vB true) []:=by
 have hP:=JR KD qy5 qn3
 rw [show jA KD qn3 = [⟨1,1⟩] by kernel_rfl,show dclE KD qn3 = 0 by kernel_rfl] at hP
 have hW:=Yx KD qy5 qn3 1 _ zS5 fun q k lev a b _ h1 h2 h3 _ _ _=>by
  have:k = 1:=by
   have:k < 2:=h2
   omega
  subst this
  exact absurd rfl h3
 have hS:=qa2 [⟨1,1⟩] [⟨1,1⟩] (by decide)
 rw [show ql5 [⟨1,1⟩] [⟨1,1⟩] = true by kernel_rfl] at hS
 have hC:=qf2 KD qy5 qn3 [] (by decide)
 rw [show qH5 KD qn3 [] = 23 by kernel_rfl] at hC
 have hI:=jf [⟨1,1⟩] [⟨1,1⟩] (by decide) (by decide)
 rw [show covB [⟨1,1⟩] [⟨1,1⟩] = true by kernel_rfl] at hI
 refine qd qo1 mixm (by simp) fun e _ hst=>qk ?_
 unfold QD
 refine sW ?_
 refine C1.shutD [8204,8212,8224,16400,16408] hP ?_ (by rfl) rfl ?_
 ·simp [ptw,ltAD,ltD,TL.get,T.cells,imT,imL,KD,zC1,zC0,qn3]
  all_goals (try (repeat' apply And.intro))
  all_goals (try rfl)
 refine sW ?_
 refine C1.lendD [8204,8212,8224,16400,16408] hW ?_ (by rfl) (by rfl) ?_
 ·simp [ptw,ltAD,ltD,TL.get,T.cells,imT,imL,KD,zC1,zC0,qn3]
  all_goals (try (repeat' apply And.intro))
  all_goals (try rfl)
 refine sW ?_
 refine C2.lendD [28692] (fun _=>hS) (fun _=>?_) (by rfl) (by rfl) ?_
 ·simp [ptw,ltAD,ltD,TL.get,T.cells,imT,imL]
  all_goals (try (repeat' apply And.intro))
  all_goals (try rfl)
 refine sW ?_
 refine C2.lendD [8204,8212,8224,16400,16408] (fun _=>hC) (fun _=>?_) (by rfl) (by rfl) ?_
 ·simp [ptw,ltAD,ltD,TL.get,T.cells,imT,imL,KD,zC1,zC0,qn3]
  all_goals (try (repeat' apply And.intro))
  all_goals (try rfl)
 refine sW ?_
 refine C2.im (fun _=>hI) (fun _=>rfl) (by rfl) ?_
 refine sW ?_
 exact .oA [] []
end Go.Proofs
namespace Go.Proofs
open Go Go.TL
set_option maxRecDepth 4000
set_option maxHeartbeats 8000000
def cvG (x y:Pk):Bool:=(x.col == y.col) && decide (x.lev≤y.lev)
theorem zC2 (a b:List Pk):covB a b = a.all fun x=>b.any fun y=>cvG x y:=by
 unfold covB
 congr 1
 funext x
 congr 1
 funext y
 unfold cvG
 rw [show (y.col == x.col) = (x.col == y.col) from by rw [Bool.eq_iff_iff,beq_iff_eq,beq_iff_eq];exact eq_comm]
theorem zt7 {α:Type} {l:List α} {p:α→Bool} {i:Nat} (h:i < l.length):(l.take (i + 1)).any p = ((l.take i).any p || p l[i]):=by
 rw [qS h,List.any_append];simp
theorem zt8 {α:Type} {l:List α} {p:α→Bool} {i:Nat} (h:i < l.length):(l.take (i + 1)).all p = ((l.take i).all p && p l[i]):=by
 rw [qS h,List.all_append];simp
theorem Ji (a b:List Pk):Spc Tryz.prog wx [vPs a,vPs b] [] (vB true) []:=by
 refine qd Zs mixm (by simp) fun e _ hst=>qk ?_
 unfold jk
 simp only [tZ,↓un_u,simprocAttr,tD,gt_iff_lt]
 refine ⟨fun h=>?_,fun h=>?_⟩
 ·refine C1.im Yy (by rfl) (by rfl) ?_
  refine sW ?_
  exact .oA [] []
 have hw1:=jf a b (by omega) (by omega)
 have hw2:=jf a (b ++ a) (by omega) (by rw [List.length_append];omega)
 have hw3:=jf [] b (by decide) (by omega)
 have hw4:=qp6 a a (by omega) (by omega)
 have hc2:covB a (b ++ a) = true:=Yw.2 fun x hx=>⟨x,List.mem_append_right _ hx,rfl,Int.le_refl _⟩
 have hc3:covB [] b = true:=rfl
 have hc4:covB a a = true:=Yw.2 fun x hx=>⟨x,hx,rfl,Int.le_refl _⟩
 rw [hc2] at hw2
 rw [hc3] at hw3
 rw [hc4] at hw4
 refine qw mixm (α:=Nat) [5,22] (fun i=>i≤a.length) (fun i=>[(5,vB ((a.take i).all fun x=>b.any fun y=>cvG x y)),(22,vI i)]) (fun i=>[]) (fun i=>a.length - i) 0 (by omega) ?_ fun i hi=>?_
 ·exact .oA [] []
 refine sD ?_
 refine ⟨fun h5=>?_,fun h5=>?_⟩
 ·have hi2:i < a.length:=by omega
  have hwi:=qo (i:=i) (by omega)
  have he:((a.take i).all (fun x=>b.any fun y=>cvG x y) && b.any (fun y=>cvG a[i] y)) = (a.take (i + 1)).all (fun x=>b.any fun y=>cvG x y):=(zt8 hi2).symm
  simp only [tZ,↓un_u,simprocAttr,Int.toNat_natCast,qe hi2]
  refine ⟨by omega,?_⟩
  generalize a[i] = x at he ⊢
  refine qw mixm (α:=Nat) [8,28] (fun k=>k≤b.length) (fun k=>[(8,vB ((b.take k).any fun y=>cvG x y)),(28,vI k)]) (fun k=>[(28680,.arr 2 [pkT x] false)]) (fun k=>b.length - k) 0 (by omega) ?_ fun k hk=>?_
  ·exact .oA [(28680,some 28680)] []
  refine sD ?_
  refine ⟨fun h6=>?_,fun h6=>?_⟩
  ·have hk2:k < b.length:=by omega
   have hwk:=qo (i:=k) (by omega)
   have he:((b.take k).any (fun y=>cvG x y) || ((x.col == b[k].col) && decide (x.lev≤b[k].lev))) = (b.take (k + 1)).any (fun y=>cvG x y):=(zt7 hk2).symm
   simp only [tZ,↓un_u,simprocAttr,Int.toNat_natCast,qe hk2,hwk]
   refine ⟨by omega,?_⟩
   rw [he]
   refine ⟨k + 1,by omega,by omega,?_⟩
   exact .oA [(28680,some 28680)] []
  ·have:k = b.length:=by omega
   subst this
   rw [List.take_length]
   simp only [tZ,↓un_u,simprocAttr,hwi]
   rw [he]
   refine ⟨i + 1,by omega,by omega,?_⟩
   exact .oA [] []
 ·have:i = a.length:=by omega
  subst this
  rw [List.take_length,← zC2]
  refine C1.im hw1 (by rfl) (by rfl) ?_
  refine sW ?_
  refine ⟨by omega,by omega,?_⟩
  rw [← List.map_append,← List.length_append]
  refine C2.lend [65568] (fun _=>hw2) (fun _=>?_) (by rfl) (by rfl) ?_
  ·all_goals (try exact clA)
  refine sW ?_
  refine C2.lend [] (fun _=>hw3) (fun _=>?_) (by rfl) (by rfl) ?_
  ·all_goals (try exact clA)
  refine sW ?_
  refine C2.im (fun _=>hw4) (fun _=>rfl) (by rfl) ?_
  refine sW ?_
  refine C2.im (fun _=>Yy) (fun _=>rfl) (by rfl) ?_
  refine sW ?_
  exact .oA [] []
end Go.Proofs
