import Derived.Test.YtgdfndldfmjfhaaDoorD29
set_option linter.unusedSimpArgs false
set_option linter.unusedVariables false
namespace Go.Proofs
open Go Go.TL
def spTab:List (List Int):=[[2],[3],[2,2],[2,3],[4],[2,2,2],[3,2],[6],[1,3]]
def spA (cs:List UInt8) (a:Nat):Nat×List Int:=((nx cs a 9).2,spTab.getD (nx cs a 9).1.toNat [])
theorem spTab_ok:∀ s∈spTab,SpOk s:=by
 intro s hs
 refine chkS_ok.1 ?_
 simp only [spTab,List.mem_cons,List.not_mem_nil,or_false] at hs
 rcases hs with rfl | rfl | rfl | rfl | rfl | rfl | rfl | rfl | rfl <;> rfl
theorem spA_ok (cs:List UInt8) (a:Nat):SpOk (spA cs a).2:=by
 have h:=nx_range cs a 9 (by omega)
 have h2:(nx cs a 9).1.toNat < spTab.length:=by
  show _ < 9
  omega
 unfold spA
 simp only
 rw [getD_get h2]
 exact spTab_ok _ (List.getElem_mem h2)
theorem spA_le {cs:List UInt8} {a:Nat} (h:a≤cs.length):(spA cs a).1≤cs.length:=nx_le cs a 9 h
def drN (cs:List UInt8) (k:Int):Nat→Nat×List Int→Nat×List Int
 | 0,x=>x
 | n + 1,x=>drN cs k n ((nx cs x.1 k).2,x.2 ++ [(nx cs x.1 k).1])
theorem drN_ok {cs:List UInt8} {k:Int} (hk:1≤k):∀ {n:Nat} {x:Nat×List Int},x.1≤cs.length→(∀ y∈x.2,0≤y∧y < k)→(drN cs k n x).1≤cs.length∧(drN cs k n x).2.length = x.2.length + n∧∀ y∈(drN cs k n x).2,0≤y∧y < k
 | 0,x,h,hy=>⟨h,rfl,hy⟩
 | n + 1,x,h,hy=>by
   have hr:=nx_range cs x.1 k hk
   obtain ⟨h1,h2,h3⟩:=drN_ok (n:=n) (x:=((nx cs x.1 k).2,x.2 ++ [(nx cs x.1 k).1])) hk (nx_le cs x.1 k h) (by
    intro y hm
    rcases List.mem_append.1 hm with hm | hm
    ·exact hy y hm
    ·simp only [List.mem_cons,List.not_mem_nil,or_false] at hm
     rw [hm];exact hr)
   refine ⟨h1,?_,h3⟩
   rw [drN,h2]
   simp
   omega
def gvStep (cs:List UInt8) (x:Nat×Int×List Int):Nat×Int×List Int:=
 let d:=nx cs x.1 (x.2.1 + 2)
 let e:=nx cs d.2 8
 let g:=if e.1 = 7∧0 < x.2.2.length then -1 else if d.1 > x.2.1 then x.2.1 else d.1
 (e.2,if g = x.2.1 then x.2.1 + 1 else x.2.1,x.2.2 ++ [g])
def gvLoop (cs:List UInt8):Nat→Nat×Int×List Int→Nat×Int×List Int
 | 0,x=>x
 | n + 1,x=>gvLoop cs n (gvStep cs x)
def gvA (cs:List UInt8) (a:Nat) (n:Nat):Nat×List Int:=((gvLoop cs n (a,0,[])).1,(gvLoop cs n (a,0,[])).2.2)
structure GvOk (cs:List UInt8) (x:Nat×Int×List Int):Prop where
 le:x.1≤cs.length
 nb:nbF x.2.2 = some x.2.1
 next:0≤x.2.1∧x.2.1≤x.2.2.length
 pos:x.2.2≠[]→0 < x.2.1
theorem nbF_append (l:List Int) (g:Int):nbF (l ++ [g]) = nbStep (nbF l) g:=by
 unfold nbF
 rw [List.foldl_append]
 rfl
theorem gvStep_ok {cs:List UInt8} {x:Nat×Int×List Int} (h:GvOk cs x):GvOk cs (gvStep cs x)∧(gvStep cs x).2.2.length = x.2.2.length + 1:=by
 obtain ⟨h1,h2,h3,h4⟩:=h
 obtain ⟨a,n,l⟩:=x
 dsimp only at h1 h2 h3 h4
 have r1:=nx_range cs a (n + 2) (by omega)
 have l1:=nx_le cs a (n + 2) h1
 have l2:=nx_le cs (nx cs a (n + 2)).2 8 l1
 unfold gvStep
 simp only
 generalize nx cs (nx cs a (n + 2)).2 8 = e at *
 generalize nx cs a (n + 2) = d at *
 obtain ⟨g,hg⟩:∃ g,g = (if e.1 = 7∧0 < l.length then -1 else if d.1 > n then n else d.1):=⟨_,rfl⟩
 rw [← hg]
 have hgr : -1≤g∧g≤n:=by
  rw [hg]
  split
  ·omega
  ·split <;> omega
 have hg0:l = []→g = 0∧n = 0:=by
  intro hl
  subst hl
  have hn:n = 0:=by
   simp only [List.length_nil] at h3
   omega
  subst hn
  rw [hg,if_neg (by simp)]
  refine ⟨?_,rfl⟩
  split <;> omega
 refine ⟨⟨l2,?_,?_,?_⟩,by simp⟩
 ·rw [nbF_append,h2]
  simp only [nbStep]
  rw [if_neg (by omega)]
 ·simp only [List.length_append,List.length_cons,List.length_nil]
  split <;> omega
 ·intro _
  simp only
  by_cases hl:l = []
  ·obtain ⟨q1,q2⟩:=hg0 hl
   rw [if_pos (by omega)]
   omega
  ·have:=h4 hl
   split <;> omega
theorem gvLoop_ok {cs:List UInt8}:∀ {n:Nat} {x:Nat×Int×List Int},GvOk cs x→GvOk cs (gvLoop cs n x)∧(gvLoop cs n x).2.2.length = x.2.2.length + n
 | 0,x,h=>⟨h,rfl⟩
 | n + 1,x,h=>by
   obtain ⟨h1,h2⟩:=gvStep_ok h
   obtain ⟨h3,h4⟩:=gvLoop_ok (n:=n) h1
   exact ⟨h3,by rw [gvLoop,h4,h2];omega⟩
theorem gvA_ok {cs:List UInt8} {a:Nat} (h:a≤cs.length) {n:Nat} (hn:0 < n):(gvA cs a n).1≤cs.length∧(gvA cs a n).2.length = n∧okG n (gvA cs a n).2 = true:=by
 obtain ⟨h1,h2⟩:=gvLoop_ok (cs:=cs) (n:=n) (x:=(a,0,[])) ⟨h,rfl,by simp,by simp⟩
 simp only [List.length_nil,Nat.zero_add] at h2
 refine ⟨h1.le,h2,?_⟩
 unfold okG gvA
 simp only [h2,beq_self_eq_true,Bool.true_and,h1.nb,decide_eq_true_eq]
 refine h1.pos fun e=>?_
 rw [e] at h2
 simp at h2
 omega
def vwStep (cs:List UInt8) (x:Nat×List (List Int)) (k:Int):Nat×List (List Int):=((gvA cs x.1 k.toNat).1,x.2 ++ [(gvA cs x.1 k.toNat).2])
def vwA (cs:List UInt8) (a:Nat) (sz:List Int):Nat×List (List Int):=sz.foldl (vwStep cs) (a,[])
theorem vw_snoc {cs:List UInt8} {a:Nat} {sz:List Int} {i:Nat} (h:i < sz.length):vwA cs a (sz.take (i + 1)) = vwStep cs (vwA cs a (sz.take i)) sz[i]:=by
 unfold vwA
 rw [take_snoc h,List.foldl_append]
 rfl
theorem vwA_ok {cs:List UInt8} {a:Nat} {sz:List Int} (h:a≤cs.length) (hs:SpOk sz):∀ i,i≤sz.length→(vwA cs a (sz.take i)).1≤cs.length∧(vwA cs a (sz.take i)).2.length = i∧okGs (sz.take i) (vwA cs a (sz.take i)).2 = true
 | 0,_=>⟨h,rfl,rfl⟩
 | i + 1,hi=>by
   have hlt:i < sz.length:=by omega
   obtain ⟨h1,h2,h3⟩:=vwA_ok h hs i (by omega)
   have hk:=hs.get hlt
   obtain ⟨g1,g2,g3⟩:=gvA_ok h1 (n:=sz[i].toNat) (by omega)
   rw [vw_snoc hlt]
   refine ⟨g1,by simp [vwStep,h2],?_⟩
   rw [take_snoc hlt]
   unfold vwStep
   rw [okGs_append (by rw [h2];simp;omega),h3]
   simp only [okGs,Bool.true_and,Bool.and_true]
   rwa [show ((sz[i].toNat:Nat):Int) = sz[i] by omega] at g3
theorem vwA_all {cs:List UInt8} {a:Nat} {sz:List Int} (h:a≤cs.length) (hs:SpOk sz):(vwA cs a sz).1≤cs.length∧VwOk sz (vwA cs a sz).2:=by
 have:=vwA_ok h hs sz.length (Nat.le_refl _)
 rw [List.take_length] at this
 exact ⟨this.1,hs,this.2.1,this.2.2⟩
def pubsN (sz:List Int) (gs:List (List Int)) (t:List Int) (n:Nat):List Int:=(cellsL (pubN gs).toNat).map fun k=>pubP sz gs t n k
theorem pubs_len (sz:List Int) (gs:List (List Int)) (t:List Int) (n:Nat):(pubsN sz gs t n).length = (pubN gs).toNat:=by simp [pubsN,cellsL]
theorem pubs_get {sz:List Int} {gs:List (List Int)} {t:List Int} {n k:Nat} (h:k < (pubsN sz gs t n).length):(pubsN sz gs t n)[k] = pubP sz gs t n k:=by
 simp [pubsN,cellsL]
theorem pubs_zero (sz:List Int) (gs:List (List Int)) (t:List Int):pubsN sz gs t 0 = List.replicate (pubN gs).toNat 0:=by
 rw [List.eq_replicate_iff]
 refine ⟨pubs_len ..,fun x hx=>?_⟩
 obtain ⟨k,_,rfl⟩:=List.mem_map.1 hx
 rfl
theorem pubs_left {sz:List Int} {gs:List (List Int)} {t:List Int} {n:Nat} (h:ofS sz gs n = -1):pubsN sz gs t (n + 1) = pubsN sz gs t n:=by
 unfold pubsN
 refine List.map_congr_left fun k hk=>?_
 have:=cells_mem.1 hk
 rw [pub_snoc,if_neg (by omega),Int.add_zero]
theorem pubs_set {sz:List Int} {gs:List (List Int)} {t:List Int} {n j:Nat} (h:ofS sz gs n = j) (hj:j < (pubsN sz gs t n).length):pubsN sz gs t (n + 1) = (pubsN sz gs t n).set j ((pubsN sz gs t n)[j] + t.getD n 0):=by
 refine List.ext_getElem (by rw [List.length_set,pubs_len,pubs_len]) fun k h1 h2=>?_
 rw [pubs_get,pub_snoc,List.getElem_set]
 by_cases e:j = k
 ·subst e
  rw [if_pos h,if_pos rfl,pubs_get]
 ·rw [if_neg (by omega),if_neg e,Int.add_zero,pubs_get]
def pubsA (sz:List Int) (gs:List (List Int)) (t:List Int):List Int×Int:=
 if viewE sz gs≠0 then ([],viewE sz gs) else if (t.length:Int)≠prodI sz then ([],17) else if t.all okV = false then ([],2) else (pubsN sz gs t t.length,0)
theorem sumT_le {t:List Int} {B:Int} (hB:0≤B) (ht:∀ x∈t,0≤x∧x≤B):∀ (cs:List Int),0≤sumT t cs∧sumT t cs≤cs.length * B
 | []=>by simp [sumT]
 | c :: r=>by
   obtain ⟨h1,h2⟩:=sumT_le hB ht r
   have e:sumT t (c :: r) = t.getD c.toNat 0 + sumT t r:=by
    rw [show c :: r = [c] ++ r from rfl,sumT_append,sumT_one]
   have hb:0≤t.getD c.toNat 0∧t.getD c.toNat 0≤B:=by
    by_cases hc:c.toNat < t.length
    ·rw [getD_get hc]
     exact ht _ (List.getElem_mem hc)
    ·rw [List.getD_eq_getElem?_getD,List.getElem?_eq_none (by omega)]
     simp only [Option.getD_none]
     omega
   rw [e,List.length_cons]
   push_cast
   rw [Int.add_mul]
   omega
theorem pubP_le {sz:List Int} {gs:List (List Int)} {t:List Int} {B:Int} (hB:0≤B) (ht:∀ x∈t,0≤x∧x≤B) (n:Nat) (k:Int):0≤pubP sz gs t n k∧pubP sz gs t n k≤n * B:=by
 unfold pubP
 obtain ⟨h1,h2⟩:=sumT_le hB ht ((cellsL n).filter fun c=>ofS sz gs c == k)
 refine ⟨h1,Int.le_trans h2 (Int.mul_le_mul_of_nonneg_right ?_ hB)⟩
 have:=List.length_filter_le (fun c=>ofS sz gs c == k) (cellsL n)
 rw [cells_len] at this
 omega
theorem pubs_mem {sz:List Int} {gs:List (List Int)} {t:List Int} {B:Int} (hB:0≤B) (ht:∀ x∈t,0≤x∧x≤B) {n:Nat}:∀ x∈pubsN sz gs t n,0≤x∧x≤n * B:=by
 intro x hx
 obtain ⟨k,_,rfl⟩:=List.mem_map.1 hx
 exact pubP_le hB ht n k
def hdStep (cs:List UInt8) (x:Nat×List Int) (n:Int):Nat×List Int:=((nx cs x.1 5).2,x.2 ++ [if (nx cs x.1 5).1 = 4 then -1 else n])
def hdA (cs:List UInt8) (a:Nat) (l:List Int):Nat×List Int:=l.foldl (hdStep cs) (a,[])
theorem hd_snoc {cs:List UInt8} {a:Nat} {l:List Int} {i:Nat} (h:i < l.length):hdA cs a (l.take (i + 1)) = hdStep cs (hdA cs a (l.take i)) l[i]:=by
 unfold hdA
 rw [take_snoc h,List.foldl_append]
 rfl
theorem hdA_ok {cs:List UInt8} {a:Nat} {l:List Int} (h:a≤cs.length):∀ i,i≤l.length→(hdA cs a (l.take i)).1≤cs.length∧(hdA cs a (l.take i)).2.length = i∧∀ k (hk:k < (hdA cs a (l.take i)).2.length) (hk2:k < l.length),(hdA cs a (l.take i)).2[k] = -1∨(hdA cs a (l.take i)).2[k] = l[k]
 | 0,_=>⟨h,rfl,by simp [hdA]⟩
 | i + 1,hi=>by
   have hlt:i < l.length:=by omega
   obtain ⟨h1,h2,h3⟩:=hdA_ok (l:=l) h i (by omega)
   rw [hd_snoc hlt]
   refine ⟨nx_le _ _ _ h1,by simp [hdStep,h2],fun k hk hk2=>?_⟩
   unfold hdStep at hk ⊢
   simp only at hk ⊢
   by_cases he:k < (hdA cs a (l.take i)).2.length
   ·rw [List.getElem_append_left he]
    exact h3 k he hk2
   ·have:k = (hdA cs a (l.take i)).2.length:=by
     simp only [List.length_append,List.length_cons,List.length_nil] at hk
     omega
    subst this
    simp only [List.getElem_append_right (Nat.le_refl _),Nat.sub_self,List.getElem_cons_zero]
    split
    ·exact .inl rfl
    ·exact .inr (by simp only [h2])
def rlStep (cs:List UInt8) (sz t:List Int) (x:Nat×List Rls):Nat×List Rls:=
 let v:=vwA cs x.1 sz
 let h:=hdA cs v.1 (pubsN sz v.2 t t.length)
 (h.1,x.2 ++ [⟨x.2.length,v.2,h.2⟩])
def rlLoop (cs:List UInt8) (sz t:List Int):Nat→Nat×List Rls→Nat×List Rls
 | 0,x=>x
 | n + 1,x=>rlLoop cs sz t n (rlStep cs sz t x)
def rlA (cs:List UInt8) (a:Nat) (sz t:List Int) (most:Int):Nat×List Rls:=rlLoop cs sz t (nx cs a (most + 1)).1.toNat ((nx cs a (most + 1)).2,[])
structure RlsOk (cs:List UInt8) (sz t:List Int) (x:Nat×List Rls) (n:Nat):Prop where
 le:x.1≤cs.length
 len:x.2.length = n
 num:∀ i (h:i < x.2.length),x.2[i].num = i
 ok:∀ r∈x.2,(VwOk sz r.gs∧(r.vals.length:Int) = pubN r.gs∧r.vals.all valOk = true)∧sameP sz r.gs t r.vals 0 = true
theorem same_of {sz:List Int} {gs:List (List Int)} {t:List Int}:∀ {vs:List Int} {k:Nat},(∀ i (h:i < vs.length),vs[i] = -1∨vs[i] = pubV sz gs t ((k + i:Nat):Int))→sameP sz gs t vs k = true
 | [],_,_=>rfl
 | n :: r,k,h=>by
   simp only [sameP,Bool.and_eq_true,Bool.or_eq_true,beq_iff_eq]
   refine ⟨?_,same_of (vs:=r) (k:=k + 1) fun i hi=>?_⟩
   ·have:=h 0 (by simp)
    simp only [List.getElem_cons_zero,Nat.add_zero] at this
    rcases this with h | h
    ·exact .inl h
    ·exact .inr h.symm
   ·have:=h (i + 1) (by simpa using hi)
    simp only [List.getElem_cons_succ] at this
    rwa [show k + (i + 1) = k + 1 + i by omega] at this
theorem pubV_eq {sz:List Int} {gs:List (List Int)} {t:List Int} (h:(t.length:Int) = prodI sz) (k:Int):pubV sz gs t k = pubP sz gs t t.length k:=by
 unfold pubV pubP membL
 rw [← h,Int.toNat_natCast]
theorem rlStep_ok {cs:List UInt8} {sz t:List Int} {x:Nat×List Rls} {n:Nat} (hs:SpOk sz) (ht:∀ x∈t,0≤x∧x≤10) (htl:(t.length:Int) = prodI sz) (h:RlsOk cs sz t x n):RlsOk cs sz t (rlStep cs sz t x) (n + 1):=by
 obtain ⟨h1,h2,h3,h4⟩:=h
 obtain ⟨v1,v2⟩:=vwA_all (cs:=cs) h1 hs
 have hp:=pubs_mem (sz:=sz) (gs:=(vwA cs x.1 sz).2) (n:=t.length) (show (0:Int)≤10 by omega) ht
 have hd:=hdA_ok (cs:=cs) (l:=pubsN sz (vwA cs x.1 sz).2 t t.length) v1 _ (Nat.le_refl _)
 rw [List.take_length] at hd
 obtain ⟨d1,d2,d3⟩:=hd
 refine ⟨d1,by simp [rlStep,h2],fun i hi=>?_,fun r hr=>?_⟩
 ·unfold rlStep at hi ⊢
  simp only at hi ⊢
  by_cases he:i < x.2.length
  ·rw [List.getElem_append_left he]
   exact h3 i he
  ·have:i = x.2.length:=by
    simp only [List.length_append,List.length_cons,List.length_nil] at hi
    omega
   subst this
   simp
 ·unfold rlStep at hr
  simp only at hr
  rcases List.mem_append.1 hr with hr | hr
  ·exact h4 r hr
  ·simp only [List.mem_cons,List.not_mem_nil,or_false] at hr
   subst hr
   refine ⟨⟨v2,?_,?_⟩,?_⟩
   ·simp only [d2,pubs_len]
    have:=v2.pub
    omega
   ·rw [List.all_eq_true]
    intro y hy
    have hpr:=hs.prod
    simp only [valOk,okV,Bool.or_eq_true,beq_iff_eq,Bool.and_eq_true,decide_eq_true_eq]
    obtain ⟨i,hi,rfl⟩:=List.getElem_of_mem hy
    rcases d3 i hi (by simp only at hi;omega) with h | h
    ·exact .inl h
    ·have:=hp _ (List.getElem_mem (by simp only at hi;omega):(pubsN sz (vwA cs x.1 sz).2 t t.length)[i]'(by simp only at hi;omega)∈_)
     right
     simp only at h ⊢
     omega
   ·refine same_of fun i hi=>?_
    simp only at hi
    rcases d3 i hi (by omega) with h | h
    ·exact .inl h
    ·right
     simp only
     rw [h,pubs_get,pubV_eq htl,Nat.zero_add]
theorem rlLoop_ok {cs:List UInt8} {sz t:List Int} (hs:SpOk sz) (ht:∀ x∈t,0≤x∧x≤10) (htl:(t.length:Int) = prodI sz):∀ {k:Nat} {x:Nat×List Rls} {n:Nat},RlsOk cs sz t x n→RlsOk cs sz t (rlLoop cs sz t k x) (n + k)
 | 0,_,_,h=>h
 | k + 1,x,n,h=>by
   have:=rlLoop_ok hs ht htl (k:=k) (rlStep_ok hs ht htl h)
   rwa [show n + 1 + k = n + (k + 1) by omega] at this
theorem rlsC_of {cs:List UInt8} {sz t:List Int} {x:Nat×List Rls} {n:Nat} (hs:SpOk sz) (hn:n≤24) (h:RlsOk cs sz t x n):rlsC sz x.2 = 0:=by
 obtain ⟨h1,h2,h3,h4⟩:=h
 have key:∀ i,i≤x.2.length→rlsF sz (x.2.take i) (-1) = 0:=by
  intro i
  induction i with
  | zero=>intro _;simp [rlsF]
  | succ i ih=>
    intro hi
    have hlt:i < x.2.length:=by omega
    rw [rlsF_snoc hlt (ih (by omega))]
    refine rlsE_ok.2 ?_
    obtain ⟨⟨q1,q2,q3⟩,_⟩:=h4 x.2[i] (List.getElem_mem hlt)
    have hnum:=h3 i hlt
    refine ⟨?_,q1,q2,q3⟩
    rw [hnum]
    by_cases hi0:i = 0
    ·rw [if_pos hi0];omega
    ·rw [if_neg hi0,getD_get (by omega),h3 (i - 1) (by omega)]
     omega
 unfold rlsC
 rw [if_neg (fun h=>h (chkS_ok.2 hs)),if_neg (by omega)]
 have:=key x.2.length (Nat.le_refl _)
 rwa [List.take_length] at this
def toldA (cs:List UInt8) (a:Nat) (most rel:Int):Nat×List Int×List Int×List Rls:=
 let s:=spA cs a
 let t:=drN cs (most + 1) (prodI s.2).toNat (s.1,[])
 let r:=rlA cs t.1 s.2 t.2 rel
 (r.1,s.2,t.2,r.2)
structure ToldOk (cs:List UInt8) (x:Nat×List Int×List Int×List Rls) (most:Int):Prop where
 le:x.1≤cs.length
 sp:SpOk x.2.1
 len:(x.2.2.1.length:Int) = prodI x.2.1
 tab:∀ y∈x.2.2.1,0≤y∧y≤most
 rls:rlsC x.2.1 x.2.2.2 = 0
 cnt:x.2.2.2.length≤24
 same:∀ r∈x.2.2.2,sameP x.2.1 r.gs x.2.2.1 r.vals 0 = true
theorem toldA_ok {cs:List UInt8} {a:Nat} {most rel:Int} (h:a≤cs.length) (hm:0≤most∧most≤10) (hr:0≤rel∧rel≤24):ToldOk cs (toldA cs a most rel) most:=by
 have hs:=spA_ok cs a
 have h1:=spA_le h
 obtain ⟨t1,t2,t3⟩:=drN_ok (cs:=cs) (k:=most + 1) (by omega) (n:=(prodI (spA cs a).2).toNat) (x:=((spA cs a).1,[])) h1 (by simp)
 simp only [List.length_nil,Nat.zero_add] at t2
 have hp:=hs.prod
 have htl:((drN cs (most + 1) (prodI (spA cs a).2).toNat ((spA cs a).1,[])).2.length:Int) = prodI (spA cs a).2:=by omega
 have hl:=nx_le cs (drN cs (most + 1) (prodI (spA cs a).2).toNat ((spA cs a).1,[])).1 (rel + 1) t1
 have hn:=nx_range cs (drN cs (most + 1) (prodI (spA cs a).2).toNat ((spA cs a).1,[])).1 (rel + 1) (by omega)
 have hR:=rlLoop_ok (cs:=cs) hs (t:=(drN cs (most + 1) (prodI (spA cs a).2).toNat ((spA cs a).1,[])).2) (fun y hy=>by have:=t3 y hy;omega) htl (k:=(nx cs (drN cs (most + 1) (prodI (spA cs a).2).toNat ((spA cs a).1,[])).1 (rel + 1)).1.toNat) (x:=((nx cs (drN cs (most + 1) (prodI (spA cs a).2).toNat ((spA cs a).1,[])).1 (rel + 1)).2,[])) (n:=0) ⟨hl,rfl,fun i hi=>by simp at hi,by simp⟩
 exact ⟨hR.le,hs,htl,fun y hy=>by have:=t3 y hy;omega,rlsC_of hs (by omega) hR,by have:=hR.len;unfold toldA rlA;simp only;omega,fun r hr=>(hR.ok r hr).2⟩
theorem agrees_append (a b:List Eqn) (t:List Int):agrees (a ++ b) t = (agrees a t && agrees b t):=by
 unfold agrees
 rw [List.all_append]
 cases t.all okV <;> simp
theorem agrees_tells {sz t:List Int} (h:SpOk sz) (ht:(t.length:Int) = prodI sz) (hv:t.all okV = true):∀ l:List Rls,agrees (tells sz l) t = l.all fun r=>sameP sz r.gs t r.vals 0
 | []=>by simp [agrees,tells,hv]
 | r :: l=>by
   have e:tells sz (r :: l) = tell sz r ++ tells sz l:=by simp [tells]
   have e2:agrees (tell sz r) t = sameP sz r.gs t r.vals 0:=by
    unfold agrees tell
    rw [hv,agree_tell h ht,Bool.true_and]
   rw [e,agrees_append,agrees_tells h ht hv l,e2,List.all_cons]
theorem agrees_parts {sz t:List Int} (hv:t.all okV = true):∀ l:List Rls,agrees (tells sz l) t = l.all fun r=>agrees (tell sz r) t
 | []=>by simp [agrees,tells,hv]
 | r :: l=>by
   have e:tells sz (r :: l) = tell sz r ++ tells sz l:=by simp [tells]
   rw [e,agrees_append,agrees_parts hv l,List.all_cons]
theorem valid_tells {sz:List Int} {l:List Rls} (h:rlsC sz l = 0):validB (prodI sz) (tells sz l) = true:=by
 obtain ⟨h1,h2,h3⟩:=rlsC_mem h
 have hp:=h1.prod
 have hlen:∀ l:List Rls,(∀ r∈l,RlOk sz r (-1))→(tells sz l).length≤l.length * 48:=by
  intro l
  induction l with
  | nil=>intro _;simp [tells]
  | cons r l ih=>
    intro h
    have e:tells sz (r :: l) = tell sz r ++ tells sz l:=by simp [tells]
    have h4:=ih fun x hx=>h x (List.mem_cons_of_mem _ hx)
    have h5:=h r (by simp)
    have h6:=tellF_len sz r.gs r.vals 0
    have h7:=h5.len
    have h8:=h5.vw.pub
    rw [e,List.length_append,List.length_cons]
    unfold tell
    omega
 have h4:=hlen l h3
 have h5:(tells sz l).all (eqOk (prodI sz)) = true:=by
  rw [List.all_eq_true]
  intro x hx
  obtain ⟨r,hr,hx⟩:=List.mem_flatMap.1 hx
  exact tell_ok (h3 r hr) x hx
 unfold validB
 rw [h5]
 simp only [Bool.and_true,Bool.and_eq_true,decide_eq_true_eq]
 omega
theorem tab_okV {t:List Int} {most:Int} (hm:most≤10) (h:∀ y∈t,0≤y∧y≤most):t.all okV = true:=by
 rw [List.all_eq_true]
 intro y hy
 have:=h y hy
 simp only [okV,Bool.and_eq_true,decide_eq_true_eq]
 omega
end Go.Proofs
