/- sorting, plain: swaps within a segment, and what pdqsort's parts do -/
namespace Go.TL.So
section
variable {α:Type} [Inhabited α]
abbrev gd (xs:List α) (i:Nat):α:=xs.getD i default
def swp (xs:List α) (i j:Nat):List α:=(xs.set i (gd xs j)).set j (gd xs i)
theorem gd_get {xs:List α} {i:Nat} (h:i < xs.length):gd xs i = xs[i]:=by simp [gd,List.getD_eq_getElem?_getD,List.getElem?_eq_getElem h]
theorem gd_set {xs:List α} {i:Nat} (h:i < xs.length) (v:α) (k:Nat):gd (xs.set i v) k = if k = i then v else gd xs k:=by
 simp only [gd,List.getD_eq_getElem?_getD,List.getElem?_set]
 by_cases e:i = k
 ·subst e;simp [h]
 ·rw [if_neg e,if_neg (fun h=>e h.symm)]
theorem swp_len (xs:List α) (i j:Nat):(swp xs i j).length = xs.length:=by simp [swp]
theorem gd_swp {xs:List α} {i j:Nat} (hi:i < xs.length) (hj:j < xs.length) (k:Nat):gd (swp xs i j) k = if k = j then gd xs i else if k = i then gd xs j else gd xs k:=by
 unfold swp
 rw [gd_set (by simpa using hj),gd_set hi]
theorem swp_perm {xs:List α} {i j:Nat} (hi:i < xs.length) (hj:j < xs.length):(swp xs i j).Perm xs:=by
 unfold swp
 rw [gd_get hi,gd_get hj]
 exact List.set_set_perm hi hj
inductive Sw (a b:Nat):List α→List α→Prop
 | refl (xs:List α):Sw a b xs xs
 | step {xs ys:List α} {i j:Nat} (h:Sw a b xs ys) (hi:a≤i∧i < b) (hj:a≤j∧j < b) (hl:b≤ys.length):Sw a b xs (swp ys i j)
variable {a b:Nat} {xs ys zs:List α}
theorem Sw.trans (h1:Sw a b xs ys) (h2:Sw a b ys zs):Sw a b xs zs:=by
 induction h2 with
 | refl=>exact h1
 | step _ hi hj hl ih=>exact .step ih hi hj hl
theorem Sw.one {i j:Nat} (hi:a≤i∧i < b) (hj:a≤j∧j < b) (hl:b≤xs.length):Sw a b xs (swp xs i j):=.step (.refl xs) hi hj hl
theorem Sw.len (h:Sw a b xs ys):ys.length = xs.length:=by
 induction h with
 | refl=>rfl
 | step _ _ _ _ ih=>rw [swp_len,ih]
theorem Sw.mono {c d:Nat} (h:Sw a b xs ys) (h1:c≤a) (h2:b≤d) (h3:d≤xs.length):Sw c d xs ys:=by
 induction h with
 | refl=>exact .refl _
 | step h hi hj hl ih=>exact .step ih ⟨by omega,by omega⟩ ⟨by omega,by omega⟩ (by rw [h.len];exact h3)
theorem Sw.perm (h:Sw a b xs ys):ys.Perm xs:=by
 induction h with
 | refl=>exact .refl _
 | step _ hi hj hl ih=>exact (swp_perm (by omega) (by omega)).trans ih
theorem Sw.out (h:Sw a b xs ys) {k:Nat} (hk:k < a∨b≤k):gd ys k = gd xs k:=by
 induction h with
 | refl=>rfl
 | step _ hi hj hl ih=>rw [gd_swp (by omega) (by omega),if_neg (by omega),if_neg (by omega),ih]
theorem Sw.all (h:Sw a b xs ys) (p:α→Prop) (hp:∀ k,a≤k→k < b→p (gd xs k)):∀ k,a≤k→k < b→p (gd ys k):=by
 induction h with
 | refl=>exact hp
 | step _ hi hj hl ih=>
   intro k h1 h2
   rw [gd_swp (by omega) (by omega)]
   split
   ·exact ih _ hi.1 hi.2
   ·split
    ·exact ih _ hj.1 hj.2
    ·exact ih k h1 h2
theorem Sw.all' {c d:Nat} (h:Sw a b xs ys) (h1:c≤a) (h2:b≤d) (h3:d≤xs.length) (p:α→Prop) (hp:∀ k,c≤k→k < d→p (gd xs k)):∀ k,c≤k→k < d→p (gd ys k):=
 (h.mono h1 h2 h3).all p hp
end
structure SWOrd {α:Type} (lt:α→α→Bool):Prop where
 asym:∀ x y,lt x y = true→lt y x = false
 trans:∀ x y z,lt y x = false→lt z y = false→lt z x = false
section
variable {α:Type} [Inhabited α] (lt:α→α→Bool)
abbrev lew (x y:α):Prop:=lt y x = false
omit [Inhabited α] in
theorem SWOrd.refl {lt:α→α→Bool} (h:SWOrd lt) (x:α):lew lt x x:=by
 show lt x x = false
 cases e:lt x x with
 | false=>rfl
 | true=>have:=h.asym x x e;rw [e] at this;cases this
def Srt (xs:List α) (a b:Nat):Prop:=∀ i j,a≤i→i < j→j < b→lew lt (gd xs i) (gd xs j)
def insJ (a:Nat):Nat→List α→List α
 | 0,xs=>xs
 | j + 1,xs=>if a < j + 1∧lt (gd xs (j + 1)) (gd xs j) = true then insJ a j (swp xs (j + 1) j) else xs
def insF (a:Nat):Nat→Nat→List α→List α
 | 0,_,xs=>xs
 | k + 1,i,xs=>insF a k (i + 1) (insJ lt a i xs)
def insS (xs:List α) (a b:Nat):List α:=insF lt a (b - (a + 1)) (a + 1) xs
theorem insJ_sw {a b:Nat}:∀ (j:Nat) (xs:List α),a≤j→j < b→b≤xs.length→Sw a b xs (insJ lt a j xs)
 | 0,xs,_,_,_=>.refl xs
 | j + 1,xs,h1,h2,h3=>by
   unfold insJ
   split
   ·rename_i h
    exact (Sw.one ⟨by omega,by omega⟩ ⟨by omega,by omega⟩ h3).trans (insJ_sw j _ (by omega) (by omega) (by rw [swp_len];exact h3))
   ·exact .refl xs
theorem insJ_srt {lt:α→α→Bool} (ho:SWOrd lt) {a i:Nat}:∀ (j:Nat) (xs:List α),a≤j→j≤i→i < xs.length→(∀ p q,a≤p→p < q→q≤i→q≠j→lew lt (gd xs p) (gd xs q))→Srt lt (insJ lt a j xs) a (i + 1)
 | 0,xs,h1,_,_,h=>fun p q h2 h3 h4=>h p q h2 h3 (by omega) (by omega)
 | j + 1,xs,h1,h2,h3,h=>by
   unfold insJ
   split
   ·rename_i hc
    refine insJ_srt ho j _ (by omega) (by omega) (by rw [swp_len];exact h3) fun p q hp hpq hq hqj=>?_
    rw [gd_swp (by omega) (by omega),gd_swp (by omega) (by omega)]
    by_cases e1:q = j + 1
    ·subst e1
     rw [if_neg hqj,if_pos rfl]
     by_cases e2:p = j
     ·rw [if_pos e2]
      exact ho.asym _ _ hc.2
     ·rw [if_neg e2,if_neg (by omega)]
      exact h p j hp (by omega) (by omega) (by omega)
    ·rw [if_neg hqj,if_neg e1]
     by_cases e2:p = j
     ·rw [if_pos e2]
      exact h (j + 1) q (by omega) (by omega) hq e1
     ·rw [if_neg e2]
      by_cases e3:p = j + 1
      ·rw [if_pos e3]
       exact h j q (by omega) (by omega) hq e1
      ·rw [if_neg e3]
       exact h p q hp hpq hq e1
   ·rename_i hc
    intro p q hp hpq hq
    by_cases e:q = j + 1
    ·subst e
     by_cases ha:a < j + 1
     ·have hle:lew lt (gd xs j) (gd xs (j + 1)):=by
       have:¬ lt (gd xs (j + 1)) (gd xs j) = true:=fun h=>hc ⟨ha,h⟩
       simpa using this
      by_cases e2:p = j
      ·subst e2;exact hle
      ·exact ho.trans _ _ _ (h p j hp (by omega) (by omega) (by omega)) hle
     ·omega
    ·exact h p q hp hpq (by omega) e
theorem insF_sw {a b:Nat}:∀ (k i:Nat) (xs:List α),a≤i→i + k≤b→b≤xs.length→Sw a b xs (insF lt a k i xs)
 | 0,_,xs,_,_,_=>.refl xs
 | k + 1,i,xs,h1,h2,h3=>by
   unfold insF
   have h4:=insJ_sw lt (a:=a) (b:=b) i xs h1 (by omega) h3
   exact h4.trans (insF_sw k (i + 1) _ (by omega) (by omega) (by rw [h4.len];exact h3))
theorem insF_srt {lt:α→α→Bool} (ho:SWOrd lt) {a:Nat}:∀ (k i:Nat) (xs:List α),a≤i→i + k≤xs.length→Srt lt xs a i→Srt lt (insF lt a k i xs) a (i + k)
 | 0,i,xs,_,_,h=>h
 | k + 1,i,xs,h1,h2,h=>by
   unfold insF
   have h4:=insJ_sw lt (a:=a) (b:=xs.length) i xs h1 (by omega) (Nat.le_refl _)
   have h5:=insJ_srt ho i xs h1 (Nat.le_refl _) (by omega) fun p q hp hpq hq hqi=>h p q hp hpq (by omega)
   have:=insF_srt ho k (i + 1) _ (by omega) (by rw [h4.len];omega) h5
   rwa [show i + 1 + k = i + (k + 1) by omega] at this
theorem insS_sw {a b:Nat} (xs:List α) (h1:a≤b) (h2:b≤xs.length):Sw a b xs (insS lt xs a b):=by
 unfold insS
 by_cases h:a < b
 ·exact insF_sw lt _ _ xs (by omega) (by omega) h2
 ·rw [show b - (a + 1) = 0 by omega];exact .refl xs
theorem insS_srt {lt:α→α→Bool} (ho:SWOrd lt) {a b:Nat} (xs:List α) (h1:a≤b) (h2:b≤xs.length):Srt lt (insS lt xs a b) a b:=by
 unfold insS
 by_cases h:a < b
 ·have:=insF_srt ho (a:=a) (b - (a + 1)) (a + 1) xs (by omega) (by omega) (fun p q _ _ _=>by omega)
  rwa [show a + 1 + (b - (a + 1)) = b by omega] at this
 ·intro p q _ _ _;omega
def kid (xs:List α) (first hi r:Nat):Nat:=if 2 * r + 2 < hi∧lt (gd xs (first + (2 * r + 1))) (gd xs (first + (2 * r + 2))) = true then 2 * r + 2 else 2 * r + 1
def sift (first hi:Nat):Nat→Nat→List α→List α
 | 0,_,xs=>xs
 | f + 1,r,xs=>if hi≤2 * r + 1 then xs else if lt (gd xs (first + r)) (gd xs (first + kid lt xs first hi r)) = false then xs else sift first hi f (kid lt xs first hi r) (swp xs (first + r) (first + kid lt xs first hi r))
def Ch (r c:Nat):Prop:=c = 2 * r + 1∨c = 2 * r + 2
theorem kid_ch (xs:List α) {first hi r:Nat} (h:2 * r + 1 < hi):Ch r (kid lt xs first hi r)∧kid lt xs first hi r < hi:=by
 unfold kid Ch
 split
 ·rename_i h1;exact ⟨.inr rfl,h1.1⟩
 ·exact ⟨.inl rfl,h⟩
theorem kid_max {lt:α→α→Bool} (ho:SWOrd lt) (xs:List α) {first hi r c:Nat} (hc:Ch r c) (h:c < hi):lew lt (gd xs (first + c)) (gd xs (first + kid lt xs first hi r)):=by
 unfold kid
 split
 ·rename_i h1
  rcases hc with rfl | rfl
  ·exact ho.asym _ _ h1.2
  ·exact ho.refl _
 ·rename_i h1
  rcases hc with rfl | rfl
  ·exact ho.refl _
  ·have:¬ lt (gd xs (first + (2 * r + 1))) (gd xs (first + (2 * r + 2))) = true:=fun e=>h1 ⟨h,e⟩
   simpa using this
theorem sift_sw {first hi:Nat}:∀ (f r:Nat) (xs:List α),first + hi≤xs.length→Sw first (first + hi) xs (sift lt first hi f r xs)
 | 0,_,xs,_=>.refl xs
 | f + 1,r,xs,h=>by
   unfold sift
   split
   ·exact .refl xs
   ·split
    ·exact .refl xs
    ·have hk:=kid_ch lt xs (first:=first) (hi:=hi) (r:=r) (by omega)
     exact (Sw.one ⟨by omega,by omega⟩ ⟨by omega,by omega⟩ h).trans (sift_sw f _ _ (by rw [swp_len];exact h))
def Heap (first lo hi:Nat) (xs:List α):Prop:=∀ r c,lo≤r→Ch r c→c < hi→lew lt (gd xs (first + c)) (gd xs (first + r))
theorem sift_heap {lt:α→α→Bool} (ho:SWOrd lt) {first lo hi:Nat}:∀ (f r:Nat) (xs:List α),first + hi≤xs.length→lo≤r→hi≤r + f→
 (∀ q c,lo≤q→q≠r→Ch q c→c < hi→lew lt (gd xs (first + c)) (gd xs (first + q)))→(∀ p c,lo≤p→Ch p r→Ch r c→c < hi→lew lt (gd xs (first + c)) (gd xs (first + p)))→Heap lt first lo hi (sift lt first hi f r xs)
 | 0,r,xs,_,_,h3,h4,_=>fun q c h5 h6 h7=>h4 q c h5 (by rcases h6 with e | e <;> omega) h6 h7
 | f + 1,r,xs,h1,h2,h3,h4,h5=>by
   unfold sift
   split
   ·intro q c hq hc hh
    exact h4 q c hq (by rcases hc with e | e <;> omega) hc hh
   ·rename_i hr
    have hk:=kid_ch lt xs (first:=first) (hi:=hi) (r:=r) (by omega)
    have hm:=fun c hc hh=>kid_max ho xs (first:=first) (hi:=hi) (r:=r) (c:=c) hc hh
    generalize kid lt xs first hi r = k at *
    obtain ⟨hk1,hk2⟩:=hk
    have hrk:r < k:=by rcases hk1 with e | e <;> omega
    split
    ·rename_i hle
     intro q c hq hc hh
     by_cases e:q = r
     ·subst e
      exact ho.trans _ _ _ (hm c hc hh) hle
     ·exact h4 q c hq e hc hh
    ·rename_i hlt
     have hlt:lt (gd xs (first + r)) (gd xs (first + k)) = true:=by simpa using hlt
     have hg:∀ m,gd (swp xs (first + r) (first + k)) (first + m) = if m = k then gd xs (first + r) else if m = r then gd xs (first + k) else gd xs (first + m):=by
      intro m
      rw [gd_swp (by omega) (by omega)]
      by_cases e:m = k
      ·rw [if_pos (by omega),if_pos e]
      ·rw [if_neg (by omega),if_neg e]
       by_cases e2:m = r
       ·rw [if_pos (by omega),if_pos e2]
       ·rw [if_neg (by omega),if_neg e2]
     refine sift_heap ho f k _ (by rw [swp_len];exact h1) (by omega) (by omega) (fun q c hq hqk hc hh=>?_) (fun p c hp hpk hc hh=>?_)
     ·rw [hg,hg,if_neg hqk]
      by_cases e:q = r
      ·subst e
       rw [if_pos rfl]
       by_cases e2:c = k
       ·rw [if_pos e2];exact ho.asym _ _ hlt
       ·rw [if_neg e2,if_neg (by rcases hc with e | e <;> omega)]
        exact hm c hc hh
      ·rw [if_neg e]
       by_cases e2:c = k
       ·exfalso;rcases hc with e1 | e1 <;> rcases hk1 with e3 | e3 <;> omega
       ·rw [if_neg e2]
        by_cases e3:c = r
        ·subst e3
         rw [if_pos rfl]
         exact h5 q k hq hc hk1 hk2
        ·rw [if_neg e3]
         exact h4 q c hq e hc hh
     ·have hpr:p = r:=by rcases hpk with e1 | e1 <;> rcases hk1 with e3 | e3 <;> omega
      subst hpr
      have hck:c≠k:=by rcases hc with e1 | e1 <;> omega
      have hcp:c≠p:=by rcases hc with e1 | e1 <;> omega
      rw [hg,hg,if_neg hck,if_neg hcp,if_neg (by omega),if_pos rfl]
      exact h4 k c (by omega) (by omega) hc hh
def hB (first hi:Nat):Nat→List α→List α
 | 0,xs=>xs
 | k + 1,xs=>hB first hi k (sift lt first hi (hi + 1) k xs)
def hS (first:Nat):Nat→List α→List α
 | 0,xs=>xs
 | i + 1,xs=>hS first i (sift lt first i (i + 1) 0 (swp xs first (first + i)))
def heapS (xs:List α) (a b:Nat):List α:=hS lt a (b - a) (hB lt a (b - a) ((b - a - 1) / 2 + 1) xs)
theorem hB_sw {first hi:Nat}:∀ (k:Nat) (xs:List α),first + hi≤xs.length→Sw first (first + hi) xs (hB lt first hi k xs)
 | 0,xs,_=>.refl xs
 | k + 1,xs,h=>by
   unfold hB
   have h1:=sift_sw lt (first:=first) (hi:=hi) (hi + 1) k xs h
   exact h1.trans (hB_sw k _ (by rw [h1.len];exact h))
theorem hB_heap {lt:α→α→Bool} (ho:SWOrd lt) {first hi:Nat}:∀ (k:Nat) (xs:List α),first + hi≤xs.length→Heap lt first k hi xs→Heap lt first 0 hi (hB lt first hi k xs)
 | 0,xs,_,h=>h
 | k + 1,xs,h1,h=>by
   unfold hB
   have h2:=sift_sw lt (first:=first) (hi:=hi) (hi + 1) k xs h1
   refine hB_heap ho k _ (by rw [h2.len];exact h1) (sift_heap ho (hi + 1) k xs h1 (Nat.le_refl _) (by omega) (fun q c hq hqk hc hh=>h q c (by omega) hc hh) fun p c hp hpk hc hh=>?_)
   exfalso;rcases hpk with e | e <;> omega
theorem heap_max {lt:α→α→Bool} (ho:SWOrd lt) {first hi:Nat} {xs:List α} (h:Heap lt first 0 hi xs):∀ (n c:Nat),c≤n→c < hi→lew lt (gd xs (first + c)) (gd xs (first + 0))
 | 0,c,h1,_=>by rw [Nat.le_zero.1 h1];exact ho.refl _
 | n + 1,c,h1,h2=>by
   by_cases e:c = 0
   ·subst e;exact ho.refl _
   ·exact ho.trans _ _ _ (h ((c - 1) / 2) c (by omega) (by unfold Ch;omega) h2) (heap_max ho h n ((c - 1) / 2) (by omega) (by omega))
theorem hS_sw {first:Nat}:∀ (i:Nat) (xs:List α),first + i≤xs.length→Sw first (first + i) xs (hS lt first i xs)
 | 0,xs,_=>.refl xs
 | i + 1,xs,h=>by
   unfold hS
   have h0:Sw first (first + (i + 1)) xs (swp xs first (first + i)):=Sw.one ⟨by omega,by omega⟩ ⟨by omega,by omega⟩ h
   have h1:=sift_sw lt (first:=first) (hi:=i) (i + 1) 0 (swp xs first (first + i)) (by rw [swp_len];omega)
   have h2:=hS_sw (first:=first) i (sift lt first i (i + 1) 0 (swp xs first (first + i))) (by rw [h1.len,swp_len];omega)
   refine h0.trans ((h1.trans h2).mono (Nat.le_refl _) (by omega) (by rw [swp_len];exact h))
theorem hS_srt {lt:α→α→Bool} (ho:SWOrd lt) {first hi:Nat}:∀ (i:Nat) (xs:List α),i≤hi→first + hi≤xs.length→Heap lt first 0 i xs→
 (∀ p q,i≤p→p < q→q < hi→lew lt (gd xs (first + p)) (gd xs (first + q)))→(∀ p q,p < i→i≤q→q < hi→lew lt (gd xs (first + p)) (gd xs (first + q)))→Srt lt (hS lt first i xs) first (first + hi)
 | 0,xs,_,_,_,h4,_=>fun p q hp hpq hq=>by
   have:=h4 (p - first) (q - first) (by omega) (by omega) (by omega)
   rwa [show first + (p - first) = p by omega,show first + (q - first) = q by omega] at this
 | i + 1,xs,h1,h2,h3,h4,h5=>by
   unfold hS
   have hmax:=fun c hc=>heap_max ho h3 c c (Nat.le_refl _) hc
   have hg:∀ m,gd (swp xs first (first + i)) (first + m) = if m = i then gd xs (first + 0) else if m = 0 then gd xs (first + i) else gd xs (first + m):=by
    intro m
    rw [gd_swp (by omega) (by omega)]
    by_cases e:m = i
    ·rw [if_pos (by omega),if_pos e];rfl
    ·rw [if_neg (by omega),if_neg e]
     by_cases e2:m = 0
     ·rw [if_pos (by omega),if_pos e2]
     ·rw [if_neg (by omega),if_neg e2]
   have hl:(swp xs first (first + i)).length = xs.length:=swp_len _ _ _
   have hsw:=sift_sw lt (first:=first) (hi:=i) (i + 1) 0 (swp xs first (first + i)) (by omega)
   have hheap:=sift_heap ho (first:=first) (lo:=0) (hi:=i) (i + 1) 0 (swp xs first (first + i)) (by omega) (Nat.le_refl _) (by omega) (fun q c _ hq0 hc hh=>by
    rw [hg,hg,if_neg (by omega),if_neg (by rcases hc with e | e <;> omega),if_neg (by rcases hc with e | e <;> omega),if_neg hq0]
    exact h3 q c (by omega) hc (by omega)) (fun p c _ hp _ _=>by exfalso;rcases hp with e | e <;> omega)
   have htail:∀ q,i≤q→gd (sift lt first i (i + 1) 0 (swp xs first (first + i))) (first + q) = if q = i then gd xs (first + 0) else gd xs (first + q):=by
    intro q hq
    rw [hsw.out (.inr (by omega)),hg]
    by_cases e:q = i
    ·rw [if_pos e,if_pos e]
    ·rw [if_neg e,if_neg e,if_neg (by omega)]
   refine hS_srt ho i _ (by omega) (by rw [hsw.len,hl];exact h2) hheap (fun p q hp hpq hq=>?_) (fun p q hp hq1 hq2=>?_)
   ·rw [htail p hp,htail q (by omega),if_neg (show ¬ q = i by omega)]
    by_cases e:p = i
    ·rw [if_pos e];exact h5 0 q (by omega) (by omega) hq
    ·rw [if_neg e];exact h4 p q (by omega) hpq hq
   ·rw [htail q hq1]
    have:=hsw.all (fun v=>lew lt v (if q = i then gd xs (first + 0) else gd xs (first + q))) (fun k hk1 hk2=>by
     have hm:=hg (k - first)
     rw [show first + (k - first) = k by omega] at hm
     rw [hm,if_neg (by omega)]
     by_cases e:q = i
     ·rw [if_pos e]
      by_cases e2:k - first = 0
      ·rw [if_pos e2];exact hmax i (by omega)
      ·rw [if_neg e2];rw [show k = first + (k - first) by omega];exact hmax (k - first) (by omega)
     ·rw [if_neg e]
      by_cases e2:k - first = 0
      ·rw [if_pos e2];exact h5 i q (by omega) (by omega) hq2
      ·rw [if_neg e2];rw [show k = first + (k - first) by omega];exact h5 (k - first) q (by omega) (by omega) hq2) (first + p) (by omega) (by omega)
    exact this
theorem heapS_sw {a b:Nat} (xs:List α) (h1:a≤b) (h2:b≤xs.length):Sw a b xs (heapS lt xs a b):=by
 unfold heapS
 have e:a + (b - a) = b:=by omega
 have h3:=hB_sw lt (first:=a) (hi:=b - a) ((b - a - 1) / 2 + 1) xs (by omega)
 have h4:=hS_sw lt (first:=a) (b - a) _ (by rw [h3.len];omega:a + (b - a)≤(hB lt a (b - a) ((b - a - 1) / 2 + 1) xs).length)
 rw [e] at h3 h4
 exact h3.trans h4
theorem heapS_srt {lt:α→α→Bool} (ho:SWOrd lt) {a b:Nat} (xs:List α) (h1:a≤b) (h2:b≤xs.length):Srt lt (heapS lt xs a b) a b:=by
 unfold heapS
 have h3:=hB_sw lt (first:=a) (hi:=b - a) ((b - a - 1) / 2 + 1) xs (by omega)
 have h4:=hB_heap ho (first:=a) (hi:=b - a) ((b - a - 1) / 2 + 1) xs (by omega) (fun r c hr hc hh=>by exfalso;rcases hc with e | e <;> omega)
 have:=hS_srt ho (first:=a) (hi:=b - a) (b - a) _ (Nat.le_refl _) (by rw [h3.len];omega) h4 (fun p q _ _ _=>by omega) (fun p q _ _ _=>by omega)
 rwa [show a + (b - a) = b by omega] at this
def up (p:α→Bool) (j:Nat) (xs:List α):Nat→Nat→Nat
 | 0,i=>i
 | f + 1,i=>if i≤j∧p (gd xs i) = true then up p j xs f (i + 1) else i
def dn (p:α→Bool) (i:Nat) (xs:List α):Nat→Nat→Nat
 | 0,j=>j
 | f + 1,j=>if i≤j∧p (gd xs j) = false then dn p i xs f (j - 1) else j
theorem up_spec (p:α→Bool) (j:Nat) (xs:List α):∀ (f i:Nat),j + 1≤i + f→i≤j + 1→i≤up p j xs f i∧up p j xs f i≤j + 1∧(∀ k,i≤k→k < up p j xs f i→p (gd xs k) = true)∧¬ (up p j xs f i≤j∧p (gd xs (up p j xs f i)) = true)
 | 0,i,h,h2=>⟨Nat.le_refl _,h2,fun k h3 h4=>by unfold up at h4;omega,fun h3=>by have:=h3.1;unfold up at this;omega⟩
 | f + 1,i,h,h2=>by
   unfold up
   split
   ·rename_i hc
    obtain ⟨h3,h4,h5,h6⟩:=up_spec p j xs f (i + 1) (by omega) (by omega)
    refine ⟨by omega,h4,fun k h7 h8=>?_,h6⟩
    by_cases e:k = i
    ·subst e;exact hc.2
    ·exact h5 k (by omega) h8
   ·rename_i hc
    exact ⟨Nat.le_refl _,h2,fun k h3 h4=>by omega,hc⟩
theorem dn_spec (p:α→Bool) (i:Nat) (hi:0 < i) (xs:List α):∀ (f j:Nat),j + 1≤i + f→i≤j + 1→dn p i xs f j≤j∧i≤dn p i xs f j + 1∧(∀ k,dn p i xs f j < k→k≤j→p (gd xs k) = false)∧¬ (i≤dn p i xs f j∧p (gd xs (dn p i xs f j)) = false)
 | 0,j,h,h2=>⟨Nat.le_refl _,h2,fun k h3 h4=>by unfold dn at h3;omega,fun h3=>by have:=h3.1;unfold dn at this;omega⟩
 | f + 1,j,h,h2=>by
   unfold dn
   split
   ·rename_i hc
    obtain ⟨h3,h4,h5,h6⟩:=dn_spec p i hi xs f (j - 1) (by omega) (by omega)
    refine ⟨by omega,h4,fun k h7 h8=>?_,h6⟩
    by_cases e:k = j
    ·subst e;exact hc.2
    ·exact h5 k h7 (by omega)
   ·rename_i hc
    exact ⟨Nat.le_refl _,h2,fun k h3 h4=>by omega,hc⟩
def prt (p:α→Bool):Nat→List α→Nat→Nat→List α×Nat×Nat
 | 0,xs,i,j=>(xs,i,j)
 | f + 1,xs,i,j=>
   if dn p (up p j xs (j + 1 - i) i) xs (j + 1 - up p j xs (j + 1 - i) i) j < up p j xs (j + 1 - i) i
   then (xs,up p j xs (j + 1 - i) i,dn p (up p j xs (j + 1 - i) i) xs (j + 1 - up p j xs (j + 1 - i) i) j)
   else prt p f (swp xs (up p j xs (j + 1 - i) i) (dn p (up p j xs (j + 1 - i) i) xs (j + 1 - up p j xs (j + 1 - i) i) j)) (up p j xs (j + 1 - i) i + 1) (dn p (up p j xs (j + 1 - i) i) xs (j + 1 - up p j xs (j + 1 - i) i) j - 1)
theorem prt_spec (p:α→Bool):∀ (f:Nat) (xs:List α) (i j:Nat),0 < i→j + 1 < i + f→i≤j + 1→j + 1≤xs.length→
 Sw i (j + 1) xs (prt p f xs i j).1∧(prt p f xs i j).2.1 = (prt p f xs i j).2.2 + 1∧i≤(prt p f xs i j).2.1∧(prt p f xs i j).2.1≤j + 1∧
 (∀ k,i≤k→k < (prt p f xs i j).2.1→p (gd (prt p f xs i j).1 k) = true)∧(∀ k,(prt p f xs i j).2.1≤k→k≤j→p (gd (prt p f xs i j).1 k) = false)
 | 0,xs,i,j,h0,h1,h2,h3=>by omega
 | f + 1,xs,i,j,h0,h1,h2,h3=>by
   obtain ⟨u1,u2,u3,u4⟩:=up_spec p j xs (j + 1 - i) i (by omega) h2
   unfold prt
   generalize up p j xs (j + 1 - i) i = i' at *
   obtain ⟨d1,d2,d3,d4⟩:=dn_spec p i' (by omega) xs (j + 1 - i') j (by omega) u2
   generalize dn p i' xs (j + 1 - i') j = j' at *
   split
   ·rename_i hc
    exact ⟨.refl xs,by show i' = j' + 1;omega,u1,u2,u3,fun k h4 h5=>d3 k (by simp only at h4;omega) h5⟩
   ·rename_i hc
    have hpi:p (gd xs i') = false:=by
     cases e:p (gd xs i') with
     | false=>rfl
     | true=>exact absurd ⟨by omega,e⟩ u4
    have hpj:p (gd xs j') = true:=by
     cases e:p (gd xs j') with
     | true=>rfl
     | false=>exact absurd ⟨by omega,e⟩ d4
    have hne:i'≠j':=fun e=>by rw [e,hpj] at hpi;cases hpi
    obtain ⟨r1,r2,r3,r4,r5,r6⟩:=prt_spec p f (swp xs i' j') (i' + 1) (j' - 1) (by omega) (by omega) (by omega) (by rw [swp_len];omega)
    have hsw:Sw i (j + 1) xs (swp xs i' j'):=Sw.one ⟨by omega,by omega⟩ ⟨by omega,by omega⟩ h3
    have hl:=swp_len xs i' j'
    refine ⟨hsw.trans (r1.mono (by omega) (by omega) (by omega)),r2,by omega,by omega,fun k h4 h5=>?_,fun k h4 h5=>?_⟩
    ·by_cases e:i' + 1≤k
     ·exact r5 k e h5
     ·rw [r1.out (.inl (by omega)),gd_swp (by omega) (by omega),if_neg (by omega)]
      by_cases e2:k = i'
      ·rw [if_pos e2];exact hpj
      ·rw [if_neg e2];exact u3 k h4 (by omega)
    ·by_cases e:k≤j' - 1
     ·exact r6 k h4 e
     ·rw [r1.out (.inr (by omega)),gd_swp (by omega) (by omega)]
      by_cases e2:k = j'
      ·rw [if_pos e2];exact hpi
      ·rw [if_neg e2,if_neg (by omega)];exact d3 k (by omega) h5
def partO (xs:List α) (a b pv:Nat):List α×Nat:=
 (swp (prt (fun v=>lt v (gd xs pv)) b (swp xs a pv) (a + 1) (b - 1)).1 (prt (fun v=>lt v (gd xs pv)) b (swp xs a pv) (a + 1) (b - 1)).2.2 a,(prt (fun v=>lt v (gd xs pv)) b (swp xs a pv) (a + 1) (b - 1)).2.2)
theorem partO_spec {a b pv:Nat} (xs:List α) (h1:a≤pv) (h2:pv < b) (h3:b≤xs.length) :
 Sw a b xs (partO lt xs a b pv).1∧a≤(partO lt xs a b pv).2∧(partO lt xs a b pv).2 < b∧gd (partO lt xs a b pv).1 (partO lt xs a b pv).2 = gd xs pv∧
 (∀ k,a≤k→k < (partO lt xs a b pv).2→lt (gd (partO lt xs a b pv).1 k) (gd xs pv) = true)∧(∀ k,(partO lt xs a b pv).2 < k→k < b→lt (gd (partO lt xs a b pv).1 k) (gd xs pv) = false):=by
 unfold partO
 have hl:=swp_len xs a pv
 obtain ⟨r1,r2,r3,r4,r5,r6⟩:=prt_spec (fun v=>lt v (gd xs pv)) b (swp xs a pv) (a + 1) (b - 1) (by omega) (by omega) (by omega) (by omega)
 generalize prt (fun v=>lt v (gd xs pv)) b (swp xs a pv) (a + 1) (b - 1) = r at *
 obtain ⟨ys,i,j⟩:=r
 simp only at *
 have hsw:Sw a b xs ys:=(Sw.one ⟨by omega,by omega⟩ ⟨h1,h2⟩ h3).trans (r1.mono (by omega) (by omega) (by omega))
 have hya:gd ys a = gd xs pv:=by
  rw [r1.out (.inl (by omega)),gd_swp (by omega) (by omega)]
  split
  ·rename_i e;rw [e]
  ·rw [if_pos rfl]
 have hyl:=hsw.len
 have hg:=fun k=>gd_swp (xs:=ys) (i:=j) (j:=a) (by omega) (by omega) k
 refine ⟨hsw.trans (Sw.one ⟨by omega,by omega⟩ ⟨by omega,by omega⟩ (by omega)),by omega,by omega,?_,fun k h4 h5=>?_,fun k h4 h5=>?_⟩
 ·rw [hg]
  split
  ·rename_i e;rw [e];exact hya
  ·rw [if_pos rfl];exact hya
 ·rw [hg]
  split
  ·exact r5 j (by omega) (by omega)
  ·rw [if_neg (by omega)];exact r5 k (by omega) (by omega)
 ·rw [hg,if_neg (by omega),if_neg (by omega)]
  exact r6 k (by omega) (by omega)
def partE (xs:List α) (a b pv:Nat):List α×Nat:=
 ((prt (fun v=>!lt (gd xs pv) v) b (swp xs a pv) (a + 1) (b - 1)).1,(prt (fun v=>!lt (gd xs pv) v) b (swp xs a pv) (a + 1) (b - 1)).2.1)
theorem partE_spec {lt:α→α→Bool} (ho:SWOrd lt) {a b pv:Nat} (xs:List α) (h1:a≤pv) (h2:pv < b) (h3:b≤xs.length) :
 Sw a b xs (partE lt xs a b pv).1∧a < (partE lt xs a b pv).2∧(partE lt xs a b pv).2≤b∧
 (∀ k,a≤k→k < (partE lt xs a b pv).2→lew lt (gd (partE lt xs a b pv).1 k) (gd xs pv))∧(∀ k,(partE lt xs a b pv).2≤k→k < b→lt (gd xs pv) (gd (partE lt xs a b pv).1 k) = true):=by
 unfold partE
 have hl:=swp_len xs a pv
 obtain ⟨r1,r2,r3,r4,r5,r6⟩:=prt_spec (fun v=>!lt (gd xs pv) v) b (swp xs a pv) (a + 1) (b - 1) (by omega) (by omega) (by omega) (by omega)
 generalize prt (fun v=>!lt (gd xs pv) v) b (swp xs a pv) (a + 1) (b - 1) = r at *
 obtain ⟨ys,i,j⟩:=r
 simp only at *
 have hsw:Sw a b xs ys:=(Sw.one ⟨by omega,by omega⟩ ⟨h1,h2⟩ h3).trans (r1.mono (by omega) (by omega) (by omega))
 have hya:gd ys a = gd xs pv:=by
  rw [r1.out (.inl (by omega)),gd_swp (by omega) (by omega)]
  split
  ·rename_i e;rw [e]
  ·rw [if_pos rfl]
 refine ⟨hsw,by omega,by omega,fun k h4 h5=>?_,fun k h4 h5=>?_⟩
 ·by_cases e:k = a
  ·subst e;rw [hya];exact ho.refl _
  ·simpa using r5 k (by omega) h5
 ·simpa using r6 k h4 (by omega)
def rvs:Nat→Nat→Nat→List α→List α
 | 0,_,_,xs=>xs
 | f + 1,i,j,xs=>if i < j then rvs f (i + 1) (j - 1) (swp xs i j) else xs
theorem rvs_sw {a b:Nat}:∀ (f i j:Nat) (xs:List α),a≤i→j < b→b≤xs.length→Sw a b xs (rvs f i j xs)
 | 0,_,_,xs,_,_,_=>.refl xs
 | f + 1,i,j,xs,h1,h2,h3=>by
   unfold rvs
   split
   ·exact (Sw.one ⟨by omega,by omega⟩ ⟨by omega,by omega⟩ h3).trans (rvs_sw f (i + 1) (j - 1) _ (by omega) (by omega) (by rw [swp_len];exact h3))
   ·exact .refl xs
def upA (b:Nat) (xs:List α):Nat→Nat→Nat
 | 0,i=>i
 | f + 1,i=>if i < b∧lt (gd xs i) (gd xs (i - 1)) = false then upA b xs f (i + 1) else i
theorem upA_spec {lt:α→α→Bool} (ho:SWOrd lt) {a b:Nat} (xs:List α):∀ (f i:Nat),b≤i + f→a < i→i≤b→Srt lt xs a i→i≤upA lt b xs f i∧upA lt b xs f i≤b∧Srt lt xs a (upA lt b xs f i)
 | 0,i,h1,h2,h3,h=>⟨Nat.le_refl _,h3,h⟩
 | f + 1,i,h1,h2,h3,h=>by
   unfold upA
   split
   ·rename_i hc
    obtain ⟨h4,h5,h6⟩:=upA_spec ho (a:=a) (b:=b) xs f (i + 1) (by omega) (by omega) (by omega) (fun p q hp hpq hq=>by
     by_cases e:q = i
     ·subst e
      by_cases e2:p = q - 1
      ·rw [e2];exact hc.2
      ·exact ho.trans _ _ _ (h p (q - 1) hp (by omega) (by omega)) hc.2
     ·exact h p q hp hpq (by omega))
    exact ⟨by omega,h5,h6⟩
   ·exact ⟨Nat.le_refl _,h3,h⟩
def shR (b:Nat):Nat→Nat→List α→List α
 | 0,_,xs=>xs
 | f + 1,j,xs=>if j < b∧lt (gd xs j) (gd xs (j - 1)) = true then shR b f (j + 1) (swp xs j (j - 1)) else xs
theorem shR_sw {a b:Nat}:∀ (f j:Nat) (xs:List α),a < j→b≤xs.length→Sw a b xs (shR lt b f j xs)
 | 0,_,xs,_,_=>.refl xs
 | f + 1,j,xs,h1,h2=>by
   unfold shR
   split
   ·exact (Sw.one ⟨by omega,by omega⟩ ⟨by omega,by omega⟩ h2).trans (shR_sw f (j + 1) _ (by omega) (by rw [swp_len];exact h2))
   ·exact .refl xs
def Pre (xs:List α) (a b:Nat):Prop:=∀ k,0 < a→a≤k→k < b→lew lt (gd xs (a - 1)) (gd xs k)
theorem Pre.sw {lt:α→α→Bool} {xs ys:List α} {a b:Nat} (h:Pre lt xs a b) (hs:Sw a b xs ys):Pre lt ys a b:=fun k h0 h1 h2=>by
 rw [hs.out (.inl (by omega))]
 exact hs.all (fun v=>lew lt (gd xs (a - 1)) v) (fun k h3 h4=>h k h0 h3 h4) k h1 h2
theorem insJ_pre {lt:α→α→Bool} {a b:Nat}:∀ (j:Nat) (xs:List α),a≤j→j < b→b≤xs.length→Pre lt xs a b→insJ lt 0 j xs = insJ lt a j xs
 | 0,xs,_,_,_,_=>rfl
 | j + 1,xs,h1,h2,h3,h=>by
   unfold insJ
   by_cases ha:a < j + 1
   ·by_cases hc:lt (gd xs (j + 1)) (gd xs j) = true
    ·rw [if_pos ⟨by omega,hc⟩,if_pos ⟨ha,hc⟩]
     exact insJ_pre j _ (by omega) (by omega) (by rw [swp_len];exact h3) (h.sw (Sw.one ⟨by omega,by omega⟩ ⟨by omega,by omega⟩ h3))
    ·rw [if_neg (fun e=>hc e.2),if_neg (fun e=>hc e.2)]
   ·have e:a = j + 1:=by omega
    have:=h (j + 1) (by omega) (by omega) h2
    rw [e,show j + 1 - 1 = j by omega] at this
    have hc:¬ lt (gd xs (j + 1)) (gd xs j) = true:=by rw [this];simp
    rw [if_neg (fun e=>hc e.2),if_neg (fun e=>hc e.2)]
def pnsL (a i:Nat) (xs:List α):List α:=if 2≤i - a then insJ lt 0 (i - 1) xs else xs
def pnsR (b i:Nat) (xs:List α):List α:=if 2≤b - i then shR lt b (b - (i + 1)) (i + 1) xs else xs
def pins (a b:Nat):Nat→Nat→List α→List α×Bool
 | 0,_,xs=>(xs,false)
 | f + 1,i,xs=>if upA lt b xs (b - i) i = b then (xs,true) else if b - a < 50 then (xs,false) else
   pins a b f (upA lt b xs (b - i) i) (pnsR lt b (upA lt b xs (b - i) i) (pnsL lt a (upA lt b xs (b - i) i) (swp xs (upA lt b xs (b - i) i) (upA lt b xs (b - i) i - 1))))
theorem pins_spec {lt:α→α→Bool} (ho:SWOrd lt) {a b:Nat}:∀ (f i:Nat) (xs:List α),a < i→i≤b→b≤xs.length→Srt lt xs a i→Pre lt xs a b→Sw a b xs (pins lt a b f i xs).1∧((pins lt a b f i xs).2 = true→Srt lt (pins lt a b f i xs).1 a b)
 | 0,i,xs,_,_,_,_,_=>⟨.refl xs,fun h=>by cases h⟩
 | f + 1,i,xs,h1,h2,h3,h4,h5=>by
   obtain ⟨u1,u2,u3⟩:=upA_spec ho (a:=a) (b:=b) xs (b - i) i (by omega) h1 h2 h4
   unfold pins
   generalize upA lt b xs (b - i) i = m at *
   split
   ·rename_i e
    exact ⟨.refl xs,fun _=>by rw [e] at u3;exact u3⟩
   ·split
    ·exact ⟨.refl xs,fun h=>by cases h⟩
    ·rename_i hm _
     have s1:Sw a b xs (swp xs m (m - 1)):=Sw.one ⟨by omega,by omega⟩ ⟨by omega,by omega⟩ h3
     have p1:=h5.sw s1
     have l1:=s1.len
     have hg:=fun k=>gd_swp (xs:=xs) (i:=m) (j:=m - 1) (by omega) (by omega) k
     generalize swp xs m (m - 1) = x1 at *
     have s2:Sw a b x1 (pnsL lt a m x1)∧Srt lt (pnsL lt a m x1) a m:=by
      unfold pnsL
      split
      ·rw [insJ_pre (m - 1) x1 (by omega) (by omega) (by omega) p1]
       refine ⟨insJ_sw lt (m - 1) x1 (by omega) (by omega) (by omega),?_⟩
       have:=insJ_srt ho (a:=a) (i:=m - 1) (m - 1) x1 (by omega) (Nat.le_refl _) (by omega) (fun p q hp hpq hq hqm=>by
        rw [hg,hg,if_neg (by omega),if_neg (by omega),if_neg (by omega),if_neg (by omega)]
        exact u3 p q hp hpq (by omega))
       rwa [show m - 1 + 1 = m by omega] at this
      ·exact ⟨.refl _,fun p q _ _ _=>by omega⟩
     generalize pnsL lt a m x1 = x2 at *
     obtain ⟨s2,o2⟩:=s2
     have l2:=s2.len
     have s3:Sw m b x2 (pnsR lt b m x2):=by
      unfold pnsR
      split
      ·exact shR_sw lt _ _ x2 (by omega) (by omega)
      ·exact .refl _
     generalize pnsR lt b m x2 = x3 at *
     have s4:Sw a b xs x3:=(s1.trans s2).trans (s3.mono (by omega) (Nat.le_refl _) (by omega))
     obtain ⟨r1,r2⟩:=pins_spec ho (a:=a) (b:=b) f m x3 (by omega) (by omega) (by rw [s4.len];exact h3) (fun p q hp hpq hq=>by
      rw [s3.out (.inl (by omega)),s3.out (.inl (by omega))]
      exact o2 p q hp hpq hq) (h5.sw s4)
     exact ⟨s4.trans r1,r2⟩
def flO (xs:List α) (a b pv:Nat):Bool:=
 decide (dn (fun v=>lt v (gd xs pv)) (up (fun v=>lt v (gd xs pv)) (b - 1) (swp xs a pv) (b - 1 + 1 - (a + 1)) (a + 1)) (swp xs a pv) (b - 1 + 1 - up (fun v=>lt v (gd xs pv)) (b - 1) (swp xs a pv) (b - 1 + 1 - (a + 1)) (a + 1)) (b - 1) < up (fun v=>lt v (gd xs pv)) (b - 1) (swp xs a pv) (b - 1 + 1 - (a + 1)) (a + 1))
def pdqG (rc:List α→Nat→Nat→Nat→Bool→Bool→List α) (x:List α) (a b pv lim:Nat) (wb wp:Bool):List α:=
 if 0 < a∧lt (gd x (a - 1)) (gd x pv) = false then rc (partE lt x a b pv).1 (partE lt x a b pv).2 b lim wb wp
 else if (partO lt x a b pv).2 - a < b - (partO lt x a b pv).2
 then rc (rc (partO lt x a b pv).1 a (partO lt x a b pv).2 lim true true) ((partO lt x a b pv).2 + 1) b lim (decide ((b - a) / 8≤(partO lt x a b pv).2 - a)) (flO lt x a b pv)
 else rc (rc (partO lt x a b pv).1 ((partO lt x a b pv).2 + 1) b lim true true) a (partO lt x a b pv).2 lim (decide ((b - a) / 8≤b - (partO lt x a b pv).2)) (flO lt x a b pv)
def pdqH (rc:List α→Nat→Nat→Nat→Bool→Bool→List α) (x:List α) (a b pv:Nat) (hint:Int) (lim:Nat) (wb wp:Bool):List α:=
 if wb = true∧wp = true∧hint = 1 then
  if (pins lt a b 5 (a + 1) x).2 = true then (pins lt a b 5 (a + 1) x).1 else pdqG lt rc (pins lt a b 5 (a + 1) x).1 a b pv lim wb wp
 else pdqG lt rc x a b pv lim wb wp
def pdqP (cp:List α→Nat→Nat→Nat×Int) (rc:List α→Nat→Nat→Nat→Bool→Bool→List α) (x:List α) (a b:Nat) (lim:Nat) (wb wp:Bool):List α:=
 if (cp x a b).2 = 2 then pdqH lt rc (rvs (b - a) a (b - 1) x) a b (b - 1 - ((cp x a b).1 - a)) 1 lim wb wp else pdqH lt rc x a b (cp x a b).1 (cp x a b).2 lim wb wp
def pdq (cp:List α→Nat→Nat→Nat×Int) (br:List α→Nat→Nat→List α):Nat→List α→Nat→Nat→Nat→Bool→Bool→List α
 | 0,xs,_,_,_,_,_=>xs
 | f + 1,xs,a,b,lim,wb,wp=>
   if b - a≤12 then insS lt xs a b else if lim = 0 then heapS lt xs a b
   else if wb = true then pdqP lt cp (pdq cp br f) xs a b lim wb wp else pdqP lt cp (pdq cp br f) (br xs a b) a b (lim - 1) wb wp
theorem srt_join {lt:α→α→Bool} (ho:SWOrd lt) {zs:List α} {a m b:Nat} (v:α) (h1:∀ k,a≤k→k < m→lew lt (gd zs k) v) (h2:gd zs m = v) (h3:∀ k,m < k→k < b→lew lt v (gd zs k)) (h4:Srt lt zs a m) (h5:Srt lt zs (m + 1) b):Srt lt zs a b:=by
 intro i j hi hij hj
 by_cases e1:j < m
 ·exact h4 i j hi hij e1
 ·by_cases e2:m < i
  ·exact h5 i j (by omega) hij hj
  ·have hiv:lew lt (gd zs i) v:=by
    by_cases e3:i = m
    ·rw [e3,h2];exact ho.refl _
    ·exact h1 i hi (by omega)
   have hvj:lew lt v (gd zs j):=by
    by_cases e3:j = m
    ·rw [e3,h2];exact ho.refl _
    ·exact h3 j (by omega) hj
   exact ho.trans _ _ _ hiv hvj
abbrev RcOK (f:Nat) (rc:List α→Nat→Nat→Nat→Bool→Bool→List α):Prop:=∀ xs a b lim wb wp,b < a + f→a≤b→b≤xs.length→Pre lt xs a b→Sw a b xs (rc xs a b lim wb wp)∧Srt lt (rc xs a b lim wb wp) a b
theorem pdqG_spec {lt:α→α→Bool} (ho:SWOrd lt) {f:Nat} {rc:List α→Nat→Nat→Nat→Bool→Bool→List α} (hr:RcOK lt f rc) {x:List α} {a b pv lim:Nat} {wb wp:Bool}
 (h1:a≤pv) (h2:pv < b) (h3:b≤x.length) (h4:Pre lt x a b) (h5:b≤a + f):Sw a b x (pdqG lt rc x a b pv lim wb wp)∧Srt lt (pdqG lt rc x a b pv lim wb wp) a b:=by
 unfold pdqG
 split
 ·rename_i hc
  obtain ⟨e1,e2,e3,e4,e5⟩:=partE_spec ho x h1 h2 h3
  generalize partE lt x a b pv = q at *
  obtain ⟨ys,m⟩:=q
  dsimp only at *
  have hl:=e1.len
  have hp:=h4.sw e1
  have hpm:Pre lt ys m b:=fun k _ hk1 hk2=>ho.trans _ _ _ (e4 (m - 1) (by omega) (by omega)) (ho.asym _ _ (e5 k hk1 hk2))
  obtain ⟨r1,r2⟩:=hr ys m b lim wb wp (by omega) e3 (by omega) hpm
  refine ⟨e1.trans (r1.mono (by omega) (Nat.le_refl _) (by omega)),?_⟩
  have hbig:=r1.all (fun v=>lew lt (gd x pv) v) (fun k hk1 hk2=>ho.asym _ _ (e5 k hk1 hk2))
  have hprev:gd ys (a - 1) = gd x (a - 1):=e1.out (.inl (by omega))
  intro i j hi hij hj
  by_cases c1:j < m
  ·rw [r1.out (.inl (by omega)),r1.out (.inl (by omega))]
   refine ho.trans _ _ _ (e4 i hi (by omega)) (ho.trans _ (gd x (a - 1)) _ hc.2 ?_)
   have:=hp j hc.1 (by omega) hj
   rwa [hprev] at this
  ·by_cases c2:i < m
   ·rw [r1.out (k:=i) (.inl (by omega))]
    exact ho.trans _ _ _ (e4 i hi c2) (hbig j (by omega) hj)
   ·exact r2 i j (by omega) hij hj
 ·obtain ⟨e1,e2,e3,e4,e5,e6⟩:=partO_spec lt x h1 h2 h3
  generalize flO lt x a b pv = fl
  generalize partO lt x a b pv = q at *
  obtain ⟨ys,m⟩:=q
  dsimp only at *
  have hl:=e1.len
  have hp:=h4.sw e1
  have e5':=fun k hk1 hk2=>ho.asym _ _ (e5 k hk1 hk2)
  split
  ·obtain ⟨r1,r2⟩:=hr ys a m lim true true (by omega) e2 (by omega) (fun k h0 hk1 hk2=>hp k h0 hk1 (by omega))
   generalize rc ys a m lim true true = z1 at *
   have l1:=r1.len
   have hm1:gd z1 m = gd x pv:=by rw [r1.out (.inr (Nat.le_refl _)),e4]
   obtain ⟨s1,s2⟩:=hr z1 (m + 1) b lim (decide ((b - a) / 8≤m - a)) fl (by omega) (by omega) (by omega) (fun k _ hk1 hk2=>by
    rw [show m + 1 - 1 = m by omega,hm1,r1.out (.inr (by omega))]
    exact e6 k (by omega) hk2)
   generalize rc z1 (m + 1) b lim (decide ((b - a) / 8≤m - a)) fl = z2 at *
   refine ⟨(e1.trans (r1.mono (Nat.le_refl _) (by omega) (by omega))).trans (s1.mono (by omega) (Nat.le_refl _) (by omega)),srt_join ho (gd x pv) (fun k hk1 hk2=>?_) ?_ (fun k hk1 hk2=>?_) (fun i j hi hij hj=>?_) s2⟩
   ·rw [s1.out (.inl (by omega))]
    exact r1.all (fun v=>lew lt v (gd x pv)) e5' k hk1 hk2
   ·rw [s1.out (.inl (by omega)),hm1]
   ·exact s1.all (fun v=>lew lt (gd x pv) v) (fun k hk1 hk2=>by rw [r1.out (.inr (by omega))];exact e6 k (by omega) hk2) k (by omega) hk2
   ·rw [s1.out (.inl (by omega)),s1.out (.inl (by omega))]
    exact r2 i j hi hij hj
  ·obtain ⟨r1,r2⟩:=hr ys (m + 1) b lim true true (by omega) (by omega) (by omega) (fun k _ hk1 hk2=>by
    rw [show m + 1 - 1 = m by omega,e4]
    exact e6 k (by omega) hk2)
   generalize rc ys (m + 1) b lim true true = z1 at *
   have l1:=r1.len
   have hm1:gd z1 m = gd x pv:=by rw [r1.out (.inl (by omega)),e4]
   obtain ⟨s1,s2⟩:=hr z1 a m lim (decide ((b - a) / 8≤b - m)) fl (by omega) e2 (by omega) (fun k h0 hk1 hk2=>by
    rw [r1.out (.inl (by omega)),r1.out (.inl (by omega))]
    exact hp k h0 hk1 (by omega))
   generalize rc z1 a m lim (decide ((b - a) / 8≤b - m)) fl = z2 at *
   refine ⟨(e1.trans (r1.mono (by omega) (Nat.le_refl _) (by omega))).trans (s1.mono (Nat.le_refl _) (by omega) (by omega)),srt_join ho (gd x pv) (fun k hk1 hk2=>?_) ?_ (fun k hk1 hk2=>?_) s2 (fun i j hi hij hj=>?_)⟩
   ·exact s1.all (fun v=>lew lt v (gd x pv)) (fun k hk1 hk2=>by rw [r1.out (.inl (by omega))];exact e5' k hk1 hk2) k hk1 hk2
   ·rw [s1.out (.inr (Nat.le_refl _)),hm1]
   ·rw [s1.out (.inr (by omega))]
    exact r1.all (fun v=>lew lt (gd x pv) v) (fun k hk1 hk2=>e6 k (by omega) hk2) k (by omega) hk2
   ·rw [s1.out (.inr (by omega)),s1.out (.inr (by omega))]
    exact r2 i j hi hij hj
theorem pdqH_spec {lt:α→α→Bool} (ho:SWOrd lt) {f:Nat} {rc:List α→Nat→Nat→Nat→Bool→Bool→List α} (hr:RcOK lt f rc) {x:List α} {a b pv lim:Nat} {hint:Int} {wb wp:Bool}
 (h1:a≤pv) (h2:pv < b) (h3:b≤x.length) (h4:Pre lt x a b) (h5:b≤a + f):Sw a b x (pdqH lt rc x a b pv hint lim wb wp)∧Srt lt (pdqH lt rc x a b pv hint lim wb wp) a b:=by
 unfold pdqH
 split
 ·obtain ⟨p1,p2⟩:=pins_spec ho (a:=a) (b:=b) 5 (a + 1) x (by omega) (by omega) h3 (fun p q _ _ _=>by omega) h4
  split
  ·rename_i hb
   exact ⟨p1,p2 hb⟩
  ·obtain ⟨r1,r2⟩:=pdqG_spec ho hr (lim:=lim) (wb:=wb) (wp:=wp) h1 h2 (by rw [p1.len];exact h3) (h4.sw p1) h5
   exact ⟨p1.trans r1,r2⟩
 ·exact pdqG_spec ho hr h1 h2 h3 h4 h5
theorem pdqP_spec {lt:α→α→Bool} (ho:SWOrd lt) {f:Nat} {cp:List α→Nat→Nat→Nat×Int} {rc:List α→Nat→Nat→Nat→Bool→Bool→List α} (hr:RcOK lt f rc) {x:List α} {a b lim:Nat} {wb wp:Bool}
 (h1:a≤(cp x a b).1) (h2:(cp x a b).1 < b) (h3:b≤x.length) (h4:Pre lt x a b) (h5:b≤a + f):Sw a b x (pdqP lt cp rc x a b lim wb wp)∧Srt lt (pdqP lt cp rc x a b lim wb wp) a b:=by
 unfold pdqP
 split
 ·have s1:=rvs_sw (a:=a) (b:=b) (b - a) a (b - 1) x (Nat.le_refl _) (by omega) h3
  obtain ⟨r1,r2⟩:=pdqH_spec ho hr (pv:=b - 1 - ((cp x a b).1 - a)) (hint:=1) (lim:=lim) (wb:=wb) (wp:=wp) (by omega) (by omega) (by rw [s1.len];exact h3) (h4.sw s1) h5
  exact ⟨s1.trans r1,r2⟩
 ·exact pdqH_spec ho hr h1 h2 h3 h4 h5
theorem pdq_spec {lt:α→α→Bool} (ho:SWOrd lt) {cp:List α→Nat→Nat→Nat×Int} {br:List α→Nat→Nat→List α}
 (hcp:∀ xs a b,a + 12 < b→b≤xs.length→a≤(cp xs a b).1∧(cp xs a b).1 < b) (hbr:∀ xs a b,a≤b→b≤xs.length→Sw a b xs (br xs a b)):∀ f,RcOK lt f (pdq lt cp br f)
 | 0,xs,a,b,lim,wb,wp,h1,h2,_,_=>by omega
 | f + 1,xs,a,b,lim,wb,wp,h1,h2,h3,h4=>by
   unfold pdq
   split
   ·exact ⟨insS_sw lt xs h2 h3,insS_srt ho xs h2 h3⟩
   ·split
    ·exact ⟨heapS_sw lt xs h2 h3,heapS_srt ho xs h2 h3⟩
    ·split
     ·obtain ⟨c1,c2⟩:=hcp xs a b (by omega) h3
      exact pdqP_spec ho (pdq_spec ho hcp hbr f) c1 c2 h3 h4 (by omega)
     ·have s1:=hbr xs a b h2 h3
      obtain ⟨c1,c2⟩:=hcp (br xs a b) a b (by omega) (by rw [s1.len];exact h3)
      obtain ⟨r1,r2⟩:=pdqP_spec ho (pdq_spec ho hcp hbr f) (lim:=lim - 1) (wb:=wb) (wp:=wp) c1 c2 (by rw [s1.len];exact h3) (h4.sw s1) (by omega)
      exact ⟨s1.trans r1,r2⟩
theorem pdq_all {lt:α→α→Bool} (ho:SWOrd lt) {cp:List α→Nat→Nat→Nat×Int} {br:List α→Nat→Nat→List α}
 (hcp:∀ xs a b,a + 12 < b→b≤xs.length→a≤(cp xs a b).1∧(cp xs a b).1 < b) (hbr:∀ xs a b,a≤b→b≤xs.length→Sw a b xs (br xs a b)) (xs:List α) (lim:Nat) :
 (pdq lt cp br (xs.length + 1) xs 0 xs.length lim true true).Perm xs∧Srt lt (pdq lt cp br (xs.length + 1) xs 0 xs.length lim true true) 0 xs.length:=by
 obtain ⟨h1,h2⟩:=pdq_spec ho hcp hbr (xs.length + 1) xs 0 xs.length lim true true (by omega) (Nat.zero_le _) (Nat.le_refl _) (fun k h0 _ _=>by omega)
 exact ⟨h1.perm,h2⟩
end
theorem up_step {α:Type} [Inhabited α] {p:α→Bool} {j i:Nat} {xs:List α} (h:i≤j) (hp:p (gd xs i) = true):up p j xs (j + 1 - i) i = up p j xs (j + 1 - (i + 1)) (i + 1):=by
 rw [show j + 1 - i = (j + 1 - (i + 1)) + 1 by omega,up,if_pos ⟨h,hp⟩]
theorem up_stop {α:Type} [Inhabited α] {p:α→Bool} {j i:Nat} {xs:List α} (f:Nat) (h:¬ (i≤j∧p (gd xs i) = true)):up p j xs f i = i:=by
 cases f with
 | zero=>rfl
 | succ f=>rw [up,if_neg h]
theorem dn_step {α:Type} [Inhabited α] {p:α→Bool} {j i:Nat} {xs:List α} (h0:0 < i) (h:i≤j) (hp:p (gd xs j) = false):dn p i xs (j + 1 - i) j = dn p i xs (j - 1 + 1 - i) (j - 1):=by
 rw [show j + 1 - i = (j - 1 + 1 - i) + 1 by omega,dn,if_pos ⟨h,hp⟩]
theorem dn_stop {α:Type} [Inhabited α] {p:α→Bool} {j i:Nat} {xs:List α} (f:Nat) (h:¬ (i≤j∧p (gd xs j) = false)):dn p i xs f j = j:=by
 cases f with
 | zero=>rfl
 | succ f=>rw [dn,if_neg h]
theorem upA_step {α:Type} [Inhabited α] {lt:α→α→Bool} {b i:Nat} {xs:List α} (h:i < b) (hp:lt (gd xs i) (gd xs (i - 1)) = false):upA lt b xs (b - i) i = upA lt b xs (b - (i + 1)) (i + 1):=by
 rw [show b - i = (b - (i + 1)) + 1 by omega,upA,if_pos ⟨h,hp⟩]
theorem upA_stop {α:Type} [Inhabited α] {lt:α→α→Bool} {b i:Nat} {xs:List α} (f:Nat) (h:¬ (i < b∧lt (gd xs i) (gd xs (i - 1)) = false)):upA lt b xs f i = i:=by
 cases f with
 | zero=>rfl
 | succ f=>rw [upA,if_neg h]
theorem dand {P:Prop} [Decidable P] {B:Bool}:(decide P && B) = true→P∧B = true:=by simp
theorem dandn {P:Prop} [Decidable P] {B:Bool}:(decide P && B) = false→¬ (P∧B = true):=by
 intro h ⟨h1,h2⟩
 rw [decide_eq_true h1,h2] at h
 cases h
section
variable {α:Type} [Inhabited α] {lt:α→α→Bool}
theorem insJ_len {a:Nat}:∀ (j:Nat) (xs:List α),(insJ lt a j xs).length = xs.length
 | 0,xs=>rfl
 | j + 1,xs=>by unfold insJ;split;· rw [insJ_len j,swp_len]
                ·rfl
theorem insF_len {a:Nat}:∀ (k i:Nat) (xs:List α),(insF lt a k i xs).length = xs.length
 | 0,_,xs=>rfl
 | k + 1,i,xs=>by unfold insF;rw [insF_len k,insJ_len]
theorem sift_len {first hi:Nat}:∀ (f r:Nat) (xs:List α),(sift lt first hi f r xs).length = xs.length
 | 0,_,xs=>rfl
 | f + 1,r,xs=>by
   unfold sift
   split
   ·rfl
   ·split
    ·rfl
    ·rw [sift_len f,swp_len]
theorem hB_len {first hi:Nat}:∀ (k:Nat) (xs:List α),(hB lt first hi k xs).length = xs.length
 | 0,xs=>rfl
 | k + 1,xs=>by unfold hB;rw [hB_len k,sift_len]
theorem hS_len {first:Nat}:∀ (k:Nat) (xs:List α),(hS lt first k xs).length = xs.length
 | 0,xs=>rfl
 | k + 1,xs=>by unfold hS;rw [hS_len k,sift_len,swp_len]
theorem prt_len {p:α→Bool}:∀ (f:Nat) (xs:List α) (i j:Nat),(prt p f xs i j).1.length = xs.length
 | 0,xs,i,j=>rfl
 | f + 1,xs,i,j=>by
   unfold prt
   split
   ·rfl
   ·rw [prt_len f,swp_len]
theorem rvs_len:∀ (f i j:Nat) (xs:List α),(rvs f i j xs).length = xs.length
 | 0,_,_,xs=>rfl
 | f + 1,i,j,xs=>by
   unfold rvs
   split
   ·rw [rvs_len f,swp_len]
   ·rfl
theorem shR_len {b:Nat}:∀ (f j:Nat) (xs:List α),(shR lt b f j xs).length = xs.length
 | 0,_,xs=>rfl
 | f + 1,j,xs=>by
   unfold shR
   split
   ·rw [shR_len f,swp_len]
   ·rfl
theorem pins_len {a b:Nat}:∀ (f i:Nat) (xs:List α),(pins lt a b f i xs).1.length = xs.length
 | 0,_,xs=>rfl
 | f + 1,i,xs=>by
   unfold pins
   split
   ·rfl
   ·split
    ·rfl
    ·rw [pins_len f]
     unfold pnsR pnsL
     split <;> split <;> simp only [shR_len,insJ_len,swp_len]
theorem partO_len {xs:List α} {a b pv:Nat}:(partO lt xs a b pv).1.length = xs.length:=by
 unfold partO;rw [swp_len,prt_len,swp_len]
theorem partE_len {xs:List α} {a b pv:Nat}:(partE lt xs a b pv).1.length = xs.length:=by
 unfold partE;rw [prt_len,swp_len]
theorem pdqG_len {rc:List α→Nat→Nat→Nat→Bool→Bool→List α} (hr:∀ xs a b l w v,(rc xs a b l w v).length = xs.length) {x:List α} {a b pv lim:Nat} {wb wp:Bool}:(pdqG lt rc x a b pv lim wb wp).length = x.length:=by
 unfold pdqG
 split
 ·rw [hr,partE_len]
 ·split <;> rw [hr,hr,partO_len]
theorem pdqH_len {rc:List α→Nat→Nat→Nat→Bool→Bool→List α} (hr:∀ xs a b l w v,(rc xs a b l w v).length = xs.length) {x:List α} {a b pv lim:Nat} {hint:Int} {wb wp:Bool}:(pdqH lt rc x a b pv hint lim wb wp).length = x.length:=by
 unfold pdqH
 split
 ·split
  ·rw [pins_len]
  ·rw [pdqG_len hr,pins_len]
 ·rw [pdqG_len hr]
theorem pdq_len {cp:List α→Nat→Nat→Nat×Int} {br:List α→Nat→Nat→List α} (hb:∀ xs a b,(br xs a b).length = xs.length):∀ (f:Nat) (xs:List α) (a b l:Nat) (w v:Bool),(pdq lt cp br f xs a b l w v).length = xs.length
 | 0,xs,_,_,_,_,_=>rfl
 | f + 1,xs,a,b,l,w,v=>by
   have hr:∀ xs a b l w v,(pdq lt cp br f xs a b l w v).length = xs.length:=fun xs a b l w v=>pdq_len hb f xs a b l w v
   unfold pdq
   split
   ·unfold insS;rw [insF_len]
   ·split
    ·unfold heapS;rw [hS_len,hB_len]
    ·unfold pdqP
     split <;> split <;> rw [pdqH_len hr] <;> simp only [rvs_len,hb]
end
section
variable {α:Type} [Inhabited α]
def cptN (eq:α→α→Bool) (l:List α):Nat→List α
 | 0=>[]
 | j + 1=>cptN eq l j ++ (if 0 < j∧eq (gd l j) (gd l (j - 1)) = true then [] else [gd l j])
theorem cptN_le (eq:α→α→Bool) (l:List α):∀ j,(cptN eq l j).length≤j
 | 0=>Nat.le_refl _
 | j + 1=>by
   have:=cptN_le eq l j
   unfold cptN
   split <;> simp <;> omega
omit [Inhabited α] in
theorem srt_uniq {lt:α→α→Bool} (ho:SWOrd lt):∀ {a b:List α},a.Pairwise (fun x y=>lt x y = true)→b.Pairwise (fun x y=>lt x y = true)→(∀ x,x∈a↔x∈b)→a = b
 | [],[],_,_,_=>rfl
 | [],y :: b,_,_,h=>by have:=(h y).2 List.mem_cons_self;cases this
 | x :: a,[],_,_,h=>by have:=(h x).1 List.mem_cons_self;cases this
 | x :: a,y :: b,h1,h2,h=>by
   rw [List.pairwise_cons] at h1 h2
   have hxy:x = y:=by
    rcases List.mem_cons.1 ((h x).1 List.mem_cons_self) with e | e
    ·exact e
    ·rcases List.mem_cons.1 ((h y).2 List.mem_cons_self) with e2 | e2
     ·exact e2.symm
     ·have h3:=h2.1 x e
      have h4:=h1.1 y e2
      rw [ho.asym _ _ h3] at h4;cases h4
   subst hxy
   have ir:∀ v,lt v v = false:=ho.refl
   rw [srt_uniq ho h1.2 h2.2 fun v=>⟨fun hv=>?_,fun hv=>?_⟩]
   ·rcases List.mem_cons.1 ((h v).1 (List.mem_cons_of_mem _ hv)) with e | e
    ·have:=h1.1 v hv;rw [e,ir] at this;cases this
    ·exact e
   ·rcases List.mem_cons.1 ((h v).2 (List.mem_cons_of_mem _ hv)) with e | e
    ·have:=h2.1 v hv;rw [e,ir] at this;cases this
    ·exact e
theorem cptN_spec {lt eq:α→α→Bool} (ht:∀ x y,lt x y = false→lt y x = false→x = y) (he:∀ x y,eq x y = true↔x = y) {ys:List α} (h:Srt lt ys 0 ys.length) :
 ∀ j,j≤ys.length→(cptN eq ys j).Pairwise (fun x y=>lt x y = true)∧∀ x,x∈cptN eq ys j↔∃ i,i < j∧gd ys i = x
 | 0,_=>⟨.nil,fun x=>⟨fun h=>(by cases h),fun ⟨i,h,_⟩=>by omega⟩⟩
 | j + 1,hj=>by
   obtain ⟨h1,h2⟩:=cptN_spec ht he h j (by omega)
   unfold cptN
   by_cases c:0 < j∧eq (gd ys j) (gd ys (j - 1)) = true
   ·rw [if_pos c,List.append_nil]
    refine ⟨h1,fun x=>?_⟩
    rw [h2]
    constructor
    ·rintro ⟨i,hi,e⟩;exact ⟨i,by omega,e⟩
    ·rintro ⟨i,hi,e⟩
     by_cases e2:i = j
     ·subst e2;exact ⟨i - 1,by omega,by rw [← (he _ _).1 c.2];exact e⟩
     ·exact ⟨i,by omega,e⟩
   ·rw [if_neg c]
    refine ⟨?_,fun x=>?_⟩
    ·rw [List.pairwise_append]
     refine ⟨h1,List.pairwise_singleton _ _,fun x hx y hy=>?_⟩
     rw [List.mem_singleton] at hy
     subst hy
     obtain ⟨i,hi,rfl⟩:=(h2 x).1 hx
     cases hl:lt (gd ys i) (gd ys j) with
     | true=>rfl
     | false=>
       exfalso
       have h3:lt (gd ys j) (gd ys i) = false:=h i j (Nat.zero_le _) hi (by omega)
       have h4:=ht _ _ hl h3
       refine c ⟨by omega,(he _ _).2 ?_⟩
       by_cases e:i = j - 1
       ·rw [← e];exact h4.symm
       ·have h5:lt (gd ys (j - 1)) (gd ys i) = false:=h i (j - 1) (Nat.zero_le _) (by omega) (by omega)
        have h6:lt (gd ys j) (gd ys (j - 1)) = false:=h (j - 1) j (Nat.zero_le _) (by omega) (by omega)
        rw [h4] at h5
        exact ht _ _ h6 h5
    ·rw [List.mem_append,List.mem_singleton,h2]
     constructor
     ·rintro (⟨i,hi,e⟩ | e)
      ·exact ⟨i,by omega,e⟩
      ·exact ⟨j,by omega,e.symm⟩
     ·rintro ⟨i,hi,e⟩
      by_cases e2:i = j
      ·subst e2;exact .inr e.symm
      ·exact .inl ⟨i,by omega,e⟩
theorem gd_mem {ys:List α} {x:α}:(∃ i,i < ys.length∧gd ys i = x)↔x∈ys:=by
 constructor
 ·rintro ⟨i,hi,rfl⟩;rw [gd_get hi];exact List.getElem_mem hi
 ·intro h
  obtain ⟨i,hi,rfl⟩:=List.getElem_of_mem h
  exact ⟨i,hi,gd_get hi⟩
theorem cpt_spec {lt eq:α→α→Bool} (ht:∀ x y,lt x y = false→lt y x = false→x = y) (he:∀ x y,eq x y = true↔x = y) {ys:List α} (h:Srt lt ys 0 ys.length) :
 (cptN eq ys ys.length).Pairwise (fun x y=>lt x y = true)∧∀ x,x∈cptN eq ys ys.length↔x∈ys:=by
 obtain ⟨h1,h2⟩:=cptN_spec ht he h ys.length (Nat.le_refl _)
 exact ⟨h1,fun x=>(h2 x).trans gd_mem⟩
def insB (lt:α→α→Bool) (l:List α) (v:α):List α:=l.take (l.findIdx fun y=>!lt y v) ++ v :: l.drop (l.findIdx fun y=>!lt y v)
omit [Inhabited α] in
theorem insB_mem {lt:α→α→Bool} {l:List α} {v x:α}:x∈insB lt l v↔x = v∨x∈l:=by
 unfold insB
 rw [List.mem_append,List.mem_cons]
 conv=>rhs;rw [← List.take_append_drop (l.findIdx fun y=>!lt y v) l,List.mem_append]
 constructor
 ·rintro (h | h | h)
  ·exact .inr (.inl h)
  ·exact .inl h
  ·exact .inr (.inr h)
 ·rintro (h | h | h)
  ·exact .inr (.inl h)
  ·exact .inl h
  ·exact .inr (.inr h)
omit [Inhabited α] in
theorem insB_cons {lt:α→α→Bool} {l:List α} {v y:α}:insB lt (y :: l) v = if lt y v = true then y :: insB lt l v else v :: y :: l:=by
 unfold insB
 rw [List.findIdx_cons]
 cases h:lt y v <;> simp
omit [Inhabited α] in
theorem insB_srt {lt:α→α→Bool} (ho:SWOrd lt) (ht:∀ x y,lt x y = false→lt y x = false→x = y) (htr:∀ x y z,lt x y = true→lt y z = true→lt x z = true) {v:α}:∀ {l:List α},l.Pairwise (fun x y=>lt x y = true)→v∉l→(insB lt l v).Pairwise (fun x y=>lt x y = true)
 | [],_,_=>List.pairwise_singleton _ _
 | y :: l,h,hv=>by
   rw [insB_cons]
   rw [List.pairwise_cons] at h
   split
   ·rename_i c
    rw [List.pairwise_cons]
    refine ⟨fun x hx=>?_,insB_srt ho ht htr h.2 fun e=>hv (List.mem_cons_of_mem _ e)⟩
    rcases insB_mem.1 hx with e | e
    ·rw [e];exact c
    ·exact h.1 x e
   ·rename_i c
    have c:lt y v = false:=by simpa using c
    have hvy:lt v y = true:=by
     cases e:lt v y with
     | true=>rfl
     | false=>exact absurd (ht _ _ e c) fun e=>hv (by rw [e];exact List.mem_cons_self)
    rw [List.pairwise_cons,List.pairwise_cons]
    refine ⟨fun x hx=>?_,h⟩
    rcases List.mem_cons.1 hx with e | e
    ·rw [e];exact hvy
    ·exact htr _ _ _ hvy (h.1 x e)
end
end Go.TL.So
