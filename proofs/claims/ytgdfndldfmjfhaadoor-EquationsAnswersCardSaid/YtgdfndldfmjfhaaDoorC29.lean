import Derived.Test.YtgdfndldfmjfhaaDoorB29
set_option linter.unusedSimpArgs false
set_option linter.unusedVariables false
namespace Go.Proofs
open Go Go.TL
theorem emod_split {n P k:Int} (hn:0≤n) (hP:0 < P) (hk:0 < k):n % (k * P) = n / P % k * P + n % P:=by
 obtain ⟨n,rfl⟩:=Int.eq_ofNat_of_zero_le hn
 obtain ⟨P,rfl⟩:=Int.eq_ofNat_of_zero_le (Int.le_of_lt hP)
 obtain ⟨k,rfl⟩:=Int.eq_ofNat_of_zero_le (Int.le_of_lt hk)
 have h:=Nat.mod_mul (x:=n) (a:=P) (b:=k)
 rw [Nat.mul_comm P k,Nat.mul_comm P (n / P % k)] at h
 have h2:((n % (k * P):Nat):Int) = ((n % P + n / P % k * P:Nat):Int):=by rw [h]
 push_cast at h2
 omega
theorem num_place:∀ {sz:List Int} {n:Int},(∀ k∈sz,1≤k)→0≤n→numL sz (placesL sz n) = n % prodI sz∧(placeS sz n).2 = n / prodI sz∧1≤prodI sz
 | [],n,_,_=>by simp [numL,prodI,placeS,Int.emod_one]
 | k :: r,n,ha,hn=>by
   have hk:=ha k (by simp)
   obtain ⟨h1,h2,h3⟩:=num_place (n:=n) (fun x hx=>ha x (List.mem_cons_of_mem _ hx)) hn
   have e:placesL (k :: r) n = (placeS r n).2 % k :: placesL r n:=rfl
   refine ⟨?_,?_,?_⟩
   ·rw [e,num_cons (place_len r n).symm,h1,h2,prod_cons,emod_split hn (by omega) (by omega)]
   ·show (placeS r n).2 / k = _
    rw [h2,prod_cons,Int.ediv_ediv_of_nonneg (by omega),Int.mul_comm]
   ·rw [prod_cons]
    have:=Int.mul_pos (show 0 < k by omega) (show 0 < prodI r by omega)
    omega
theorem cells_mem {n:Nat} {c:Int}:c∈cellsL n↔0≤c∧c < n:=by
 unfold cellsL
 simp only [List.mem_map,List.mem_range]
 constructor
 ·rintro ⟨k,h,rfl⟩;omega
 ·rintro ⟨h1,h2⟩;exact ⟨c.toNat,by omega,by omega⟩
theorem memb_mem {sz:List Int} {gs:List (List Int)} (h:SpOk sz) {k c:Int}:c∈membL sz gs k↔(0≤c∧c < prodI sz)∧ofS sz gs c = k:=by
 unfold membL
 rw [List.mem_filter,cells_mem]
 have:=h.prod
 simp only [beq_iff_eq]
 constructor
 ·rintro ⟨⟨h1,h2⟩,h3⟩;exact ⟨⟨h1,by omega⟩,h3⟩
 ·rintro ⟨⟨h1,h2⟩,h3⟩;exact ⟨⟨h1,by omega⟩,h3⟩
theorem memb_asc (sz:List Int) (gs:List (List Int)) (k:Int):(membL sz gs k).Pairwise (· < ·):=by
 unfold membL cellsL
 refine List.Pairwise.filter _ ?_
 rw [List.pairwise_map]
 exact List.pairwise_lt_range.imp fun h=>by omega
theorem cells_len (n:Nat):(cellsL n).length = n:=by simp [cellsL]
theorem memb_len {sz:List Int} {gs:List (List Int)} (h:SpOk sz) (k:Int):(membL sz gs k).length≤48:=by
 have:=List.length_filter_le (fun c=>ofS sz gs c == k) (cellsL (prodI sz).toNat)
 rw [cells_len] at this
 have:=h.prod
 unfold membL
 omega
theorem VwOk.gsz {sz:List Int} {gs:List (List Int)} (h:VwOk sz gs):(gs.map gN).all szOk = true:=by
 rw [List.all_eq_true]
 intro n hn
 obtain ⟨g,hg,rfl⟩:=List.mem_map.1 hn
 obtain ⟨i,hi,rfl⟩:=List.getElem_of_mem hg
 have hi2:i < sz.length:=by rw [← h.len];exact hi
 obtain ⟨h1,h2,h3⟩:=h.get hi2
 have:=h3.pos
 have:=h.sp.get hi2
 simp only [szOk,Bool.and_eq_true,decide_eq_true_eq]
 omega
theorem VwOk.pub {sz:List Int} {gs:List (List Int)} (h:VwOk sz gs):1≤pubN gs∧pubN gs≤48:=by
 refine ⟨(prod_le h.gsz).1,Int.le_trans ?_ h.sp.prod.2⟩
 have key:∀ {sz:List Int} {gs:List (List Int)},gs.length = sz.length→okGs sz gs = true→sz.all szOk = true→1≤prodI (gs.map gN)∧prodI (gs.map gN)≤prodI sz:=by
  intro sz
  induction sz with
  | nil=>intro gs h1 _ _;rw [List.eq_nil_of_length_eq_zero h1];simp [prodI]
  | cons k r ih=>
    intro gs h1 h2 h3
    cases gs with
    | nil=>simp at h1
    | cons g s=>
      simp only [okGs,Bool.and_eq_true] at h2
      simp only [List.all_cons,Bool.and_eq_true] at h3
      obtain ⟨q1,q2⟩:=ih (gs:=s) (by simpa using h1) h2.2 h3.2
      obtain ⟨e1,n,_,e2,e3⟩:=okG_nb h2.1
      have hk:1≤k∧k≤8:=by simpa [szOk] using h3.1
      have hp:=e3.pos
      rw [List.map_cons,prod_cons,prod_cons,e3.g]
      have m1:=Int.mul_pos (show 0 < n by omega) (show 0 < prodI (s.map gN) by omega)
      have m2:n * prodI (s.map gN)≤k * prodI (s.map gN):=Int.mul_le_mul_of_nonneg_right (by omega) (by omega)
      have m3:k * prodI (s.map gN)≤k * prodI r:=Int.mul_le_mul_of_nonneg_left q2 (by omega)
      omega
 exact (key h.len h.ok h.sp.all).2
theorem gAt_in:∀ {sz:List Int} {gs:List (List Int)},gs.length = sz.length→okGs sz gs = true→∀ {at_:List Int},inR sz at_→(gAt gs at_).length = gs.length∧
 ((gAt gs at_).any (fun g=>decide (g < 0)) = false→inR (gs.map gN) (gAt gs at_))∧∀ g∈gAt gs at_,-1≤g
 | [],[],_,_,[],_=>⟨rfl,fun _=>trivial,by simp [gAt]⟩
 | [],[],_,_,_ :: _,h=>h.elim
 | [],_ :: _,h,_,_,_=>by simp at h
 | _ :: _,[],h,_,_,_=>by simp at h
 | _ :: _,_ :: _,_,_,[],h=>h.elim
 | k :: r,g :: s,hl,ho,a :: t,h=>by
   simp only [okGs,Bool.and_eq_true] at ho
   obtain ⟨h1,h2,h3⟩:=gAt_in (sz:=r) (gs:=s) (by simpa using hl) ho.2 h.2
   obtain ⟨e1,n,_,e2,e3⟩:=okG_nb ho.1
   obtain ⟨⟨a1,a2⟩,_⟩:=h
   have ha:a.toNat < g.length:=by omega
   have hg:g.getD a.toNat 0 = g[a.toNat]:=getD_get ha
   have hx:=e3.all g[a.toNat] (List.getElem_mem ha)
   have e:gAt (g :: s) (a :: t) = g.getD a.toNat 0 :: gAt s t:=rfl
   rw [e,hg]
   refine ⟨by simp [h1],fun hn=>?_,fun x hx'=>?_⟩
   ·simp only [List.any_cons,Bool.or_eq_false_iff,decide_eq_false_iff_not] at hn
    rw [List.map_cons,e3.g]
    exact ⟨⟨by omega,hx.2⟩,h2 hn.2⟩
   ·rcases List.mem_cons.1 hx' with rfl | hx'
    ·exact hx.1
    ·exact h3 x hx'
theorem of_range {sz:List Int} {gs:List (List Int)} (h:VwOk sz gs) {c:Int} (hc:0≤c) : -1≤ofS sz gs c∧ofS sz gs c < pubN gs:=by
 have hp:=h.pub
 obtain ⟨h1,h2,_⟩:=gAt_in h.len h.ok (place_range h.sp.all hc).1
 unfold ofS
 split
 ·omega
 ·rename_i hn
  have:=num_range h.gsz (h2 (by simpa using hn))
  unfold pubN
  omega
theorem choose_at:∀ {sz:List Int} {gs:List (List Int)},gs.length = sz.length→okGs sz gs = true→∀ {ds:List Int},inR (gs.map gN) ds→∃ at_,inR sz at_∧gAt gs at_ = ds
 | [],[],_,_,[],_=>⟨[],trivial,rfl⟩
 | [],[],_,_,_ :: _,h=>h.elim
 | [],_ :: _,h,_,_,_=>by simp at h
 | _ :: _,[],h,_,_,_=>by simp at h
 | _ :: _,_ :: _,_,_,[],h=>h.elim
 | k :: r,g :: s,hl,ho,d :: t,h=>by
   simp only [okGs,Bool.and_eq_true] at ho
   obtain ⟨at_,h1,h2⟩:=choose_at (sz:=r) (gs:=s) (by simpa using hl) ho.2 h.2
   obtain ⟨e1,n,_,e2,e3⟩:=okG_nb ho.1
   obtain ⟨⟨d1,d2⟩,_⟩:=h
   rw [e3.g] at d2
   obtain ⟨j,hj,hd⟩:=List.getElem_of_mem (e3.has d d1 d2)
   refine ⟨(j:Int) :: at_,⟨⟨by omega,by omega⟩,h1⟩,?_⟩
   show g.getD (j:Int).toNat 0 :: gAt s at_ = d :: t
   rw [h2,Int.toNat_natCast,getD_get hj,hd]
theorem inR_nonneg:∀ {sz at_:List Int},inR sz at_→at_.any (fun g=>decide (g < 0)) = false
 | [],[],_=>rfl
 | [],_ :: _,h=>h.elim
 | _ :: _,[],h=>h.elim
 | k :: r,a :: s,h=>by
   rw [List.any_cons,inR_nonneg h.2,Bool.or_false,decide_eq_false_iff_not]
   have:=h.1
   omega
theorem memb_some {sz:List Int} {gs:List (List Int)} (h:VwOk sz gs) {k:Int} (h0:0≤k) (hk:k < pubN gs):membL sz gs k≠[]:=by
 have hds:=(place_range h.gsz h0).1
 obtain ⟨at_,h1,h2⟩:=choose_at h.len h.ok hds
 have hr:=num_range h.sp.all h1
 have hm:numL sz at_∈membL sz gs k:=by
  rw [memb_mem h.sp]
  refine ⟨hr,?_⟩
  unfold ofS
  rw [places_num h.sp.all h1,h2,if_neg (by rw [inR_nonneg hds];simp)]
  have:=(num_place (sz:=gs.map gN) (n:=k) (fun x hx=>by
   have:=List.all_eq_true.1 h.gsz x hx
   simp only [szOk,Bool.and_eq_true,decide_eq_true_eq] at this
   exact this.1) h0).1
  rw [this]
  exact Int.emod_eq_of_lt h0 hk
 intro hn
 rw [hn] at hm
 simp at hm
def sumT (t:List Int) (cs:List Int):Int:=(cs.map fun c=>t.getD c.toNat 0).foldl (· + ·) 0
theorem sum_foldl (l:List Int):∀ a:Int,l.foldl (· + ·) a = a + l.foldl (· + ·) 0:=by
 induction l with
 | nil=>intro a;simp
 | cons x r ih=>intro a;rw [List.foldl_cons,ih,List.foldl_cons,ih (0 + x)];omega
theorem sumT_append (t a b:List Int):sumT t (a ++ b) = sumT t a + sumT t b:=by
 unfold sumT
 rw [List.map_append,List.foldl_append,sum_foldl]
theorem sumT_one (t:List Int) (c:Int):sumT t [c] = t.getD c.toNat 0:=by simp [sumT]
theorem sumT_snoc {t cs:List Int} {i:Nat} (h:i < cs.length):sumT t (cs.take (i + 1)) = sumT t (cs.take i) + t.getD cs[i].toNat 0:=by
 rw [take_snoc h,sumT_append,sumT_one]
def pubP (sz:List Int) (gs:List (List Int)) (t:List Int) (n:Nat) (k:Int):Int:=sumT t ((cellsL n).filter fun c=>ofS sz gs c == k)
theorem cells_snoc (n:Nat):cellsL (n + 1) = cellsL n ++ [(n:Int)]:=by simp [cellsL,List.range_succ]
theorem pub_snoc (sz:List Int) (gs:List (List Int)) (t:List Int) (n:Nat) (k:Int):pubP sz gs t (n + 1) k = pubP sz gs t n k + (if ofS sz gs n = k then t.getD n 0 else 0):=by
 unfold pubP
 rw [cells_snoc,List.filter_append,sumT_append]
 congr 1
 by_cases h:ofS sz gs n = k
 ·simp [h,sumT]
 ·simp [h,sumT]
def okV (n:Int):Bool:=decide (0≤n) && decide (n≤1000000)
theorem sumT_bound {t:List Int} (ht:t.all okV = true):∀ (cs:List Int),0≤sumT t cs∧sumT t cs≤cs.length * 1000000
 | []=>by simp [sumT]
 | c :: r=>by
   obtain ⟨h1,h2⟩:=sumT_bound ht r
   have e:sumT t (c :: r) = t.getD c.toNat 0 + sumT t r:=by
    rw [show c :: r = [c] ++ r from rfl,sumT_append,sumT_one]
   have hb:0≤t.getD c.toNat 0∧t.getD c.toNat 0≤1000000:=by
    by_cases hc:c.toNat < t.length
    ·rw [getD_get hc]
     have:=List.all_eq_true.1 ht _ (List.getElem_mem hc)
     simpa [okV] using this
    ·rw [List.getD_eq_getElem?_getD,List.getElem?_eq_none (by omega)]
     simp
   rw [e,List.length_cons]
   push_cast
   omega
end Go.Proofs
