import Derived.Test.YtgdfndldfmjfhaaDoorZzQ
set_option linter.unusedSimpArgs false
set_option linter.unusedVariables false
namespace Go.Proofs
open Go Go.TL
def prodI (l:List Int):Int:=l.foldl (· * ·) 1
def szOk (k:Int):Bool:=decide (1≤k) && decide (k≤8)
def chkS (l:List Int):Int:=if l.length < 1∨l.length > 4 then 55 else if l.all szOk = false then 55 else if prodI l > 48 then 55 else 0
def cntS (l:List Int):Int:=if chkS l = 0 then prodI l else 0
theorem prod_foldl (l:List Int):∀ a:Int,l.foldl (· * ·) a = a * prodI l:=by
 induction l with
 | nil=>intro a;simp [prodI]
 | cons k r ih=>
   intro a
   have e:prodI (k :: r) = k * prodI r:=by
    show r.foldl (· * ·) (1 * k) = _
    rw [ih,Int.one_mul]
   rw [List.foldl_cons,ih,e,Int.mul_assoc]
theorem prod_cons (k:Int) (r:List Int):prodI (k :: r) = k * prodI r:=by
 show r.foldl (· * ·) (1 * k) = _
 rw [prod_foldl,Int.one_mul]
theorem prod_append (a b:List Int):prodI (a ++ b) = prodI a * prodI b:=by
 unfold prodI
 rw [List.foldl_append,prod_foldl]
 rfl
theorem prod_snoc {l:List Int} {i:Nat} (h:i < l.length):prodI (l.take (i + 1)) = prodI (l.take i) * l[i]:=by
 rw [take_snoc h,prod_append]
 congr 1
 exact Int.one_mul _
theorem prod_le:∀ {l:List Int},l.all szOk = true→1≤prodI l∧prodI l≤8 ^ l.length
 | [],_=>by simp [prodI]
 | k :: r,h=>by
   simp only [List.all_cons,Bool.and_eq_true] at h
   obtain ⟨h1,h2⟩:=prod_le h.2
   have hk:1≤k∧k≤8:=by simpa [szOk] using h.1
   rw [prod_cons,List.length_cons,Int.pow_succ]
   refine ⟨Int.mul_pos (by omega) (by omega),?_⟩
   calc k * prodI r≤8 * prodI r:=Int.mul_le_mul_of_nonneg_right hk.2 (by omega)
    _≤8 * 8 ^ r.length:=Int.mul_le_mul_of_nonneg_left h2 (by omega)
    _ = 8 ^ r.length * 8:=Int.mul_comm _ _
theorem prod_small {l:List Int} (h:l.all szOk = true) (hl:l.length≤4):1≤prodI l∧prodI l≤4096:=by
 obtain ⟨h1,h2⟩:=prod_le h
 refine ⟨h1,Int.le_trans h2 ?_⟩
 have:l.length = 0∨l.length = 1∨l.length = 2∨l.length = 3∨l.length = 4:=by omega
 rcases this with e | e | e | e | e <;> rw [e] <;> decide
structure SpOk (l:List Int):Prop where
 len:1≤l.length∧l.length≤4
 all:l.all szOk = true
 prod:1≤prodI l∧prodI l≤48
theorem chkS_ok {l:List Int}:chkS l = 0↔SpOk l:=by
 constructor
 ·intro h
  unfold chkS at h
  split at h
  ·cases h
  ·split at h
   ·cases h
   ·split at h
    ·cases h
    ·rename_i h1 h2 h3
     have ha:l.all szOk = true:=by simpa using h2
     exact ⟨by omega,ha,(prod_le ha).1,by omega⟩
 ·rintro ⟨h1,h2,h3⟩
  unfold chkS
  rw [if_neg (by omega),if_neg (by rw [h2];simp),if_neg (by omega)]
theorem SpOk.get {l:List Int} (h:SpOk l) {i:Nat} (hi:i < l.length):1≤l[i]∧l[i]≤8:=by
 have:=List.all_eq_true.1 h.all l[i] (List.getElem_mem hi)
 simpa [szOk] using this
def placeS:List Int→Int→List Int×Int
 | [],n=>([],n)
 | k :: r,n=>((placeS r n).2 % k :: (placeS r n).1,(placeS r n).2 / k)
def placesL (l:List Int) (n:Int):List Int:=(placeS l n).1
theorem place_len:∀ (l:List Int) (n:Int),(placesL l n).length = l.length
 | [],_=>rfl
 | k :: r,n=>by
   show (_ :: placesL r n).length = _
   rw [List.length_cons,place_len r n,List.length_cons]
def numL (sz at_:List Int):Int:=(sz.zip at_).foldl (fun n p=>n * p.1 + p.2) 0
theorem num_snoc {sz at_:List Int} {i:Nat} (h:i < sz.length) (h2:i < at_.length):numL (sz.take (i + 1)) (at_.take (i + 1)) = numL (sz.take i) (at_.take i) * sz[i] + at_[i]:=by
 unfold numL
 rw [take_snoc h,take_snoc h2,List.zip_append (by simp;omega),List.foldl_append]
 rfl
def inR:List Int→List Int→Prop
 | [],[]=>True
 | k :: r,a :: s=>(0≤a∧a < k)∧inR r s
 | _,_=>False
theorem inR_len:∀ {sz at_:List Int},inR sz at_→sz.length = at_.length
 | [],[],_=>rfl
 | [],_ :: _,h=>h.elim
 | _ :: _,[],h=>h.elim
 | k :: r,a :: s,h=>by simp [inR_len h.2]
theorem num_foldl (l:List (Int×Int)):∀ a:Int,l.foldl (fun n p=>n * p.1 + p.2) a = a * prodI (l.map (·.1)) + l.foldl (fun n p=>n * p.1 + p.2) 0:=by
 induction l with
 | nil=>intro a;simp [prodI]
 | cons p r ih=>
   intro a
   rw [List.foldl_cons,ih,List.foldl_cons,ih (0 * p.1 + p.2),List.map_cons,prod_cons]
   rw [Int.zero_mul,Int.zero_add,Int.add_mul,← Int.mul_assoc]
   omega
theorem num_cons {k a:Int} {r s:List Int} (h:r.length = s.length):numL (k :: r) (a :: s) = a * prodI r + numL r s:=by
 unfold numL
 rw [List.zip_cons_cons,List.foldl_cons,num_foldl]
 congr 2
 ·simp
 ·rw [List.map_fst_zip (by omega)]
theorem num_range:∀ {sz at_:List Int},sz.all szOk = true→inR sz at_→0≤numL sz at_∧numL sz at_ < prodI sz
 | [],[],_,_=>by simp [numL,prodI]
 | [],_ :: _,_,h=>h.elim
 | _ :: _,[],_,h=>h.elim
 | k :: r,a :: s,ha,h=>by
   simp only [List.all_cons,Bool.and_eq_true] at ha
   obtain ⟨h1,h2⟩:=num_range ha.2 h.2
   obtain ⟨p1,_⟩:=prod_le ha.2
   rw [num_cons (inR_len h.2),prod_cons]
   obtain ⟨⟨q1,q2⟩,_⟩:=h
   have h5:0≤a * prodI r:=Int.mul_nonneg q1 (by omega)
   have h6:a * prodI r≤(k - 1) * prodI r:=Int.mul_le_mul_of_nonneg_right (by omega) (by omega)
   rw [Int.sub_mul,Int.one_mul] at h6
   omega
theorem place_range:∀ {sz:List Int} {n:Int},sz.all szOk = true→0≤n→inR sz (placesL sz n)∧(placeS sz n).2 = n / prodI sz
 | [],n,_,hn=>⟨trivial,by simp [placeS,prodI]⟩
 | k :: r,n,ha,hn=>by
   simp only [List.all_cons,Bool.and_eq_true] at ha
   have hk:1≤k∧k≤8:=by simpa [szOk] using ha.1
   obtain ⟨h1,h2⟩:=place_range (n:=n) ha.2 hn
   obtain ⟨p1,_⟩:=prod_le ha.2
   refine ⟨⟨⟨Int.emod_nonneg _ (by omega),Int.emod_lt_of_pos _ (by omega)⟩,h1⟩,?_⟩
   show (placeS r n).2 / k = _
   rw [h2,prod_cons,Int.ediv_ediv_of_nonneg (by omega),Int.mul_comm]
theorem place_num:∀ {sz at_:List Int},sz.all szOk = true→inR sz at_→∀ m:Int,0≤m→placeS sz (m * prodI sz + numL sz at_) = (at_,m)
 | [],[],_,_,m,_=>by simp [placeS,prodI,numL]
 | [],_ :: _,_,h,_,_=>h.elim
 | _ :: _,[],_,h,_,_=>h.elim
 | k :: r,a :: s,ha,h,m,hm=>by
   simp only [List.all_cons,Bool.and_eq_true] at ha
   have hk:1≤k∧k≤8:=by simpa [szOk] using ha.1
   obtain ⟨⟨q1,q2⟩,q3⟩:=h
   have ih:=place_num ha.2 q3 (m * k + a) (by have:=Int.mul_nonneg hm (show (0:Int)≤k by omega);omega)
   have e:m * prodI (k :: r) + numL (k :: r) (a :: s) = (m * k + a) * prodI r + numL r s:=by
    rw [num_cons (inR_len q3),prod_cons,Int.add_mul,Int.mul_assoc]
    omega
   rw [e]
   simp only [placeS,ih]
   have h1:(m * k + a) % k = a:=by rw [Int.add_comm,Int.add_mul_emod_self_right];exact Int.emod_eq_of_lt q1 q2
   have h2:(m * k + a) / k = m:=by
    rw [Int.add_comm,Int.add_mul_ediv_right _ _ (by omega),Int.ediv_eq_zero_of_lt q1 q2];omega
   rw [h1,h2]
theorem places_num {sz at_:List Int} (ha:sz.all szOk = true) (h:inR sz at_):placesL sz (numL sz at_) = at_:=by
 have:=place_num ha h 0 (by omega)
 rw [Int.zero_mul,Int.zero_add] at this
 unfold placesL
 rw [this]
end Go.Proofs
