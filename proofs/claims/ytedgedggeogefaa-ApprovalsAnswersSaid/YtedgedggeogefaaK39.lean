import Derived.Test.YtedgedggeogefaaJ39
set_option linter.unusedSimpArgs false
set_option linter.unusedVariables false
namespace Go.Proofs
open Go Go.TL
structure Ok (l:List App):Prop where
 len:l.length≤60
 sing:∀ x∈l,singleI x = 0
 srt:l.Pairwise fun a b=>befB a b = true
 dis:l.Pairwise fun a b=>ovA b a = false
theorem ovA_comm (a b:App):ovA a b = ovA b a:=by
 unfold ovA
 rw [show (b.proj.toList == a.proj.toList) = (a.proj.toList == b.proj.toList) from Bool.beq_comm,Bool.and_assoc,Bool.and_assoc,Bool.and_comm (decide (b.fr < a.un))]
theorem errA_0 {l:List App} {i:Nat} {x:App}:errA l i x = 0↔singleI x = 0∧(0 < i→cmpA (l.getD (i - 1) default) x < 0)∧(l.take i).any (ovA x) = false:=by
 unfold errA
 by_cases h1:singleI x = 0
 ·rw [if_neg (by rw [h1];simp)]
  by_cases h2:0 < i∧cmpA (l.getD (i - 1) default) x≥0
  ·rw [if_pos h2]
   constructor
   ·intro h;cases h
   ·rintro ⟨_,h,_⟩;have:=h h2.1;omega
  ·rw [if_neg h2]
   by_cases h3:(l.take i).any (ovA x) = true
   ·rw [if_pos h3]
    constructor
    ·intro h;cases h
    ·rintro ⟨_,_,h⟩;rw [h3] at h;cases h
   ·rw [if_neg h3]
    constructor
    ·intro _
     refine ⟨h1,fun h4=>?_,by simpa using h3⟩
     have:¬ cmpA (l.getD (i - 1) default) x≥0:=fun h5=>h2 ⟨h4,h5⟩
     omega
    ·intro _;rfl
 ·rw [if_pos h1]
  constructor
  ·intro h;exact absurd h h1
  ·rintro ⟨h,_⟩;exact absurd h h1
theorem ok_iff {l:List App}:chkA l = 0↔Ok l:=by
 constructor
 ·intro h
  obtain ⟨h1,h2⟩:=chkA_len h
  refine ⟨h1,fun x hx=>?_,?_,?_⟩
  ·obtain ⟨i,hi,rfl⟩:=List.getElem_of_mem hx
   exact (errA_0.1 (chk_at h2 i hi)).1
  ·rw [List.pairwise_iff_getElem]
   intro i j hi hj hij
   exact chkA_sorted h j hj i hij
  ·rw [List.pairwise_iff_getElem]
   intro i j hi hj hij
   have h3:=(errA_0.1 (chk_at h2 j hj)).2.2
   have:=List.any_eq_false.1 h3 l[i] (List.mem_take_iff_getElem.2 ⟨i,by omega,rfl⟩)
   simpa using this
 ·intro h
  have key:∀ n,n≤l.length→chkN l n = 0:=by
   intro n
   induction n with
   | zero=>intro _;rfl
   | succ n ih=>
     intro hn
     have hlt:n < l.length:=by omega
     rw [chkN_next hlt (ih (by omega)),errA_0]
     refine ⟨h.sing _ (List.getElem_mem hlt),fun h0=>?_,?_⟩
     ·rw [getD_get (show n - 1 < l.length by omega)]
      exact lt_bef.2 (List.pairwise_iff_getElem.1 h.srt (n - 1) n (by omega) hlt (by omega))
     ·rw [List.any_eq_false]
      intro y hy
      obtain ⟨i,hi,rfl⟩:=List.mem_take_iff_getElem.1 hy
      have:=List.pairwise_iff_getElem.1 h.dis i n (by omega) hlt (by omega)
      rw [this];simp
  rw [chkA,if_neg (by have:=h.len;omega)]
  exact key _ (Nat.le_refl _)
theorem single_parts {x:App} (h:singleI x = 0):namedB x = true∧0≤x.fr∧x.fr < x.un∧x.un≤1073741824:=by
 unfold singleI at h
 split at h
 ·cases h
 ·rename_i h1
  split at h
  ·cases h
  ·exact ⟨by simpa using h1,by omega,by omega,by omega⟩
theorem single_of {x:App} (h1:namedB x = true) (h2:0≤x.fr∧x.fr < x.un∧x.un≤1073741824):singleI x = 0:=by
 rw [singleI,if_neg (by rw [h1];simp),if_neg (by omega)]
theorem ovA_iff {x y:App}:ovA x y = true↔y.proj.toList = x.proj.toList∧y.fr < x.un∧x.fr < y.un:=by
 simp [ovA,and_assoc]
theorem befB_iff {a b:App}:befB a b = true↔a.fr < b.fr∨a.fr = b.fr∧Op.bytesLess a.proj.toList b.proj.toList = true:=by
 simp [befB]
theorem atA_iff {p:ByteArray} {t:Int} {x:App}:atA p t x = true↔x.proj.toList = p.toList∧x.fr≤t∧t < x.un:=by
 simp [atA,and_assoc]
theorem bef_total {a b:App} (ha:singleI a = 0) (hb:singleI b = 0) (h:befB a b = false) (ho:ovA a b = false):befB b a = true:=by
 have h1:¬ (a.fr < b.fr∨a.fr = b.fr∧Op.bytesLess a.proj.toList b.proj.toList = true):=fun hh=>by
  rw [befB_iff.2 hh] at h;cases h
 rw [befB_iff]
 by_cases h2:b.fr < a.fr
 ·exact .inl h2
 ·have h3:a.fr = b.fr:=by omega
  refine .inr ⟨h3.symm,?_⟩
  refine bl_tri (by cases hq:Op.bytesLess a.proj.toList b.proj.toList with | false=>rfl | true=>exact absurd (.inr ⟨h3,hq⟩) h1) fun e=>?_
  have:=single_parts ha
  have:=single_parts hb
  rw [ovA_iff.2 ⟨e.symm,by omega,by omega⟩] at ho
  cases ho
theorem ok_add {l:List App} {x:App} (h:Ok l):Ok (addA l x).1:=by
 have hc:=ok_iff.2 h
 unfold addA
 rw [if_neg (by rw [hc];simp)]
 split
 ·exact h
 rename_i hs
 have hs:singleI x = 0:=by simpa using hs
 split
 ·exact h
 rename_i ho
 have ho:∀ y∈l,ovA x y = false:=fun y hy=>by
  have:=List.any_eq_false.1 (by simpa using ho) y hy
  simpa using this
 split
 ·exact h
 rename_i hl
 have hlen:=h.len
 have h1:∀ a∈l.take (plA l x),befB a x = true:=fun a ha=>by
  obtain ⟨i,hi,rfl⟩:=List.mem_take_iff_getElem.1 ha
  have:=List.not_of_lt_findIdx (p:=fun y=>decide (cmpA y x≥0)) (xs:=l) (i:=i) (show i < plA l x by omega)
  exact lt_bef.1 (by simpa using this)
 have h2:∀ b∈l.drop (plA l x),befB x b = true:=by
  by_cases hk:plA l x < l.length
  ·have hg:(decide (cmpA (l[plA l x]) x≥0)) = true:=List.findIdx_getElem (p:=fun y=>decide (cmpA y x≥0)) (xs:=l) (w:=hk)
   have h3:befB x l[plA l x] = true:=by
    refine bef_total (h.sing _ (List.getElem_mem hk)) hs ?_ (by rw [ovA_comm];exact ho _ (List.getElem_mem hk))
    rw [befB_cmp]
    simp at hg ⊢
    omega
   intro b hb
   obtain ⟨j,hj,rfl⟩:=List.getElem_of_mem hb
   rw [List.getElem_drop]
   by_cases e:j = 0
   ·subst e;exact h3
   ·exact befB_trans h3 (List.pairwise_iff_getElem.1 h.srt _ _ hk (by rw [List.length_drop] at hj;omega) (by omega))
  ·intro b hb
   rw [List.drop_of_length_le (by omega)] at hb
   cases hb
 have hmem:∀ y∈l.take (plA l x) ++ x :: l.drop (plA l x),y = x∨y∈l:=fun y hy=>by
  simp only [List.mem_append,List.mem_cons] at hy
  rcases hy with hy | hy | hy
  ·exact .inr (List.mem_of_mem_take hy)
  ·exact .inl hy
  ·exact .inr (List.mem_of_mem_drop hy)
 refine ⟨?_,fun y hy=>?_,?_,?_⟩
 ·simp only [List.length_append,List.length_cons,List.length_take,List.length_drop];omega
 ·rcases hmem y hy with rfl | hy
  ·exact hs
  ·exact h.sing y hy
 ·rw [List.pairwise_append,List.pairwise_cons]
  refine ⟨h.srt.sublist (List.take_sublist _ _),⟨h2,h.srt.sublist (List.drop_sublist _ _)⟩,fun a ha b hb=>?_⟩
  rcases List.mem_cons.1 hb with rfl | hb
  ·exact h1 a ha
  ·exact befB_trans (h1 a ha) (h2 b hb)
 ·rw [List.pairwise_append,List.pairwise_cons]
  refine ⟨h.dis.sublist (List.take_sublist _ _),⟨fun b hb=>?_,h.dis.sublist (List.drop_sublist _ _)⟩,fun a ha b hb=>?_⟩
  ·rw [ovA_comm];exact ho b (List.mem_of_mem_drop hb)
  ·rcases List.mem_cons.1 hb with rfl | hb
   ·exact ho a (List.mem_of_mem_take ha)
   ·have hp:=h.dis
    rw [← List.take_append_drop (plA l x) l,List.pairwise_append] at hp
    exact hp.2.2 a ha b hb
theorem ok_nil:Ok []:=⟨by simp,by simp,.nil,.nil⟩
theorem ok_apN (cs:List UInt8):∀ (n a:Nat) (l:List App),Ok l→Ok (apN cs n a l).1
 | 0,a,l,h=>h
 | n + 1,a,l,h=>ok_apN cs n _ _ (ok_add h)
theorem ok_apA (cs:List UInt8) (a:Nat):Ok (apA cs a).1:=ok_apN cs _ _ _ ok_nil
theorem uniq {l:List App} (h:Ok l) {p:ByteArray} {t:Int}:∀ (i j:Nat) (hi:i < l.length) (hj:j < l.length),atA p t l[i] = true→atA p t l[j] = true→i = j:=by
 have key:∀ (i j:Nat) (hi:i < l.length) (hj:j < l.length),i < j→atA p t l[i] = true→atA p t l[j] = true→False:=by
  intro i j hi hj hij h1 h2
  have h3:=List.pairwise_iff_getElem.1 h.dis i j hi hj hij
  rw [atA_iff] at h1 h2
  rw [ovA_iff.2 ⟨h1.1.trans h2.1.symm,by omega,by omega⟩] at h3
  cases h3
 intro i j hi hj h1 h2
 rcases Nat.lt_trichotomy i j with h3 | h3 | h3
 ·exact (key i j hi hj h3 h1 h2).elim
 ·exact h3
 ·exact (key j i hj hi h3 h2 h1).elim
theorem find_u {l:List App} (h:Ok l) {p:ByteArray} {t:Int} {i:Nat} (hi:i < l.length) (hp:atA p t l[i] = true):l.find? (atA p t) = some l[i]:=by
 refine find_atQ hi ?_ hp
 rw [List.any_eq_false]
 intro y hy
 obtain ⟨j,hj,rfl⟩:=List.mem_take_iff_getElem.1 hy
 intro h2
 have:=uniq h i j hi (by omega) hp h2
 omega
theorem ok_end {l:List App} {p:ByteArray} {t:Int} (h:Ok l):Ok (endA l p t).1:=by
 have hc:=ok_iff.2 h
 unfold endA
 rw [if_neg (by rw [hc];simp)]
 split
 case isFalse=>exact h
 rename_i hf
 obtain ⟨hlt,hfi⟩:=find_idx hf
 generalize hk:l.findIdx (atA p t) = k at *
 rw [getD_get hlt]
 have hat:atA p t l[k] = true:=by
  have:=List.find?_some hfi
  exact this
 rw [atA_iff] at hat
 split
 ·have hsub:(l.eraseIdx k).Sublist l:=List.eraseIdx_sublist _ _
  exact ⟨Nat.le_trans hsub.length_le h.len,fun x hx=>h.sing x (hsub.subset hx),h.srt.sublist hsub,h.dis.sublist hsub⟩
 ·rename_i hne
  have hne:l[k].fr≠t:=hne
  obtain ⟨g1,g2,g3,g4⟩:=single_parts (h.sing _ (List.getElem_mem hlt))
  have hcs:singleI (cutU l[k] t) = 0:=single_of g1 ⟨g2,by simp only;omega,by simp only;omega⟩
  refine ⟨by simpa using h.len,fun x hx=>?_,?_,?_⟩
  ·rcases List.mem_or_eq_of_mem_set hx with hx | hx
   ·exact h.sing x hx
   ·rw [hx];exact hcs
  ·rw [List.pairwise_iff_getElem]
   intro i j hi hj hij
   rw [List.length_set] at hi hj
   have h0:=List.pairwise_iff_getElem.1 h.srt i j hi hj hij
   rw [List.getElem_set,List.getElem_set]
   rw [befB_iff] at h0 ⊢
   split <;> split
   ·rename_i e1 e2;subst e1 e2;omega
   ·rename_i e1 e2;subst e1;exact h0
   ·rename_i e1 e2;subst e2;exact h0
   ·exact h0
  ·rw [List.pairwise_iff_getElem]
   intro i j hi hj hij
   rw [List.length_set] at hi hj
   have h0:=List.pairwise_iff_getElem.1 h.dis i j hi hj hij
   cases hov:ovA (l.set k (cutU l[k] t))[j] (l.set k (cutU l[k] t))[i] with
   | false=>rfl
   | true=>
     exfalso
     rw [ovA_iff,List.getElem_set,List.getElem_set] at hov
     have:ovA l[j] l[i] = true:=by
      rw [ovA_iff]
      split at hov <;> split at hov
      ·rename_i e1 e2;subst e1 e2;omega
      ·rename_i e1 e2;subst e1;simp only at hov;exact ⟨hov.1,by omega,by omega⟩
      ·rename_i e1 e2;subst e2;simp only at hov;exact ⟨hov.1,by omega,by omega⟩
      ·exact hov
     rw [this] at h0
     cases h0
end Go.Proofs
