/- A part of the proof: ZzSrt. -/
import Derived.Test.YtnfagfikoblhfaaGreatDoorK9
namespace Go.TL.So
section
variable {α:Type} [Inhabited α]
abbrev gd (xs:List α) (i:Nat):α:=xs.getD i default
def swp (xs:List α) (i j:Nat):List α:=(xs.set i (gd xs j)).set j (gd xs i)
theorem zy2 {xs:List α} {i:Nat} (h:i<xs.length):gd xs i=xs[i]:=by simp [gd,CY,CK h]
theorem jI8 {xs:List α} {i:Nat} (h:i<xs.length) (v:α) (k:Nat):gd (xs.set i v) k=if k=i then v else gd xs k:=by
 simp only[gd,CY,List.getElem?_set];by_cases e:i=k
 ·subst e;simp [h]
 ·rw[Aq e,Aq (fun h=>e h.symm)]
theorem zf (xs:List α) (i j:Nat):(swp xs i j).length=xs.length:=by simp [swp]
theorem QQ {xs:List α} {i j:Nat} (hi:i<xs.length) (hj:j<xs.length) (k:Nat):gd (swp xs i j) k=if k=j then gd xs i else if k=i then gd xs j else gd xs k:=by
 unfold swp;rw[jI8 (by simpa using hj),jI8 hi]
theorem jy7 {xs:List α} {i j:Nat} (hi:i<xs.length) (hj:j<xs.length):(swp xs i j).Perm xs:=by
 unfold swp;rw[zy2 hi,zy2 hj];exact List.set_set_perm hi hj
inductive Sw (a b:Nat):List α→List α→Prop
 | refl (xs:List α):Sw a b xs xs
 | step {xs ys:List α} {i j:Nat} (h:Sw a b xs ys) (hi:a≤i∧i<b) (hj:a≤j∧j<b) (hl:b≤ys.length):Sw a b xs (swp ys i j)
variable {a b:Nat} {xs ys zs:List α}
theorem Sw.trans (h1:Sw a b xs ys) (h2:Sw a b ys zs):Sw a b xs zs:=by
 induction h2 with
 | refl=>exact h1
 | step _ hi hj hl ih=>exact .step ih hi hj hl
theorem Sw.one {i j:Nat} (hi:a≤i∧i<b) (hj:a≤j∧j<b) (hl:b≤xs.length):Sw a b xs (swp xs i j):=.step (.refl xs) hi hj hl
theorem Sw.len (h:Sw a b xs ys):ys.length=xs.length:=by
 induction h with
 | refl=>rfl
 | step _ _ _ _ ih=>rw[zf,ih]
theorem Sw.mono {c d:Nat} (h:Sw a b xs ys) (h1:c≤a) (h2:b≤d) (h3:d≤xs.length):Sw c d xs ys:=by
 induction h with
 | refl=>exact .refl _
 | step h hi hj hl ih=>exact .step ih ⟨oM,oM⟩ ⟨oM,oM⟩ (by rw[h.len];exact h3)
theorem Sw.perm (h:Sw a b xs ys):ys.Perm xs:=by
 induction h with
 | refl=>exact .refl _
 | step _ hi hj hl ih=>exact (jy7 oM oM).trans ih
theorem Sw.out (h:Sw a b xs ys) {k:Nat} (hk:k<a∨b≤k):gd ys k=gd xs k:=by
 induction h with
 | refl=>rfl
 | step _ hi hj hl ih=>rw[QQ oM oM,Aq oM,Aq oM,ih]
theorem Sw.all (h:Sw a b xs ys) (p:α→Prop) (hp:∀ k,a≤k→k<b→p (gd xs k)):∀ k,a≤k→k<b→p (gd ys k):=by
 induction h with
 | refl=>exact hp
 | step _ hi hj hl ih=>
   intro k h1 h2;rw[QQ oM oM];split
   ·exact ih _ hi.1 hi.2
   ·split
    ·exact ih _ hj.1 hj.2
    ·exact ih k h1 h2
end
structure SWOrd {α:Type} (lt:α→α→Bool):Prop where
 asym:∀ x y,lt x y=true→lt y x=false
 trans:∀ x y z,lt y x=false→lt z y=false→lt z x=false
section
variable {α:Type} [Inhabited α] (lt:α→α→Bool)
abbrev lew (x y:α):Prop:=lt y x=false
omit [Inhabited α] in
theorem SWOrd.refl {lt:α→α→Bool} (h:SWOrd lt) (x:α):lew lt x x:=by
 show lt x x=false;cases e:lt x x with
 | false=>rfl
 | true=>have:=h.asym x x e;rw[e] at this;cases this
def Srt (xs:List α) (a b:Nat):Prop:=∀ i j,a≤i→i<j→j<b→lew lt (gd xs i) (gd xs j)
def insJ (a:Nat):Nat→List α→List α
 | 0,xs=>xs
 | j+1,xs=>if a<j+1∧lt (gd xs (j+1)) (gd xs j)=true then insJ a j (swp xs (j+1) j) else xs
def insF (a:Nat):Nat→Nat→List α→List α
 | 0,_,xs=>xs
 | k+1,i,xs=>insF a k (i+1) (insJ lt a i xs)
def insS (xs:List α) (a b:Nat):List α:=insF lt a (b-(a+1)) (a+1) xs
theorem qO7 {a b:Nat}:∀ (j:Nat) (xs:List α),a≤j→j<b→b≤xs.length→Sw a b xs (insJ lt a j xs)
 | 0,xs,_,_,_=>.refl xs
 | j+1,xs,h1,h2,h3=>by
   unfold insJ;split
   ·rename_i h;exact (Sw.one ⟨oM,oM⟩ ⟨oM,oM⟩ h3).trans (qO7 j _ oM oM (by rw[zf];exact h3))
   ·exact .refl xs
theorem zj7 {lt:α→α→Bool} (ho:SWOrd lt) {a i:Nat}:∀ (j:Nat) (xs:List α),a≤j→j≤i→i<xs.length→(∀ p q,a≤p→p<q→q≤i→q≠j→lew lt (gd xs p) (gd xs q))→Srt lt (insJ lt a j xs) a (i+1)
 | 0,xs,h1,_,_,h=>fun p q h2 h3 h4=>h p q h2 h3 oM oM
 | j+1,xs,h1,h2,h3,h=>by
   unfold insJ;split
   ·rename_i hc;refine zj7 ho j _ oM oM (by rw[zf];exact h3) fun p q hp hpq hq hqj=>?_;rw[QQ oM oM,QQ oM oM];by_cases e1:q=j+1
    ·subst e1;rw[Aq hqj,Aj rfl];by_cases e2:p=j
     ·rw[Aj e2];exact ho.asym _ _ hc.2
     ·rw[Aq e2,Aq oM];exact h p j hp oM oM oM
    ·rw[Aq hqj,Aq e1];by_cases e2:p=j
     ·rw[Aj e2];exact h (j+1) q oM oM hq e1
     ·rw[Aq e2];by_cases e3:p=j+1
      ·rw[Aj e3];exact h j q oM oM hq e1
      ·rw[Aq e3];exact h p q hp hpq hq e1
   ·rename_i hc;intro p q hp hpq hq;by_cases e:q=j+1
    ·subst e;by_cases ha:a<j+1
     ·have hle:lew lt (gd xs j) (gd xs (j+1)):=by
       have:¬ lt (gd xs (j+1)) (gd xs j)=true:=fun h=>hc ⟨ha,h⟩;simpa using this
      by_cases e2:p=j
      ·subst e2;exact hle
      ·exact ho.trans _ _ _ (h p j hp oM oM oM) hle
     ·omega
    ·exact h p q hp hpq oM e
theorem jn6 {a b:Nat}:∀ (k i:Nat) (xs:List α),a≤i→i+k≤b→b≤xs.length→Sw a b xs (insF lt a k i xs)
 | 0,_,xs,_,_,_=>.refl xs
 | k+1,i,xs,h1,h2,h3=>by
   unfold insF;have h4:=qO7 lt (a:=a) (b:=b) i xs h1 oM h3;exact h4.trans (jn6 k (i+1) _ oM oM (by rw[h4.len];exact h3))
theorem zR8 {lt:α→α→Bool} (ho:SWOrd lt) {a:Nat}:∀ (k i:Nat) (xs:List α),a≤i→i+k≤xs.length→Srt lt xs a i→Srt lt (insF lt a k i xs) a (i+k)
 | 0,i,xs,_,_,h=>h
 | k+1,i,xs,h1,h2,h=>by
   unfold insF;have h4:=qO7 lt (a:=a) (b:=xs.length) i xs h1 oM (BZ _);have h5:=zj7 ho i xs h1 (BZ _) oM fun p q hp hpq hq hqi=>h p q hp hpq oM;have:=zR8 ho k (i+1) _ oM (by rw[h4.len];omega) h5
   rwa [show i+1+k=i+(k+1) by omega] at this
theorem jO0 {a b:Nat} (xs:List α) (h1:a≤b) (h2:b≤xs.length):Sw a b xs (insS lt xs a b):=by
 unfold insS;by_cases h:a<b
 ·exact jn6 lt _ _ xs oM oM h2
 ·rw[show b-(a+1)=0 by omega];exact .refl xs
theorem jy8 {lt:α→α→Bool} (ho:SWOrd lt) {a b:Nat} (xs:List α) (h1:a≤b) (h2:b≤xs.length):Srt lt (insS lt xs a b) a b:=by
 unfold insS;by_cases h:a<b
 ·have:=zR8 ho (a:=a) (b-(a+1)) (a+1) xs oM oM (fun p q _ _ _=>by omega)
  rwa [show a+1+(b-(a+1))=b by omega] at this
 ·intro p q _ _ _;omega
def kid (xs:List α) (first hi r:Nat):Nat:=if 2*r+2<hi∧lt (gd xs (first+(2*r+1))) (gd xs (first+(2*r+2)))=true then 2*r+2 else 2*r+1
def sift (first hi:Nat):Nat→Nat→List α→List α
 | 0,_,xs=>xs
 | f+1,r,xs=>if hi≤2*r+1 then xs else if lt (gd xs (first+r)) (gd xs (first+kid lt xs first hi r))=false then xs else sift first hi f (kid lt xs first hi r) (swp xs (first+r) (first+kid lt xs first hi r))
def Ch (r c:Nat):Prop:=c=2*r+1∨c=2*r+2
theorem jn7 (xs:List α) {first hi r:Nat} (h:2*r+1<hi):Ch r (kid lt xs first hi r)∧kid lt xs first hi r<hi:=by
 unfold kid Ch;split
 ·rename_i h1;exact⟨.inr rfl,h1.1⟩
 ·exact⟨.inl rfl,h⟩
theorem jO1 {lt:α→α→Bool} (ho:SWOrd lt) (xs:List α) {first hi r c:Nat} (hc:Ch r c) (h:c<hi):lew lt (gd xs (first+c)) (gd xs (first+kid lt xs first hi r)):=by
 unfold kid;split
 ·rename_i h1;rcases hc with rfl | rfl
  ·exact ho.asym _ _ h1.2
  ·exact ho.refl _
 ·rename_i h1;rcases hc with rfl | rfl
  ·exact ho.refl _
  ·have:¬ lt (gd xs (first+(2*r+1))) (gd xs (first+(2*r+2)))=true:=fun e=>h1 ⟨h,e⟩;simpa using this
theorem ql5 {first hi:Nat}:∀ (f r:Nat) (xs:List α),first+hi≤xs.length→Sw first (first+hi) xs (sift lt first hi f r xs)
 | 0,_,xs,_=>.refl xs
 | f+1,r,xs,h=>by
   unfold sift;split
   ·exact .refl xs
   ·split
    ·exact .refl xs
    ·have hk:=jn7 lt xs (first:=first) (hi:=hi) (r:=r) oM;exact (Sw.one ⟨oM,oM⟩ ⟨oM,oM⟩ h).trans (ql5 f _ _ (by rw[zf];exact h))
def Heap (first lo hi:Nat) (xs:List α):Prop:=∀ r c,lo≤r→Ch r c→c<hi→lew lt (gd xs (first+c)) (gd xs (first+r))
theorem qO8 {lt:α→α→Bool} (ho:SWOrd lt) {first lo hi:Nat}:∀ (f r:Nat) (xs:List α),first+hi≤xs.length→lo≤r→hi≤r+f→
 (∀ q c,lo≤q→q≠r→Ch q c→c<hi→lew lt (gd xs (first+c)) (gd xs (first+q)))→(∀ p c,lo≤p→Ch p r→Ch r c→c<hi→lew lt (gd xs (first+c)) (gd xs (first+p)))→Heap lt first lo hi (sift lt first hi f r xs)
 | 0,r,xs,_,_,h3,h4,_=>fun q c h5 h6 h7=>h4 q c h5 (by rcases h6 with e | e <;> omega) h6 h7
 | f+1,r,xs,h1,h2,h3,h4,h5=>by
   unfold sift;split
   ·intro q c hq hc hh;exact h4 q c hq (by rcases hc with e | e <;> omega) hc hh
   ·rename_i hr;have hk:=jn7 lt xs (first:=first) (hi:=hi) (r:=r) oM;have hm:=fun c hc hh=>jO1 ho xs (first:=first) (hi:=hi) (r:=r) (c:=c) hc hh;generalize kid lt xs first hi r=k at *
    obtain⟨hk1,hk2⟩:=hk;have hrk:r<k:=by rcases hk1 with e | e <;> omega
    split
    ·rename_i hle;intro q c hq hc hh;by_cases e:q=r
     ·subst e;exact ho.trans _ _ _ (hm c hc hh) hle
     ·exact h4 q c hq e hc hh
    ·rename_i hlt;have hlt:lt (gd xs (first+r)) (gd xs (first+k))=true:=by simpa using hlt
     have hg:∀ m,gd (swp xs (first+r) (first+k)) (first+m)=if m=k then gd xs (first+r) else if m=r then gd xs (first+k) else gd xs (first+m):=by
      intro m;rw[QQ oM oM];by_cases e:m=k
      ·rw[Aj oM,Aj e]
      ·rw[Aq oM,Aq e];by_cases e2:m=r
       ·rw[Aj oM,Aj e2]
       ·rw[Aq oM,Aq e2]
     refine qO8 ho f k _ (by rw[zf];exact h1) oM oM (fun q c hq hqk hc hh=>?_) (fun p c hp hpk hc hh=>?_)
     ·rw[hg,hg,Aq hqk];by_cases e:q=r
      ·subst e;rw[Aj rfl];by_cases e2:c=k
       ·rw[Aj e2];exact ho.asym _ _ hlt
       ·rw[Aq e2,Aq (by rcases hc with e | e <;> omega)];exact hm c hc hh
      ·rw[Aq e];by_cases e2:c=k
       ·exfalso;rcases hc with e1 | e1 <;> rcases hk1 with e3 | e3 <;> omega
       ·rw[Aq e2];by_cases e3:c=r
        ·subst e3;rw[Aj rfl];exact h5 q k hq hc hk1 hk2
        ·rw[Aq e3];exact h4 q c hq e hc hh
     ·have hpr:p=r:=by rcases hpk with e1 | e1 <;> rcases hk1 with e3 | e3 <;> omega
      subst hpr;have hck:c≠k:=by rcases hc with e1 | e1 <;> omega
      have hcp:c≠p:=by rcases hc with e1 | e1 <;> omega
      rw[hg,hg,Aq hck,Aq hcp,Aq oM,Aj rfl];exact h4 k c oM oM hc hh
def hB (first hi:Nat):Nat→List α→List α
 | 0,xs=>xs
 | k+1,xs=>hB first hi k (sift lt first hi (hi+1) k xs)
def hS (first:Nat):Nat→List α→List α
 | 0,xs=>xs
 | i+1,xs=>hS first i (sift lt first i (i+1) 0 (swp xs first (first+i)))
def zj8 (xs:List α) (a b:Nat):List α:=hS lt a (b-a) (hB lt a (b-a) ((b-a-1) / 2+1) xs)
theorem jy9 {first hi:Nat}:∀ (k:Nat) (xs:List α),first+hi≤xs.length→Sw first (first+hi) xs (hB lt first hi k xs)
 | 0,xs,_=>.refl xs
 | k+1,xs,h=>by
   unfold hB;have h1:=ql5 lt (first:=first) (hi:=hi) (hi+1) k xs h;exact h1.trans (jy9 k _ (by rw[h1.len];exact h))
theorem jn8 {lt:α→α→Bool} (ho:SWOrd lt) {first hi:Nat}:∀ (k:Nat) (xs:List α),first+hi≤xs.length→Heap lt first k hi xs→Heap lt first 0 hi (hB lt first hi k xs)
 | 0,xs,_,h=>h
 | k+1,xs,h1,h=>by
   unfold hB;have h2:=ql5 lt (first:=first) (hi:=hi) (hi+1) k xs h1;refine jn8 ho k _ (by rw[h2.len];exact h1) (qO8 ho (hi+1) k xs h1 (BZ _) oM (fun q c hq hqk hc hh=>h q c oM hc hh) fun p c hp hpk hc hh=>?_)
   exfalso;rcases hpk with e | e <;> omega
theorem zR9 {lt:α→α→Bool} (ho:SWOrd lt) {first hi:Nat} {xs:List α} (h:Heap lt first 0 hi xs):∀ (n c:Nat),c≤n→c<hi→lew lt (gd xs (first+c)) (gd xs (first+0))
 | 0,c,h1,_=>by rw[Nat.le_zero.1 h1];exact ho.refl _
 | n+1,c,h1,h2=>by
   by_cases e:c=0
   ·subst e;exact ho.refl _
   ·exact ho.trans _ _ _ (h ((c-1) / 2) c oM (by unfold Ch;omega) h2) (zR9 ho h n ((c-1) / 2) oM oM)
theorem jU8 {first:Nat}:∀ (i:Nat) (xs:List α),first+i≤xs.length→Sw first (first+i) xs (hS lt first i xs)
 | 0,xs,_=>.refl xs
 | i+1,xs,h=>by
   unfold hS;have h0:Sw first (first+(i+1)) xs (swp xs first (first+i)):=Sw.one ⟨oM,oM⟩ ⟨oM,oM⟩ h
   have h1:=ql5 lt (first:=first) (hi:=i) (i+1) 0 (swp xs first (first+i)) (by rw[zf];omega);have h2:=jU8 (first:=first) i (sift lt first i (i+1) 0 (swp xs first (first+i))) (by rw[h1.len,zf];omega);refine h0.trans ((h1.trans h2).mono (BZ _) oM (by rw[zf];exact h))
theorem jI9 {lt:α→α→Bool} (ho:SWOrd lt) {first hi:Nat}:∀ (i:Nat) (xs:List α),i≤hi→first+hi≤xs.length→Heap lt first 0 i xs→
 (∀ p q,i≤p→p<q→q<hi→lew lt (gd xs (first+p)) (gd xs (first+q)))→(∀ p q,p<i→i≤q→q<hi→lew lt (gd xs (first+p)) (gd xs (first+q)))→Srt lt (hS lt first i xs) first (first+hi)
 | 0,xs,_,_,_,h4,_=>fun p q hp hpq hq=>by
   have:=h4 (p-first) (q-first) oM oM oM
   rwa [show first+(p-first)=p by omega,show first+(q-first)=q by omega] at this
 | i+1,xs,h1,h2,h3,h4,h5=>by
   unfold hS;have hmax:=fun c hc=>zR9 ho h3 c c (BZ _) hc;have hg:∀ m,gd (swp xs first (first+i)) (first+m)=if m=i then gd xs (first+0) else if m=0 then gd xs (first+i) else gd xs (first+m):=by
    intro m;rw[QQ oM oM];by_cases e:m=i
    ·rw[Aj oM,Aj e];rfl
    ·rw[Aq oM,Aq e];by_cases e2:m=0
     ·rw[Aj oM,Aj e2]
     ·rw[Aq oM,Aq e2]
   have hl:(swp xs first (first+i)).length=xs.length:=zf _ _ _;have hsw:=ql5 lt (first:=first) (hi:=i) (i+1) 0 (swp xs first (first+i)) oM;have hheap:=qO8 ho (first:=first) (lo:=0) (hi:=i) (i+1) 0 (swp xs first (first+i)) oM (BZ _) oM (fun q c _ hq0 hc hh=>by
    rw[hg,hg,Aq oM,Aq (by rcases hc with e | e <;> omega),Aq (by rcases hc with e | e <;> omega),Aq hq0];exact h3 q c oM hc oM) (fun p c _ hp _ _=>by exfalso;rcases hp with e | e <;> omega)
   have htail:∀ q,i≤q→gd (sift lt first i (i+1) 0 (swp xs first (first+i))) (first+q)=if q=i then gd xs (first+0) else gd xs (first+q):=by
    intro q hq;rw[hsw.out (.inr oM),hg];by_cases e:q=i
    ·rw[Aj e,Aj e]
    ·rw[Aq e,Aq e,Aq oM]
   refine jI9 ho i _ oM (by rw[hsw.len,hl];exact h2) hheap (fun p q hp hpq hq=>?_) (fun p q hp hq1 hq2=>?_)
   ·rw[htail p hp,htail q oM,Aq (show ¬ q=i by omega)];by_cases e:p=i
    ·rw[Aj e];exact h5 0 q oM oM hq
    ·rw[Aq e];exact h4 p q oM hpq hq
   ·rw[htail q hq1];have:=hsw.all (fun v=>lew lt v (if q=i then gd xs (first+0) else gd xs (first+q))) (fun k hk1 hk2=>by
     have hm:=hg (k-first);rw[show first+(k-first)=k by omega] at hm;rw[hm,Aq oM];by_cases e:q=i
     ·rw[Aj e];by_cases e2:k-first=0
      ·rw[Aj e2];exact hmax i oM
      ·rw[Aq e2];rw[show k=first+(k-first) by omega];exact hmax (k-first) oM
     ·rw[Aq e];by_cases e2:k-first=0
      ·rw[Aj e2];exact h5 i q oM oM hq2
      ·rw[Aq e2];rw[show k=first+(k-first) by omega];exact h5 (k-first) q oM oM hq2) (first+p) oM oM
    exact this
theorem jz0 {a b:Nat} (xs:List α) (h1:a≤b) (h2:b≤xs.length):Sw a b xs (zj8 lt xs a b):=by
 unfold zj8;have e:a+(b-a)=b:=by omega
 have h3:=jy9 lt (first:=a) (hi:=b-a) ((b-a-1) / 2+1) xs oM;have h4:=jU8 lt (first:=a) (b-a) _ (by rw[h3.len];omega:a+(b-a)≤(hB lt a (b-a) ((b-a-1) / 2+1) xs).length);rw[e] at h3 h4;exact h3.trans h4
theorem jn9 {lt:α→α→Bool} (ho:SWOrd lt) {a b:Nat} (xs:List α) (h1:a≤b) (h2:b≤xs.length):Srt lt (zj8 lt xs a b) a b:=by
 unfold zj8;have h3:=jy9 lt (first:=a) (hi:=b-a) ((b-a-1) / 2+1) xs oM;have h4:=jn8 ho (first:=a) (hi:=b-a) ((b-a-1) / 2+1) xs oM (fun r c hr hc hh=>by exfalso;rcases hc with e | e <;> omega);have:=jI9 ho (first:=a) (hi:=b-a) (b-a) _ (BZ _) (by rw[h3.len];omega) h4 (fun p q _ _ _=>by omega) (fun p q _ _ _=>by omega)
 rwa [show a+(b-a)=b by omega] at this
def up (p:α→Bool) (j:Nat) (xs:List α):Nat→Nat→Nat
 | 0,i=>i
 | f+1,i=>if i≤j∧p (gd xs i)=true then up p j xs f (i+1) else i
def dn (p:α→Bool) (i:Nat) (xs:List α):Nat→Nat→Nat
 | 0,j=>j
 | f+1,j=>if i≤j∧p (gd xs j)=false then dn p i xs f (j-1) else j
theorem jo0 (p:α→Bool) (j:Nat) (xs:List α):∀ (f i:Nat),j+1≤i+f→i≤j+1→i≤up p j xs f i∧up p j xs f i≤j+1∧(∀ k,i≤k→k<up p j xs f i→p (gd xs k)=true)∧¬ (up p j xs f i≤j∧p (gd xs (up p j xs f i))=true)
 | 0,i,h,h2=>⟨BZ _,h2,fun k h3 h4=>by unfold up at h4;omega,fun h3=>by have:=h3.1;unfold up at this;omega⟩
 | f+1,i,h,h2=>by
   unfold up;split
   ·rename_i hc;obtain⟨h3,h4,h5,h6⟩:=jo0 p j xs f (i+1) oM oM;refine⟨oM,h4,fun k h7 h8=>?_,h6⟩;by_cases e:k=i
    ·subst e;exact hc.2
    ·exact h5 k oM h8
   ·rename_i hc;exact⟨BZ _,h2,fun k h3 h4=>by omega,hc⟩
theorem jo1 (p:α→Bool) (i:Nat) (hi:0<i) (xs:List α):∀ (f j:Nat),j+1≤i+f→i≤j+1→dn p i xs f j≤j∧i≤dn p i xs f j+1∧(∀ k,dn p i xs f j<k→k≤j→p (gd xs k)=false)∧¬ (i≤dn p i xs f j∧p (gd xs (dn p i xs f j))=false)
 | 0,j,h,h2=>⟨BZ _,h2,fun k h3 h4=>by unfold dn at h3;omega,fun h3=>by have:=h3.1;unfold dn at this;omega⟩
 | f+1,j,h,h2=>by
   unfold dn;split
   ·rename_i hc;obtain⟨h3,h4,h5,h6⟩:=jo1 p i hi xs f (j-1) oM oM;refine⟨oM,h4,fun k h7 h8=>?_,h6⟩;by_cases e:k=j
    ·subst e;exact hc.2
    ·exact h5 k h7 oM
   ·rename_i hc;exact⟨BZ _,h2,fun k h3 h4=>by omega,hc⟩
def prt (p:α→Bool):Nat→List α→Nat→Nat→List α×Nat×Nat
 | 0,xs,i,j=>(xs,i,j)
 | f+1,xs,i,j=>
   if dn p (up p j xs (j+1-i) i) xs (j+1-up p j xs (j+1-i) i) j<up p j xs (j+1-i) i
   then (xs,up p j xs (j+1-i) i,dn p (up p j xs (j+1-i) i) xs (j+1-up p j xs (j+1-i) i) j)
   else prt p f (swp xs (up p j xs (j+1-i) i) (dn p (up p j xs (j+1-i) i) xs (j+1-up p j xs (j+1-i) i) j)) (up p j xs (j+1-i) i+1) (dn p (up p j xs (j+1-i) i) xs (j+1-up p j xs (j+1-i) i) j-1)
theorem zj9 (p:α→Bool):∀ (f:Nat) (xs:List α) (i j:Nat),0<i→j+1<i+f→i≤j+1→j+1≤xs.length→
 Sw i (j+1) xs (prt p f xs i j).1∧(prt p f xs i j).2.1=(prt p f xs i j).2.2+1∧i≤(prt p f xs i j).2.1∧(prt p f xs i j).2.1≤j+1∧
 (∀ k,i≤k→k<(prt p f xs i j).2.1→p (gd (prt p f xs i j).1 k)=true)∧(∀ k,(prt p f xs i j).2.1≤k→k≤j→p (gd (prt p f xs i j).1 k)=false)
 | 0,xs,i,j,h0,h1,h2,h3=>by omega
 | f+1,xs,i,j,h0,h1,h2,h3=>by
   obtain⟨u1,u2,u3,u4⟩:=jo0 p j xs (j+1-i) i oM h2;unfold prt;generalize up p j xs (j+1-i) i=i' at *
   obtain⟨d1,d2,d3,d4⟩:=jo1 p i' oM xs (j+1-i') j oM u2;generalize dn p i' xs (j+1-i') j=j' at *
   split
   ·rename_i hc;exact⟨.refl xs,by show i'=j'+1;omega,u1,u2,u3,fun k h4 h5=>d3 k (by simp only at h4;omega) h5⟩
   ·rename_i hc;have hpi:p (gd xs i')=false:=by
     cases e:p (gd xs i') with
     | false=>rfl
     | true=>exact absurd ⟨oM,e⟩ u4
    have hpj:p (gd xs j')=true:=by
     cases e:p (gd xs j') with
     | true=>rfl
     | false=>exact absurd ⟨oM,e⟩ d4
    have hne:i'≠j':=fun e=>by rw[e,hpj] at hpi;cases hpi
    obtain⟨r1,r2,r3,r4,r5,r6⟩:=zj9 p f (swp xs i' j') (i'+1) (j'-1) oM oM oM (by rw[zf];omega);have hsw:Sw i (j+1) xs (swp xs i' j'):=Sw.one ⟨oM,oM⟩ ⟨oM,oM⟩ h3;have hl:=zf xs i' j';refine⟨hsw.trans (r1.mono oM oM oM),r2,oM,oM,fun k h4 h5=>?_,fun k h4 h5=>?_⟩
    ·by_cases e:i'+1≤k
     ·exact r5 k e h5
     ·rw[r1.out (.inl oM),QQ oM oM,Aq oM];by_cases e2:k=i'
      ·rw[Aj e2];exact hpj
      ·rw[Aq e2];exact u3 k h4 oM
    ·by_cases e:k≤j'-1
     ·exact r6 k h4 e
     ·rw[r1.out (.inr oM),QQ oM oM];by_cases e2:k=j'
      ·rw[Aj e2];exact hpi
      ·rw[Aq e2,Aq oM];exact d3 k oM h5
def wO (xs:List α) (a b pv:Nat):List α×Nat:=
 (swp (prt (fun v=>lt v (gd xs pv)) b (swp xs a pv) (a+1) (b-1)).1 (prt (fun v=>lt v (gd xs pv)) b (swp xs a pv) (a+1) (b-1)).2.2 a,(prt (fun v=>lt v (gd xs pv)) b (swp xs a pv) (a+1) (b-1)).2.2)
theorem zg0 {a b pv:Nat} (xs:List α) (h1:a≤pv) (h2:pv<b) (h3:b≤xs.length) :
 Sw a b xs (wO lt xs a b pv).1∧a≤(wO lt xs a b pv).2∧(wO lt xs a b pv).2<b∧gd (wO lt xs a b pv).1 (wO lt xs a b pv).2=gd xs pv∧
 (∀ k,a≤k→k<(wO lt xs a b pv).2→lt (gd (wO lt xs a b pv).1 k) (gd xs pv)=true)∧(∀ k,(wO lt xs a b pv).2<k→k<b→lt (gd (wO lt xs a b pv).1 k) (gd xs pv)=false):=by
 unfold wO;have hl:=zf xs a pv;obtain⟨r1,r2,r3,r4,r5,r6⟩:=zj9 (fun v=>lt v (gd xs pv)) b (swp xs a pv) (a+1) (b-1) oM oM oM oM;generalize prt (fun v=>lt v (gd xs pv)) b (swp xs a pv) (a+1) (b-1)=r at *
 obtain⟨ys,i,j⟩:=r;simp only at *
 have hsw:Sw a b xs ys:=(Sw.one ⟨oM,oM⟩ ⟨h1,h2⟩ h3).trans (r1.mono oM oM oM);have hya:gd ys a=gd xs pv:=by
  rw[r1.out (.inl oM),QQ oM oM];split
  ·rename_i e;rw[e]
  ·rw[Aj rfl]
 have hyl:=hsw.len;have hg:=fun k=>QQ (xs:=ys) (i:=j) (j:=a) oM oM k;refine⟨hsw.trans (Sw.one ⟨oM,oM⟩ ⟨oM,oM⟩ oM),oM,oM,?_,fun k h4 h5=>?_,fun k h4 h5=>?_⟩
 ·rw[hg];split
  ·rename_i e;rw[e];exact hya
  ·rw[Aj rfl];exact hya
 ·rw[hg];split
  ·exact r5 j oM oM
  ·rw[Aq oM];exact r5 k oM oM
 ·rw[hg,Aq oM,Aq oM];exact r6 k oM oM
def YN (xs:List α) (a b pv:Nat):List α×Nat:=
 ((prt (fun v=>!lt (gd xs pv) v) b (swp xs a pv) (a+1) (b-1)).1,(prt (fun v=>!lt (gd xs pv) v) b (swp xs a pv) (a+1) (b-1)).2.1)
theorem zg1 {lt:α→α→Bool} (ho:SWOrd lt) {a b pv:Nat} (xs:List α) (h1:a≤pv) (h2:pv<b) (h3:b≤xs.length) :
 Sw a b xs (YN lt xs a b pv).1∧a<(YN lt xs a b pv).2∧(YN lt xs a b pv).2≤b∧
 (∀ k,a≤k→k<(YN lt xs a b pv).2→lew lt (gd (YN lt xs a b pv).1 k) (gd xs pv))∧(∀ k,(YN lt xs a b pv).2≤k→k<b→lt (gd xs pv) (gd (YN lt xs a b pv).1 k)=true):=by
 unfold YN;have hl:=zf xs a pv;obtain⟨r1,r2,r3,r4,r5,r6⟩:=zj9 (fun v=>!lt (gd xs pv) v) b (swp xs a pv) (a+1) (b-1) oM oM oM oM;generalize prt (fun v=>!lt (gd xs pv) v) b (swp xs a pv) (a+1) (b-1)=r at *
 obtain⟨ys,i,j⟩:=r;simp only at *
 have hsw:Sw a b xs ys:=(Sw.one ⟨oM,oM⟩ ⟨h1,h2⟩ h3).trans (r1.mono oM oM oM);have hya:gd ys a=gd xs pv:=by
  rw[r1.out (.inl oM),QQ oM oM];split
  ·rename_i e;rw[e]
  ·rw[Aj rfl]
 refine⟨hsw,oM,oM,fun k h4 h5=>?_,fun k h4 h5=>?_⟩
 ·by_cases e:k=a
  ·subst e;rw[hya];exact ho.refl _
  ·simpa using r5 k oM h5
 ·simpa using r6 k h4 oM
def rvs:Nat→Nat→Nat→List α→List α
 | 0,_,_,xs=>xs
 | f+1,i,j,xs=>if i<j then rvs f (i+1) (j-1) (swp xs i j) else xs
theorem jJ0 {a b:Nat}:∀ (f i j:Nat) (xs:List α),a≤i→j<b→b≤xs.length→Sw a b xs (rvs f i j xs)
 | 0,_,_,xs,_,_,_=>.refl xs
 | f+1,i,j,xs,h1,h2,h3=>by
   unfold rvs;split
   ·exact (Sw.one ⟨oM,oM⟩ ⟨oM,oM⟩ h3).trans (jJ0 f (i+1) (j-1) _ oM oM (by rw[zf];exact h3))
   ·exact .refl xs
def upA (b:Nat) (xs:List α):Nat→Nat→Nat
 | 0,i=>i
 | f+1,i=>if i<b∧lt (gd xs i) (gd xs (i-1))=false then upA b xs f (i+1) else i
theorem zS0 {lt:α→α→Bool} (ho:SWOrd lt) {a b:Nat} (xs:List α):∀ (f i:Nat),b≤i+f→a<i→i≤b→Srt lt xs a i→i≤upA lt b xs f i∧upA lt b xs f i≤b∧Srt lt xs a (upA lt b xs f i)
 | 0,i,h1,h2,h3,h=>⟨BZ _,h3,h⟩
 | f+1,i,h1,h2,h3,h=>by
   unfold upA;split
   ·rename_i hc;obtain⟨h4,h5,h6⟩:=zS0 ho (a:=a) (b:=b) xs f (i+1) oM oM oM (fun p q hp hpq hq=>by
     by_cases e:q=i
     ·subst e;by_cases e2:p=q-1
      ·rw[e2];exact hc.2
      ·exact ho.trans _ _ _ (h p (q-1) hp oM oM) hc.2
     ·exact h p q hp hpq oM)
    exact⟨oM,h5,h6⟩
   ·exact⟨BZ _,h3,h⟩
def shR (b:Nat):Nat→Nat→List α→List α
 | 0,_,xs=>xs
 | f+1,j,xs=>if j<b∧lt (gd xs j) (gd xs (j-1))=true then shR b f (j+1) (swp xs j (j-1)) else xs
theorem jJ1 {a b:Nat}:∀ (f j:Nat) (xs:List α),a<j→b≤xs.length→Sw a b xs (shR lt b f j xs)
 | 0,_,xs,_,_=>.refl xs
 | f+1,j,xs,h1,h2=>by
   unfold shR;split
   ·exact (Sw.one ⟨oM,oM⟩ ⟨oM,oM⟩ h2).trans (jJ1 f (j+1) _ oM (by rw[zf];exact h2))
   ·exact .refl xs
def Pre (xs:List α) (a b:Nat):Prop:=∀ k,0<a→a≤k→k<b→lew lt (gd xs (a-1)) (gd xs k)
theorem Pre.sw {lt:α→α→Bool} {xs ys:List α} {a b:Nat} (h:Pre lt xs a b) (hs:Sw a b xs ys):Pre lt ys a b:=fun k h0 h1 h2=>by
 rw[hs.out (.inl oM)];exact hs.all (fun v=>lew lt (gd xs (a-1)) v) (fun k h3 h4=>h k h0 h3 h4) k h1 h2
theorem zS1 {lt:α→α→Bool} {a b:Nat}:∀ (j:Nat) (xs:List α),a≤j→j<b→b≤xs.length→Pre lt xs a b→insJ lt 0 j xs=insJ lt a j xs
 | 0,xs,_,_,_,_=>rfl
 | j+1,xs,h1,h2,h3,h=>by
   unfold insJ;by_cases ha:a<j+1
   ·by_cases hc:lt (gd xs (j+1)) (gd xs j)=true
    ·rw[Aj ⟨oM,hc⟩,Aj ⟨ha,hc⟩];exact zS1 j _ oM oM (by rw[zf];exact h3) (h.sw (Sw.one ⟨oM,oM⟩ ⟨oM,oM⟩ h3))
    ·rw[Aq (fun e=>hc e.2),Aq (fun e=>hc e.2)]
   ·have e:a=j+1:=by omega
    have:=h (j+1) oM oM h2;rw[e,show j+1-1=j by omega] at this;have hc:¬ lt (gd xs (j+1)) (gd xs j)=true:=by rw[this];simp
    rw[Aq (fun e=>hc e.2),Aq (fun e=>hc e.2)]
def pnsL (a i:Nat) (xs:List α):List α:=if 2≤i-a then insJ lt 0 (i-1) xs else xs
def pnsR (b i:Nat) (xs:List α):List α:=if 2≤b-i then shR lt b (b-(i+1)) (i+1) xs else xs
def pins (a b:Nat):Nat→Nat→List α→List α×Bool
 | 0,_,xs=>(xs,false)
 | f+1,i,xs=>if upA lt b xs (b-i) i=b then (xs,true) else if b-a<50 then (xs,false) else
   pins a b f (upA lt b xs (b-i) i) (pnsR lt b (upA lt b xs (b-i) i) (pnsL lt a (upA lt b xs (b-i) i) (swp xs (upA lt b xs (b-i) i) (upA lt b xs (b-i) i-1))))
theorem zy3 {lt:α→α→Bool} (ho:SWOrd lt) {a b:Nat}:∀ (f i:Nat) (xs:List α),a<i→i≤b→b≤xs.length→Srt lt xs a i→Pre lt xs a b→Sw a b xs (pins lt a b f i xs).1∧((pins lt a b f i xs).2=true→Srt lt (pins lt a b f i xs).1 a b)
 | 0,i,xs,_,_,_,_,_=>⟨.refl xs,fun h=>by cases h⟩
 | f+1,i,xs,h1,h2,h3,h4,h5=>by
   obtain⟨u1,u2,u3⟩:=zS0 ho (a:=a) (b:=b) xs (b-i) i oM h1 h2 h4;unfold pins;generalize upA lt b xs (b-i) i=m at *
   split
   ·rename_i e;exact⟨.refl xs,fun _=>by rw[e] at u3;exact u3⟩
   ·split
    ·exact⟨.refl xs,fun h=>by cases h⟩
    ·rename_i hm _;have s1:Sw a b xs (swp xs m (m-1)):=Sw.one ⟨oM,oM⟩ ⟨oM,oM⟩ h3;have p1:=h5.sw s1;have l1:=s1.len;have hg:=fun k=>QQ (xs:=xs) (i:=m) (j:=m-1) oM oM k;generalize swp xs m (m-1)=x1 at *
     have s2:Sw a b x1 (pnsL lt a m x1)∧Srt lt (pnsL lt a m x1) a m:=by
      unfold pnsL;split
      ·rw[zS1 (m-1) x1 oM oM oM p1];refine⟨qO7 lt (m-1) x1 oM oM oM,?_⟩;have:=zj7 ho (a:=a) (i:=m-1) (m-1) x1 oM (BZ _) oM (fun p q hp hpq hq hqm=>by
        rw[hg,hg,Aq oM,Aq oM,Aq oM,Aq oM];exact u3 p q hp hpq oM)
       rwa [show m-1+1=m by omega] at this
      ·exact⟨.refl _,fun p q _ _ _=>by omega⟩
     generalize pnsL lt a m x1=x2 at *
     obtain⟨s2,o2⟩:=s2;have l2:=s2.len;have s3:Sw m b x2 (pnsR lt b m x2):=by
      unfold pnsR;split
      ·exact jJ1 lt _ _ x2 oM oM
      ·exact .refl _
     generalize pnsR lt b m x2=x3 at *
     have s4:Sw a b xs x3:=(s1.trans s2).trans (s3.mono oM (BZ _) oM);obtain⟨r1,r2⟩:=zy3 ho (a:=a) (b:=b) f m x3 oM oM (by rw[s4.len];exact h3) (fun p q hp hpq hq=>by
      rw[s3.out (.inl oM),s3.out (.inl oM)];exact o2 p q hp hpq hq) (h5.sw s4)
     exact⟨s4.trans r1,r2⟩
def flO (xs:List α) (a b pv:Nat):Bool:=
 decide (dn (fun v=>lt v (gd xs pv)) (up (fun v=>lt v (gd xs pv)) (b-1) (swp xs a pv) (b-1+1-(a+1)) (a+1)) (swp xs a pv) (b-1+1-up (fun v=>lt v (gd xs pv)) (b-1) (swp xs a pv) (b-1+1-(a+1)) (a+1)) (b-1)<up (fun v=>lt v (gd xs pv)) (b-1) (swp xs a pv) (b-1+1-(a+1)) (a+1))
def pdqG (rc:List α→Nat→Nat→Nat→Bool→Bool→List α) (x:List α) (a b pv lim:Nat) (wb wp:Bool):List α:=
 if 0<a∧lt (gd x (a-1)) (gd x pv)=false then rc (YN lt x a b pv).1 (YN lt x a b pv).2 b lim wb wp
 else if (wO lt x a b pv).2-a<b-(wO lt x a b pv).2
 then rc (rc (wO lt x a b pv).1 a (wO lt x a b pv).2 lim true true) ((wO lt x a b pv).2+1) b lim (decide ((b-a) / 8≤(wO lt x a b pv).2-a)) (flO lt x a b pv)
 else rc (rc (wO lt x a b pv).1 ((wO lt x a b pv).2+1) b lim true true) a (wO lt x a b pv).2 lim (decide ((b-a) / 8≤b-(wO lt x a b pv).2)) (flO lt x a b pv)
def pdqH (rc:List α→Nat→Nat→Nat→Bool→Bool→List α) (x:List α) (a b pv:Nat) (hint:Int) (lim:Nat) (wb wp:Bool):List α:=
 if wb=true∧wp=true∧hint=1 then
  if (pins lt a b 5 (a+1) x).2=true then (pins lt a b 5 (a+1) x).1 else pdqG lt rc (pins lt a b 5 (a+1) x).1 a b pv lim wb wp
 else pdqG lt rc x a b pv lim wb wp
def pdqP (cp:List α→Nat→Nat→Nat×Int) (rc:List α→Nat→Nat→Nat→Bool→Bool→List α) (x:List α) (a b:Nat) (lim:Nat) (wb wp:Bool):List α:=
 if (cp x a b).2=2 then pdqH lt rc (rvs (b-a) a (b-1) x) a b (b-1-((cp x a b).1-a)) 1 lim wb wp else pdqH lt rc x a b (cp x a b).1 (cp x a b).2 lim wb wp
def pdq (cp:List α→Nat→Nat→Nat×Int) (br:List α→Nat→Nat→List α):Nat→List α→Nat→Nat→Nat→Bool→Bool→List α
 | 0,xs,_,_,_,_,_=>xs
 | f+1,xs,a,b,lim,wb,wp=>
   if b-a≤12 then insS lt xs a b else if lim=0 then zj8 lt xs a b
   else if wb=true then pdqP lt cp (pdq cp br f) xs a b lim wb wp else pdqP lt cp (pdq cp br f) (br xs a b) a b (lim-1) wb wp
theorem zS2 {lt:α→α→Bool} (ho:SWOrd lt) {zs:List α} {a m b:Nat} (v:α) (h1:∀ k,a≤k→k<m→lew lt (gd zs k) v) (h2:gd zs m=v) (h3:∀ k,m<k→k<b→lew lt v (gd zs k)) (h4:Srt lt zs a m) (h5:Srt lt zs (m+1) b):Srt lt zs a b:=by
 intro i j hi hij hj;by_cases e1:j<m
 ·exact h4 i j hi hij e1
 ·by_cases e2:m<i
  ·exact h5 i j oM hij hj
  ·have hiv:lew lt (gd zs i) v:=by
    by_cases e3:i=m
    ·rw[e3,h2];exact ho.refl _
    ·exact h1 i hi oM
   have hvj:lew lt v (gd zs j):=by
    by_cases e3:j=m
    ·rw[e3,h2];exact ho.refl _
    ·exact h3 j oM hj
   exact ho.trans _ _ _ hiv hvj
abbrev RcOK (f:Nat) (rc:List α→Nat→Nat→Nat→Bool→Bool→List α):Prop:=∀ xs a b lim wb wp,b<a+f→a≤b→b≤xs.length→Pre lt xs a b→Sw a b xs (rc xs a b lim wb wp)∧Srt lt (rc xs a b lim wb wp) a b
theorem zy4 {lt:α→α→Bool} (ho:SWOrd lt) {f:Nat} {rc:List α→Nat→Nat→Nat→Bool→Bool→List α} (hr:RcOK lt f rc) {x:List α} {a b pv lim:Nat} {wb wp:Bool}
 (h1:a≤pv) (h2:pv<b) (h3:b≤x.length) (h4:Pre lt x a b) (h5:b≤a+f):Sw a b x (pdqG lt rc x a b pv lim wb wp)∧Srt lt (pdqG lt rc x a b pv lim wb wp) a b:=by
 unfold pdqG;split
 ·rename_i hc;obtain⟨e1,e2,e3,e4,e5⟩:=zg1 ho x h1 h2 h3;generalize YN lt x a b pv=q at *
  obtain⟨ys,m⟩:=q;dsimp only at *
  have hl:=e1.len;have hp:=h4.sw e1;have hpm:Pre lt ys m b:=fun k _ hk1 hk2=>ho.trans _ _ _ (e4 (m-1) oM oM) (ho.asym _ _ (e5 k hk1 hk2));obtain⟨r1,r2⟩:=hr ys m b lim wb wp oM e3 oM hpm;refine⟨e1.trans (r1.mono oM (BZ _) oM),?_⟩;have hbig:=r1.all (fun v=>lew lt (gd x pv) v) (fun k hk1 hk2=>ho.asym _ _ (e5 k hk1 hk2));have hprev:gd ys (a-1)=gd x (a-1):=e1.out (.inl oM);intro i j hi hij hj;by_cases c1:j<m
  ·rw[r1.out (.inl oM),r1.out (.inl oM)];refine ho.trans _ _ _ (e4 i hi oM) (ho.trans _ (gd x (a-1)) _ hc.2 ?_);have:=hp j hc.1 oM hj
   rwa [hprev] at this
  ·by_cases c2:i<m
   ·rw[r1.out (k:=i) (.inl oM)];exact ho.trans _ _ _ (e4 i hi c2) (hbig j oM hj)
   ·exact r2 i j oM hij hj
 ·obtain⟨e1,e2,e3,e4,e5,e6⟩:=zg0 lt x h1 h2 h3;generalize flO lt x a b pv=fl;generalize wO lt x a b pv=q at *
  obtain⟨ys,m⟩:=q;dsimp only at *
  have hl:=e1.len;have hp:=h4.sw e1;have e5':=fun k hk1 hk2=>ho.asym _ _ (e5 k hk1 hk2);split
  ·obtain⟨r1,r2⟩:=hr ys a m lim true true oM e2 oM (fun k h0 hk1 hk2=>hp k h0 hk1 oM);generalize rc ys a m lim true true=z1 at *
   have l1:=r1.len;have hm1:gd z1 m=gd x pv:=by rw[r1.out (.inr (BZ _)),e4]
   obtain⟨s1,s2⟩:=hr z1 (m+1) b lim (decide ((b-a) / 8≤m-a)) fl oM oM oM (fun k _ hk1 hk2=>by
    rw[show m+1-1=m by omega,hm1,r1.out (.inr oM)];exact e6 k oM hk2)
   generalize rc z1 (m+1) b lim (decide ((b-a) / 8≤m-a)) fl=z2 at *
   refine⟨(e1.trans (r1.mono (BZ _) oM oM)).trans (s1.mono oM (BZ _) oM),zS2 ho (gd x pv) (fun k hk1 hk2=>?_) ?_ (fun k hk1 hk2=>?_) (fun i j hi hij hj=>?_) s2⟩
   ·rw[s1.out (.inl oM)];exact r1.all (fun v=>lew lt v (gd x pv)) e5' k hk1 hk2
   ·rw[s1.out (.inl oM),hm1]
   ·exact s1.all (fun v=>lew lt (gd x pv) v) (fun k hk1 hk2=>by rw[r1.out (.inr oM)];exact e6 k oM hk2) k oM hk2
   ·rw[s1.out (.inl oM),s1.out (.inl oM)];exact r2 i j hi hij hj
  ·obtain⟨r1,r2⟩:=hr ys (m+1) b lim true true oM oM oM (fun k _ hk1 hk2=>by
    rw[show m+1-1=m by omega,e4];exact e6 k oM hk2)
   generalize rc ys (m+1) b lim true true=z1 at *
   have l1:=r1.len;have hm1:gd z1 m=gd x pv:=by rw[r1.out (.inl oM),e4]
   obtain⟨s1,s2⟩:=hr z1 a m lim (decide ((b-a) / 8≤b-m)) fl oM e2 oM (fun k h0 hk1 hk2=>by
    rw[r1.out (.inl oM),r1.out (.inl oM)];exact hp k h0 hk1 oM)
   generalize rc z1 a m lim (decide ((b-a) / 8≤b-m)) fl=z2 at *
   refine⟨(e1.trans (r1.mono oM (BZ _) oM)).trans (s1.mono (BZ _) oM oM),zS2 ho (gd x pv) (fun k hk1 hk2=>?_) ?_ (fun k hk1 hk2=>?_) s2 (fun i j hi hij hj=>?_)⟩
   ·exact s1.all (fun v=>lew lt v (gd x pv)) (fun k hk1 hk2=>by rw[r1.out (.inl oM)];exact e5' k hk1 hk2) k hk1 hk2
   ·rw[s1.out (.inr (BZ _)),hm1]
   ·rw[s1.out (.inr oM)];exact r1.all (fun v=>lew lt (gd x pv) v) (fun k hk1 hk2=>e6 k oM hk2) k oM hk2
   ·rw[s1.out (.inr oM),s1.out (.inr oM)];exact r2 i j hi hij hj
theorem zy5 {lt:α→α→Bool} (ho:SWOrd lt) {f:Nat} {rc:List α→Nat→Nat→Nat→Bool→Bool→List α} (hr:RcOK lt f rc) {x:List α} {a b pv lim:Nat} {hint:Int} {wb wp:Bool}
 (h1:a≤pv) (h2:pv<b) (h3:b≤x.length) (h4:Pre lt x a b) (h5:b≤a+f):Sw a b x (pdqH lt rc x a b pv hint lim wb wp)∧Srt lt (pdqH lt rc x a b pv hint lim wb wp) a b:=by
 unfold pdqH;split
 ·obtain⟨p1,p2⟩:=zy3 ho (a:=a) (b:=b) 5 (a+1) x oM oM h3 (fun p q _ _ _=>by omega) h4;split
  ·rename_i hb;exact⟨p1,p2 hb⟩
  ·obtain⟨r1,r2⟩:=zy4 ho hr (lim:=lim) (wb:=wb) (wp:=wp) h1 h2 (by rw[p1.len];exact h3) (h4.sw p1) h5;exact⟨p1.trans r1,r2⟩
 ·exact zy4 ho hr h1 h2 h3 h4 h5
theorem zy6 {lt:α→α→Bool} (ho:SWOrd lt) {f:Nat} {cp:List α→Nat→Nat→Nat×Int} {rc:List α→Nat→Nat→Nat→Bool→Bool→List α} (hr:RcOK lt f rc) {x:List α} {a b lim:Nat} {wb wp:Bool}
 (h1:a≤(cp x a b).1) (h2:(cp x a b).1<b) (h3:b≤x.length) (h4:Pre lt x a b) (h5:b≤a+f):Sw a b x (pdqP lt cp rc x a b lim wb wp)∧Srt lt (pdqP lt cp rc x a b lim wb wp) a b:=by
 unfold pdqP;split
 ·have s1:=jJ0 (a:=a) (b:=b) (b-a) a (b-1) x (BZ _) oM h3;obtain⟨r1,r2⟩:=zy5 ho hr (pv:=b-1-((cp x a b).1-a)) (hint:=1) (lim:=lim) (wb:=wb) (wp:=wp) oM oM (by rw[s1.len];exact h3) (h4.sw s1) h5;exact⟨s1.trans r1,r2⟩
 ·exact zy5 ho hr h1 h2 h3 h4 h5
theorem zk0 {lt:α→α→Bool} (ho:SWOrd lt) {cp:List α→Nat→Nat→Nat×Int} {br:List α→Nat→Nat→List α}
 (hcp:∀ xs a b,a+12<b→b≤xs.length→a≤(cp xs a b).1∧(cp xs a b).1<b) (hbr:∀ xs a b,a≤b→b≤xs.length→Sw a b xs (br xs a b)):∀ f,RcOK lt f (pdq lt cp br f)
 | 0,xs,a,b,lim,wb,wp,h1,h2,_,_=>by omega
 | f+1,xs,a,b,lim,wb,wp,h1,h2,h3,h4=>by
   unfold pdq;split
   ·exact⟨jO0 lt xs h2 h3,jy8 ho xs h2 h3⟩
   ·split
    ·exact⟨jz0 lt xs h2 h3,jn9 ho xs h2 h3⟩
    ·split
     ·obtain⟨c1,c2⟩:=hcp xs a b oM h3;exact zy6 ho (zk0 ho hcp hbr f) c1 c2 h3 h4 oM
     ·have s1:=hbr xs a b h2 h3;obtain⟨c1,c2⟩:=hcp (br xs a b) a b oM (by rw[s1.len];exact h3);obtain⟨r1,r2⟩:=zy6 ho (zk0 ho hcp hbr f) (lim:=lim-1) (wb:=wb) (wp:=wp) c1 c2 (by rw[s1.len];exact h3) (h4.sw s1) oM;exact⟨s1.trans r1,r2⟩
theorem jO2 {lt:α→α→Bool} (ho:SWOrd lt) {cp:List α→Nat→Nat→Nat×Int} {br:List α→Nat→Nat→List α}
 (hcp:∀ xs a b,a+12<b→b≤xs.length→a≤(cp xs a b).1∧(cp xs a b).1<b) (hbr:∀ xs a b,a≤b→b≤xs.length→Sw a b xs (br xs a b)) (xs:List α) (lim:Nat) :
 (pdq lt cp br (xs.length+1) xs 0 xs.length lim true true).Perm xs∧Srt lt (pdq lt cp br (xs.length+1) xs 0 xs.length lim true true) 0 xs.length:=by
 obtain⟨h1,h2⟩:=zk0 ho hcp hbr (xs.length+1) xs 0 xs.length lim true true oM (Nat.zero_le _) (BZ _) (fun k h0 _ _=>by omega);exact⟨h1.perm,h2⟩
end
theorem up_step {α:Type} [Inhabited α] {p:α→Bool} {j i:Nat} {xs:List α} (h:i≤j) (hp:p (gd xs i)=true):up p j xs (j+1-i) i=up p j xs (j+1-(i+1)) (i+1):=by
 rw[show j+1-i=(j+1-(i+1))+1 by omega,up,Aj ⟨h,hp⟩]
theorem zF8 {α:Type} [Inhabited α] {p:α→Bool} {j i:Nat} {xs:List α} (f:Nat) (h:¬ (i≤j∧p (gd xs i)=true)):up p j xs f i=i:=by
 cases f with
 | zero=>rfl
 | succ f=>rw[up,Aq h]
theorem zF9 {α:Type} [Inhabited α] {p:α→Bool} {j i:Nat} {xs:List α} (h0:0<i) (h:i≤j) (hp:p (gd xs j)=false):dn p i xs (j+1-i) j=dn p i xs (j-1+1-i) (j-1):=by
 rw[show j+1-i=(j-1+1-i)+1 by omega,dn,Aj ⟨h,hp⟩]
theorem zG0 {α:Type} [Inhabited α] {p:α→Bool} {j i:Nat} {xs:List α} (f:Nat) (h:¬ (i≤j∧p (gd xs j)=false)):dn p i xs f j=j:=by
 cases f with
 | zero=>rfl
 | succ f=>rw[dn,Aq h]
theorem jz1 {α:Type} [Inhabited α] {lt:α→α→Bool} {b i:Nat} {xs:List α} (h:i<b) (hp:lt (gd xs i) (gd xs (i-1))=false):upA lt b xs (b-i) i=upA lt b xs (b-(i+1)) (i+1):=by
 rw[show b-i=(b-(i+1))+1 by omega,upA,Aj ⟨h,hp⟩]
theorem jz2 {α:Type} [Inhabited α] {lt:α→α→Bool} {b i:Nat} {xs:List α} (f:Nat) (h:¬ (i<b∧lt (gd xs i) (gd xs (i-1))=false)):upA lt b xs f i=i:=by
 cases f with
 | zero=>rfl
 | succ f=>rw[upA,Aq h]
theorem dand {P:Prop} [Decidable P] {B:Bool}:(decide P&&B)=true→P∧B=true:=by simp
theorem zy7 {P:Prop} [Decidable P] {B:Bool}:(decide P&&B)=false→¬ (P∧B=true):=by
 intro h ⟨h1,h2⟩;rw[Cx h1,h2] at h;cases h
section
variable {α:Type} [Inhabited α] {lt:α→α→Bool}
theorem zk1 {a:Nat}:∀ (j:Nat) (xs:List α),(insJ lt a j xs).length=xs.length
 | 0,xs=>rfl
 | j+1,xs=>by
   unfold insJ;split
   ·rw[zk1 j,zf]
   ·rfl
theorem zS3 {a:Nat}:∀ (k i:Nat) (xs:List α),(insF lt a k i xs).length=xs.length
 | 0,_,xs=>rfl
 | k+1,i,xs=>by unfold insF;rw[zS3 k,zk1]
theorem zk2 {first hi:Nat}:∀ (f r:Nat) (xs:List α),(sift lt first hi f r xs).length=xs.length
 | 0,_,xs=>rfl
 | f+1,r,xs=>by
   unfold sift;split
   ·rfl
   ·split
    ·rfl
    ·rw[zk2 f,zf]
theorem jJ2 {first hi:Nat}:∀ (k:Nat) (xs:List α),(hB lt first hi k xs).length=xs.length
 | 0,xs=>rfl
 | k+1,xs=>by unfold hB;rw[jJ2 k,zk2]
theorem jJ3 {first:Nat}:∀ (k:Nat) (xs:List α),(hS lt first k xs).length=xs.length
 | 0,xs=>rfl
 | k+1,xs=>by unfold hS;rw[jJ3 k,zk2,zf]
theorem zG1 {p:α→Bool}:∀ (f:Nat) (xs:List α) (i j:Nat),(prt p f xs i j).1.length=xs.length
 | 0,xs,i,j=>rfl
 | f+1,xs,i,j=>by
   unfold prt;split
   ·rfl
   ·rw[zG1 f,zf]
theorem zG2:∀ (f i j:Nat) (xs:List α),(rvs f i j xs).length=xs.length
 | 0,_,_,xs=>rfl
 | f+1,i,j,xs=>by
   unfold rvs;split
   ·rw[zG2 f,zf]
   ·rfl
theorem jo2 {b:Nat}:∀ (f j:Nat) (xs:List α),(shR lt b f j xs).length=xs.length
 | 0,_,xs=>rfl
 | f+1,j,xs=>by
   unfold shR;split
   ·rw[jo2 f,zf]
   ·rfl
theorem qK6 {a b:Nat}:∀ (f i:Nat) (xs:List α),(pins lt a b f i xs).1.length=xs.length
 | 0,_,xs=>rfl
 | f+1,i,xs=>by
   unfold pins;split
   ·rfl
   ·split
    ·rfl
    ·rw[qK6 f];unfold pnsR pnsL;split <;> split <;> simp only[jo2,zk1,zf]
theorem zy8 {xs:List α} {a b pv:Nat}:(wO lt xs a b pv).1.length=xs.length:=by
 unfold wO;rw[zf,zG1,zf]
theorem zy9 {xs:List α} {a b pv:Nat}:(YN lt xs a b pv).1.length=xs.length:=by
 unfold YN;rw[zG1,zf]
theorem zS4 {rc:List α→Nat→Nat→Nat→Bool→Bool→List α} (hr:∀ xs a b l w v,(rc xs a b l w v).length=xs.length) {x:List α} {a b pv lim:Nat} {wb wp:Bool}:(pdqG lt rc x a b pv lim wb wp).length=x.length:=by
 unfold pdqG;split
 ·rw[hr,zy9]
 ·split <;> rw[hr,hr,zy8]
theorem jz3 {rc:List α→Nat→Nat→Nat→Bool→Bool→List α} (hr:∀ xs a b l w v,(rc xs a b l w v).length=xs.length) {x:List α} {a b pv lim:Nat} {hint:Int} {wb wp:Bool}:(pdqH lt rc x a b pv hint lim wb wp).length=x.length:=by
 unfold pdqH;split
 ·split
  ·rw[qK6]
  ·rw[zS4 hr,qK6]
 ·rw[zS4 hr]
theorem jo3 {cp:List α→Nat→Nat→Nat×Int} {br:List α→Nat→Nat→List α} (hb:∀ xs a b,(br xs a b).length=xs.length):∀ (f:Nat) (xs:List α) (a b l:Nat) (w v:Bool),(pdq lt cp br f xs a b l w v).length=xs.length
 | 0,xs,_,_,_,_,_=>rfl
 | f+1,xs,a,b,l,w,v=>by
   have hr:∀ xs a b l w v,(pdq lt cp br f xs a b l w v).length=xs.length:=fun xs a b l w v=>jo3 hb f xs a b l w v;unfold pdq;split
   ·unfold insS;rw[zS3]
   ·split
    ·unfold zj8;rw[jJ3,jJ2]
    ·unfold pdqP;split <;> split <;> rw[jz3 hr] <;> simp only[zG2,hb]
end
section
variable {α:Type} [Inhabited α]
omit [Inhabited α] in
theorem jz4 {lt:α→α→Bool} (ho:SWOrd lt):∀ {a b:List α},a.Pairwise (fun x y=>lt x y=true)→b.Pairwise (fun x y=>lt x y=true)→(∀ x,x∈a↔x∈b)→a=b
 | [],[],_,_,_=>rfl
 | [],y::b,_,_,h=>by have:=(h y).2 List.mem_cons_self;cases this
 | x::a,[],_,_,h=>by have:=(h x).1 List.mem_cons_self;cases this
 | x::a,y::b,h1,h2,h=>by
   rw[List.pairwise_cons] at h1 h2;have hxy:x=y:=by
    rcases Ck.1 ((h x).1 List.mem_cons_self) with e | e
    ·exact e
    ·rcases Ck.1 ((h y).2 List.mem_cons_self) with e2 | e2
     ·exact e2.symm
     ·have h3:=h2.1 x e;have h4:=h1.1 y e2;rw[ho.asym _ _ h3] at h4;cases h4
   subst hxy;have ir:∀ v,lt v v=false:=ho.refl;rw[jz4 ho h1.2 h2.2 fun v=>⟨fun hv=>?_,fun hv=>?_⟩]
   ·rcases Ck.1 ((h v).1 (CQ _ hv)) with e | e
    ·have:=h1.1 v hv;rw[e,ir] at this;cases this
    ·exact e
   ·rcases Ck.1 ((h v).2 (CQ _ hv)) with e | e
    ·have:=h2.1 v hv;rw[e,ir] at this;cases this
    ·exact e
def insB (lt:α→α→Bool) (l:List α) (v:α):List α:=l.take (l.findIdx fun y=>!lt y v)++v::l.drop (l.findIdx fun y=>!lt y v)
omit [Inhabited α] in
theorem zS5 {lt:α→α→Bool} {l:List α} {v x:α}:x∈insB lt l v↔x=v∨x∈l:=by
 unfold insB;rw[Dz,Ck]
 conv=>rhs;rw[← List.take_append_drop (l.findIdx fun y=>!lt y v) l,Dz]
 constructor
 ·rintro (h | h | h)
  ·exact .inr (.inl h)
  ·exact .inl h
  ·exact .inr (.inr h)
 ·rintro (h | h | h)
  ·exact .inr (.inl h)
  ·exact .inl h
  ·exact .inr (.inr h)
omit [Inhabited α] in
theorem jo4 {lt:α→α→Bool} {l:List α} {v y:α}:insB lt (y::l) v=if lt y v=true then y::insB lt l v else v::y::l:=by
 unfold insB;rw[List.findIdx_cons];cases h:lt y v <;> simp
omit [Inhabited α] in
theorem zS6 {lt:α→α→Bool} (ho:SWOrd lt) (ht:∀ x y,lt x y=false→lt y x=false→x=y) (htr:∀ x y z,lt x y=true→lt y z=true→lt x z=true) {v:α}:∀ {l:List α},l.Pairwise (fun x y=>lt x y=true)→v∉l→(insB lt l v).Pairwise (fun x y=>lt x y=true)
 | [],_,_=>List.pairwise_singleton _ _
 | y::l,h,hv=>by
   rw[jo4];rw[List.pairwise_cons] at h;split
   ·rename_i c;rw[List.pairwise_cons];refine⟨fun x hx=>?_,zS6 ho ht htr h.2 fun e=>hv (CQ _ e)⟩;rcases zS5.1 hx with e | e
    ·rw[e];exact c
    ·exact h.1 x e
   ·rename_i c;have c:lt y v=false:=by simpa using c
    have hvy:lt v y=true:=by
     cases e:lt v y with
     | true=>rfl
     | false=>exact absurd (ht _ _ e c) fun e=>hv (by rw[e];exact List.mem_cons_self)
    rw[List.pairwise_cons,List.pairwise_cons];refine⟨fun x hx=>?_,h⟩;rcases Ck.1 hx with e | e
    ·rw[e];exact hvy
    ·exact htr _ _ _ hvy (h.1 x e)
end
end Go.TL.So
