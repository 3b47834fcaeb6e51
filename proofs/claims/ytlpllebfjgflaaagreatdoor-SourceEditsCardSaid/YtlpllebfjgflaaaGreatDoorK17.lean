/- A part of the proof: trees of Go values, short forms, contracts. -/
import Derived.WalkKit
import Derived.Still
import Derived.MapKept
import GoSem.Builtin.Cap
import Derived.Laws.Externs
import GoSem.Extern.SlicesOverlaps
import Derived.Carry
import Derived.ProofKit
import Derived.OpenShut
import Derived.HandedShaped
import Derived.Lay
import Derived.LaidLaws
import Derived.MakeChecks
import Derived.SevenTiedAt
import Derived.Test.YtlpllebfjgflaaaGreatDoorChecked
import Derived.Test.YtlpllebfjgflaaaGreatDoorK16
set_option linter.unusedSimpArgs false
set_option linter.unusedVariables false
namespace Go.Proofs
open Go Go.TL
set_option maxRecDepth 4000
set_option maxHeartbeats 8000000
theorem YQ {cs:List Cod}:∀ {n:Nat} {v:Int},lvs cs n = some v→∀ j,j < n→Wm cs j = true→(dep cs j:Int) = v
 | 0,_,_,j,h,_=>by omega
 | n + 1,v,h,j,hj,hl=>by
   rw [YP] at h
   cases e:lvs cs n with
   | none=>rw [e] at h;cases h
   | some w=>
     rw [e] at h
     have ih:=fun k hk h2=>YQ e k hk h2
     unfold lvS at h
     dsimp only at h
     split at h
     ·split at h
      ·cases h
      ·rename_i h2
       have hv:(dep cs n:Int) = v:=by simpa using h
       by_cases e2:j = n
       ·rw [e2];exact hv
       ·have:=ih j (by omega) hl
        omega
     ·rename_i h2
      have hv:w = v:=by simpa using h
      by_cases e2:j = n
      ·rw [e2] at hl;exact absurd hl h2
      ·have:=ih j (by omega) hl
       omega
theorem qT4 {cs:List Cod} {c:Nat}:Wm cs c = true↔∀ i,i < cs.length→parC cs i≠c:=by
 unfold Wm
 rw [Bool.not_eq_true',List.any_eq_false]
 constructor
 ·intro h i hi e
  have:=h cs[i] (List.getElem_mem hi)
  rw [parC,cdAt,qo hi] at e
  simp [e] at this
 ·intro h x hx
  obtain ⟨i,hi,rfl⟩:=List.getElem_of_mem hx
  have:=h i hi
  rw [parC,cdAt,qo hi] at this
  simpa using this
theorem zw5 {l:CodL} (h:lstE l = 0):∃ v,lvs l.codes l.codes.length = some v:=by
 unfold lstE at h
 split at h
 ·cases h
 ·split at h
  ·cases h
  ·split at h
   ·cases h
   ·split at h
    ·rename_i h2;exact absurd h h2
    ·split at h
     ·cases h
     ·rename_i v e;exact ⟨v,e⟩
theorem zH7 {l:CodL} (h:lstE l = 0) {c:Nat} (hc:c < l.codes.length):(dep l.codes c:Int)≤kZ l - 1∧(Wm l.codes c = true→(dep l.codes c:Int) = kZ l - 1)∧(Wm l.codes c = false→(dep l.codes c:Int) < kZ l - 1):=by
 obtain ⟨hp,h1,h2⟩:=jW h
 obtain ⟨v,hv⟩:=zw5 h
 have hlast:Wm l.codes (l.codes.length - 1) = true:=qT4.2 fun i hi e=>by
  have:=(hp i hi).2
  omega
 have hlv:=YQ hv (l.codes.length - 1) (by omega) hlast
 have hL:kZ l - 1 = v:=by rw [kZ,if_neg (by rw [h];simp)];omega
 have hall:∀ k c,l.codes.length - c = k→c < l.codes.length→(dep l.codes c:Int)≤v∧(Wm l.codes c = false→(dep l.codes c:Int) < v):=by
  intro k
  induction k using Nat.strongRecOn with
  | _ k ih=>
    intro c hk hc
    cases hl:Wm l.codes c with
    | true=>
      have:=YQ hv c hc hl
      exact ⟨by omega,fun e=>by cases e⟩
    | false=>
      have hn:¬ ∀ i,i < l.codes.length→parC l.codes i≠c:=fun k=>by rw [qT4.2 k] at hl;cases hl
      simp only [Classical.not_forall] at hn
      obtain ⟨i,hi,hn⟩:=hn
      have hpc:parC l.codes i = c:=Classical.byContradiction hn
      have h3:=hp i hi
      have h4:=qs8 hp hi (by omega)
      rw [hpc,Int.toNat_natCast] at h4
      have h5:=ih (l.codes.length - i) (by omega) i rfl hi
      have:=h5.1
      exact ⟨by omega,fun _=>by omega⟩
 have:=hall _ c rfl hc
 rw [hL]
 exact ⟨this.1,fun hl=>YQ hv c hc hl,this.2⟩
theorem zw6 {l:CodL} (h:lstE l = 0) {c:Nat} (hc:c < l.codes.length):Wm l.codes c = true↔(dep l.codes c:Int) = kZ l - 1:=by
 obtain ⟨_,h2,h3⟩:=zH7 h hc
 cases hl:Wm l.codes c with
 | true=>exact ⟨fun _=>h2 hl,fun _=>rfl⟩
 | false=>
   have:=h3 hl
   exact ⟨(by intro e;cases e),fun e=>by omega⟩
theorem ZE (p:Cod→Bool) (f:FuncId) (caps:List T) (hcap:imL caps = true) (l:List Cod) (hf:∀ y∈l,Spc Tryz.prog f (codT y :: caps) [] (vB (p y)) []) (hl:l.length < 4611686018427387904) :
 Spc Tryz.prog zX [.sl 2 (l.map codT),.clo f caps] [] (vI (idxI p l)) []:=by
 refine qd QT mixm (by simp) fun e _ hst=>qj ?_
 unfold zT
 refine sW ?_
 refine qy mixm (α:=Nat) [8] (fun i=>i≤l.length∧((l.take i).any p = false)) (fun i=>[(8,vI i)]) (fun i=>[]) (fun i=>l.length - i) 0 ⟨by omega,?_⟩ ?_ fun i hi=>?_
 ·simp
 ·exact .oA [] []
 simp only [tZ,↓un_u,simprocAttr,decide_eq_true_eq,decide_eq_false_iff_not]
 refine ⟨fun h=>?_,fun h=>?_⟩
 ·have hi2:i < l.length:=by omega
  have hwi:=qh (i:=i) (by omega)
  simp only [tZ,↓un_u,simprocAttr,Int.toNat_natCast,qe hi2,hwi,WF]
  refine ⟨by omega,?_⟩
  refine C1.im (hf l[i] (List.getElem_mem hi2)) (Wc rfl hcap) rfl ?_
  refine sW ?_
  refine ⟨fun h3=>?_,fun h3=>⟨i + 1,⟨by omega,jz hi2 hi.2 h3⟩,by omega,?_⟩⟩
  ·rw [idxI,if_pos (qn5 hi2 h3),kv hi2 hi.2 h3]
   exact .imR rfl rfl
  ·exact .oA [] []
 ·have h2:i = l.length:=by omega
  have h3:=hi.2
  rw [h2,List.take_length] at h3
  rw [idxI,if_neg (by rw [h3];simp)]
  exact .imR rfl rfl
theorem Qd (p:Cod→Bool) (f:FuncId) (caps:List T) (hcap:imL caps = true) (l:List Cod) (hf:∀ y∈l,Spc Tryz.prog f (codT y :: caps) [] (vB (p y)) []) (hl:l.length < 4611686018427387904) :
 Spc Tryz.prog zF [.sl 2 (l.map codT),.clo f caps] [] (vB (l.any p)) []:=by
 refine qd yU mixm (by simp) fun e _ hst=>qj ?_
 unfold zD
 refine sW ?_
 refine C1.im (ZE p f caps hcap l hf hl) (qq1 rfl hcap) rfl ?_
 refine sW ?_
 rw [show decide (idxI p l≥0) = l.any p from qH3 p l]
 exact .imR rfl rfl
theorem qf8 (x:Cod) (v:Int):Spc Tryz.prog kP [codT x,.ip [vI v]] [] (vB (x.par == v)) []:=by
 refine qd YC mixm (by simp) fun e _ hst=>qj ?_
 unfold wW
 refine sW ?_
 exact .oA [] []
theorem zo4 {l:CodL} (h:lstE l = 0) (v:Int):(decide (0≤v) && decide (v < l.codes.length) && !(l.codes.any fun x=>x.par == v)) = (inB v 0 (l.codes.length - 1) && (lvlC l v == kZ l - 1)):=by
 unfold inB
 by_cases h0:0≤v∧v < l.codes.length
 ·obtain ⟨c,rfl⟩:=Int.eq_ofNat_of_zero_le h0.1
  have hc:c < l.codes.length:=by omega
  have h1:lvlC l c = dep l.codes c:=by rw [lvlC,if_neg (by rw [h];simp;omega),Int.toNat_natCast]
  rw [decide_eq_true h0.1,decide_eq_true h0.2,decide_eq_true (show (c:Int)≤(l.codes.length:Int) - 1 by omega),h1]
  simp only [Bool.true_and]
  rw [Bool.eq_iff_iff,beq_iff_eq,← zw6 h hc]
  rfl
 ·by_cases h1:0≤v
  ·rw [decide_eq_true h1,decide_eq_false (show ¬ v < l.codes.length by omega),decide_eq_false (show ¬ v≤(l.codes.length:Int) - 1 by omega)]
   rfl
  ·rw [decide_eq_false h1]
   rfl
theorem qt3 (s:Sch) (h:SchOk s) (i:Nat) (hi:i < s.cols.length) (v:Int):Spc Tryz.prog Zk [schT s,colT s.cols[i],vI v] [] (vB (jP s i v)) []:=by
 have hat:qu s i = s.cols[i]:=by rw [qu,qo hi]
 have hk:=wJ (h.cs i hi)
 have hcd:=fun e=>h.cdl hi e
 have hE:jP s i v = if s.cols[i].kind = 1 then inB v 1 1048575
  else if s.cols[i].kind = 2 then inB v 0 ((kD s i).codes.length - 1) && (lvlC (kD s i) v == kZ (kD s i) - 1)
  else (s.cols[i].opt && (v == qf2)) || inB v s.cols[i].low s.cols[i].high:=by rw [jP,hat]
 have hcl:kD s i = s.lists.getD s.cols[i].list.toNat default:=by rw [kD,hat]
 rw [hat] at hk hcd
 rw [hE]
 rw [hcl] at hcd ⊢
 generalize s.cols[i] = c at hk hcd ⊢
 refine qd qi9 mixm (by simp) fun e _ hst=>qj ?_
 unfold Qz
 refine sW ?_
 simp only [tZ,↓un_u,simprocAttr,beq_iff_eq,beq_eq_false_iff_ne]
 refine ⟨fun h1=>?_,fun h1=>⟨fun h2=>?_,fun h2=>?_⟩⟩
 ·rw [if_pos h1,show inB v 1 1048575 = (decide (1≤v) && decide (v≤1048575)) from rfl]
  exact .oA [] []
 ·obtain ⟨d1,d2⟩:=hcd h2
  obtain ⟨d3,d4⟩:=hk.2.2.2.1 h2
  have hgl:s.lists.getD c.list.toNat default = s.lists[c.list.toNat]:=qo d1
  rw [if_neg h1,if_pos h2]
  rw [hgl] at d2 ⊢
  obtain ⟨_,d5,d6⟩:=jW d2
  simp only [tZ,↓un_u,simprocAttr,qe d1]
  generalize s.lists[c.list.toNat] = l at d2 d5 d6 ⊢
  have hCF:=Qd (fun x=>x.par == v) kP [.ip [vI v]] rfl l.codes (fun x _=>qf8 x v) (by omega)
  refine ⟨by omega,?_⟩
  refine C2.lend [4104] (fun _=>hCF) (fun _=>?_) (by rfl) (by rfl) ?_
  ·all_goals (try simp only [tL,simprocAttr,List.map_append,List.map_cons,List.map_nil,List.cons_append,List.nil_append])
   all_goals (try (repeat' (first | exact qT | (apply zh;intro _;exact ⟨rfl,rfl⟩) | (apply qt;intro _;exact ⟨rfl,rfl⟩) | with_reducible apply qS | with_reducible refine qW ⟨rfl,rfl⟩ ?_ | exact zi | with_reducible apply qJ | with_reducible refine qD ⟨rfl,rfl,?_⟩ ?_ | with_reducible apply And.intro | exact qK rfl | exact qK (by assumption) | (refine ⟨⟨?_,rfl,?_,rfl,?_⟩,trivial⟩ <;> first | (simp;done) | (apply qt;intro _;exact ⟨rfl,rfl⟩)) | trivial | rfl | (rw [qh (by omega)]) | omega)))
   simp only [ltP]
   exact ⟨rfl,by decide,rfl,qW ⟨rfl,rfl⟩ zi⟩
  refine sW ?_
  rw [← zo4 d2 v]
  exact .oA [] []
 ·rw [if_neg h1,if_neg h2,Bool.or_comm,show inB v c.low c.high = (decide (c.low≤v) && decide (v≤c.high)) from rfl]
  rw [show (c.opt && v == qf2) = (c.opt && v == -1099511627776) from rfl]
  exact .oA [] []
theorem ZF (s:Sch) (h0:schE s = 0) (row:List Int) (hr:row.length < 4611686018427387904):Spc Tryz.prog kL [schT s,vIs row] [] (vB (rowE s row == 0)) []:=by
 have hok:=jb h0
 have hnc:=hok.nc
 refine qd qi1 mixm (by simp) fun e _ hst=>qj ?_
 unfold Qv
 simp only [tZ,↓un_u,simprocAttr,tD,bne_iff_ne,bne_eq_false_iff_eq]
 refine ⟨fun h2=>?_,fun h2=>?_⟩
 ·have:rowE s row = 9:=by rw [rowE,if_neg (by rw [h0];simp),if_pos (by omega)]
  rw [this]
  exact .oA [] []
 refine qy mixm (α:=Nat) [16] (fun i=>i≤s.cols.length∧(∀ j,j < i→jP s j (row.getD j 0) = true)) (fun i=>[(16,vI i)]) (fun i=>[(4096,.arr 2 [schT s] false)]) (fun i=>s.cols.length - i) 0 ⟨by omega,?_⟩ ?_ fun i hi=>?_
 ·intro j hj;omega
 ·exact .oA [(4096,some 4096)] []
 simp only [tZ,↓un_u,simprocAttr,decide_eq_true_eq,decide_eq_false_iff_not]
 refine ⟨fun h=>?_,fun h=>?_⟩
 ·have hi2:i < s.cols.length:=by omega
  have hi3:i < row.length:=by omega
  have hwi:=qh (i:=i) (by omega)
  have hF:=qt3 s hok i hi2 row[i]
  simp only [tZ,↓un_u,simprocAttr,Int.toNat_natCast,qe hi2,qe hi3,hwi]
  refine ⟨by omega,by omega,?_⟩
  refine C1.im hF (by rfl) (by rfl) ?_
  simp only [tZ,↓un_u,simprocAttr,Bool.not_eq_true',Bool.not_eq_false']
  refine ⟨by kernel_rfl,fun h3=>?_,fun h3=>?_⟩
  ·rw [qT3 h0 (by omega) hi3 h3]
   exact .oA [] []
  ·refine ⟨i + 1,⟨by omega,fun j hj=>?_⟩,by omega,?_⟩
   ·by_cases e:j = i
    ·rw [e,qo hi3];exact h3
    ·exact hi.2 j (by omega)
   ·exact .oA [(4096,some 4096)] []
 ·have hil:i = s.cols.length:=by omega
  rw [qI9 h0 (by omega) (fun j hj=>hi.2 j (by omega))]
  exact .oA [] []
end Go.Proofs
namespace Go.Proofs
open Go Go.TL
namespace Cnd
mutual
theorem ind' {p:Cnd→Prop} (h:∀ c,(∀ k∈c.kids,p k)→p c):∀ c,p c
 | .mk _ _ _ _ _ ks=>h _ (inds h ks)
theorem inds {p:Cnd→Prop} (h:∀ c,(∀ k∈c.kids,p k)→p c):∀ ks:List Cnd,∀ k∈ks,p k
 | [],_,hk=>absurd hk (by simp)
 | x :: r,k,hk=>by
   rcases List.mem_cons.1 hk with e | hk
   ·rw [e];exact ind' h x
   ·exact inds h r k hk
end
end Cnd
mutual
def cntC:Cnd→Int→Int
 | .mk _ _ _ _ _ ks,m=>zN2 ks m 1
def zN2:List Cnd→Int→Int→Int
 | [],_,n=>n
 | k :: r,m,n=>if n < m then zN2 r m (n + cntC k (m - n)) else n
end
mutual
def depC:Cnd→Nat
 | .mk _ _ _ _ _ ks=>zN3 ks + 1
def zN3:List Cnd→Nat
 | []=>0
 | k :: r=>max (depC k) (zN3 r)
end
def isB (s:Sch) (col kind:Int):Bool:=decide (0≤col) && decide (col < s.cols.length) && ((qu s col.toNat).kind == kind)
def arC (op:Int):Nat:=if op = 5∨op = 6 then 2 else if op = 7 then 1 else 0
def ndE (s:Sch) (c:Cnd):Int:=
 if c.op < 1∨7 < c.op then 4
 else if c.kids.length≠arC c.op∨(c.op≠2∧c.op≠3∧c.op≠4∧c.col≠0)∨(c.op≠2∧c.code≠0)∨(c.op≠3∧(c.lo≠0∨c.hi≠0)) then 11
 else if (c.op = 2∧isB s c.col 2 = false)∨(c.op = 3∧isB s c.col 3 = false)∨(c.op = 4∧(isB s c.col 3 = false∨(qu s c.col.toNat).opt = false)) then 7
 else if c.op = 2∧(c.code < 0∨c.code≥(kD s c.col.toNat).codes.length) then 6
 else if c.op = 3∧(c.lo < -1000000∨c.hi > 1000000∨c.lo > c.hi) then 2 else 0
mutual
def nodE (s:Sch):Cnd→Int
 | .mk op col code lo hi ks=>if ndE s (.mk op col code lo hi ks)≠0 then ndE s (.mk op col code lo hi ks) else zN4 s ks
def zN4 (s:Sch):List Cnd→Int
 | []=>0
 | k :: r=>if nodE s k≠0 then nodE s k else zN4 s r
end
def chkC (s:Sch) (c:Cnd):Int:=if schE s≠0 then schE s else if cntC c 41 > 40 then 1 else if depC c > 10 then 22 else nodE s c
structure NdOk (s:Sch) (c:Cnd):Prop where
 op:1≤c.op∧c.op≤7
 nk:c.kids.length = arC c.op
 under:c.op = 2→isB s c.col 2 = true∧0≤c.code∧c.code < (kD s c.col.toNat).codes.length
 between:c.op = 3→isB s c.col 3 = true∧-1000000≤c.lo∧c.hi≤1000000∧c.lo≤c.hi
 miss:c.op = 4→isB s c.col 3 = true∧(qu s c.col.toNat).opt = true
def isAt (c:Cnd):Bool:=(c.op == 2) || (c.op == 3) || (c.op == 4)
def tf (b:Bool):Int:=if b then 1 else -1
def zH8 (s:Sch) (c:Cnd) (v:Int):Int:=
 if c.op = 2 then tf (zM8 (kD s c.col.toNat) v c.code)
 else if c.op = 3 then (if v = qf2 then 0 else tf (decide (c.lo≤v) && decide (v≤c.hi)))
 else if c.op = 4 then tf (v == qf2) else -1
def zQ3 (op:Int) (ks:List Int):Int:=if op = 7 then - ks.getD 0 0 else if op = 5 then min (ks.getD 0 0) (ks.getD 1 0) else if op = 6 then max (ks.getD 0 0) (ks.getD 1 0) else 1
mutual
def evC (s:Sch) (row:List Int):Cnd→Int
 | .mk op col code lo hi ks=>if isAt (.mk op col code lo hi ks) = true then zH8 s (.mk op col code lo hi ks) (row.getD col.toNat 0) else zQ3 op (evCs s row ks)
def evCs (s:Sch) (row:List Int):List Cnd→List Int
 | []=>[]
 | k :: r=>evC s row k :: evCs s row r
end
def zQ4 (s:Sch) (c:Cnd) (row:List Int):Int:=if chkC s c≠0∨rowE s row≠0 then 0 else evC s row c
mutual
def atsC:Cnd→List Cnd
 | .mk op col code lo hi ks=>if isAt (.mk op col code lo hi ks) = true then [.mk op col code lo hi ks] else zN5 ks
def zN5:List Cnd→List Cnd
 | []=>[]
 | k :: r=>atsC k ++ zN5 r
end
def zN6 (n:Nat) (p:Nat→Nat→Bool):Bool:=(List.range n).all fun i=>(List.range i).all fun k=>p i k
theorem qT5 {p:Nat→Bool} {n:Nat}:(List.range (n + 1)).all p = ((List.range n).all p && p n):=by rw [List.range_succ,List.all_append];simp
theorem zD6 {p:Nat→Bool} {n i:Nat} (h:i < n) (hp:p i = false):(List.range n).all p = false:=List.all_eq_false.2 ⟨i,List.mem_range.2 h,by rw [hp];simp⟩
def decP (s:Sch) (c:Cnd) (lev:Nat) (i k:Nat):Bool:=
 !((WV s c.col lev ((kW s c.col.toNat).getD i 0) == WV s c.col lev ((kW s c.col.toNat).getD k 0)) && !(zH8 s c ((kW s c.col.toNat).getD i 0) == zH8 s c ((kW s c.col.toNat).getD k 0)))
def decB (s:Sch) (c:Cnd) (lev:Nat):Bool:=
 if c.op = 2 then zN6 (kW s c.col.toNat).length (decP s c lev)
 else if c.op = 4 then decide (0 < lev)
 else
  let x:=qu s c.col.toNat
  let first:=decide (x.low < c.lo) && decide (c.lo≤x.high)
  let behind:=decide (x.low≤c.hi) && decide (c.hi < x.high)
  if lev = 0 then !x.opt && !first && !behind
  else (!first || (c.lo.tmod (Kf x lev) == 0)) && (!behind || ((c.hi + 1).tmod (Kf x lev) == 0))
def zo5 (p:Nat→Bool):Nat→Nat→Nat
 | 0,n=>n
 | f + 1,n=>if p n = true then n else zo5 p f (n + 1)
def decN (s:Sch) (c:Cnd):Nat:=zo5 (decB s c) 64 0
def zQ5 (col lev:Int):List Pk×Bool→Pk→List Pk×Bool:=fun x p=>
 let y:=if p.col > col∧x.2 = false then (x.1 ++ [⟨col,lev⟩],true) else x
 if p.col = col then (y.1 ++ [⟨p.col,max p.lev lev⟩],true) else (y.1 ++ [p],y.2)
def zw7 (l:List Pk) (col lev:Int):List Pk:=
 let x:=l.foldl (zQ5 col lev) ([],decide (lev≤0))
 if x.2 then x.1 else x.1 ++ [⟨col,lev⟩]
def zH9 (s:Sch) (c:Cnd):List Pk:=if chkC s c≠0 then [] else (atsC c).foldl (fun l a=>zw7 l a.col (decN s a)) []
def covB (a b:List Pk):Bool:=a.all fun x=>b.any fun y=>(y.col == x.col) && decide (y.lev≥x.lev)
mutual
def zI0:Cnd→Cnd→Bool
 | .mk a1 a2 a3 a4 a5 ks,.mk b1 b2 b3 b4 b5 ls=>(a1 == b1) && (a2 == b2) && (a3 == b3) && (a4 == b4) && (a5 == b5) && zD7 ks ls
def zD7:List Cnd→List Cnd→Bool
 | [],[]=>true
 | k :: r,l :: t=>zI0 k l && zD7 r t
 | [],_ :: _=>false
 | _ :: _,[]=>false
end
end Go.Proofs
namespace Go.Proofs
open Go Go.TL
def qf9 (f:Nat→Int):Nat→Int
 | 0=>0
 | n + 1=>if qf9 f n≠0 then qf9 f n else f n
def zw8 (s:Sch) (p:Pk):Int:=if schE s≠0 then schE s else if p.col < 1∨p.col≥s.cols.length then 7 else if inB p.lev 0 (finI s p.col) = false then 8 else 0
abbrev pkAt (l:List Pk) (i:Nat):Pk:=l.getD i default
def zN7 (s:Sch) (l:List Pk) (i:Nat):Int:=if zw8 s (pkAt l i)≠0 then zw8 s (pkAt l i) else if 0 < i∧(pkAt l i).col≤(pkAt l (i - 1)).col then 10 else 0
def zo6 (s:Sch) (l:List Pk):Int:=if schE s≠0 then schE s else qf9 (zN7 s l) l.length
def dimE (s:Sch) (l:List Pk) (i:Nat):Int:=if zw8 s (pkAt l i)≠0 then zw8 s (pkAt l i) else if isB s (pkAt l i).col 2 = false then 7 else if ((l.take i).any fun x=>x.col == (pkAt l i).col) = true then 10 else 0
def zI1 (s:Sch) (l:List Pk):Int:=if l.length < 1∨l.length > 3 then 1 else qf9 (dimE s l) l.length
def zQ6 (s:Sch) (m:Int) (l:List Int) (i:Nat):Int:=if isB s (l.getD i 0) 3 = false then 7 else if l.getD i 0 = m∨(l.take i).contains (l.getD i 0) = true then 10 else 0
def zD8 (s:Sch) (m:Int) (l:List Int):Int:=if l.length < 1∨l.length > 3 then 1 else qf9 (zQ6 s m l) l.length
def zD9 (s:Sch) (q:Qst):Int:=
 if q.kind = 1 then (if zI1 s q.dims≠0 then zI1 s q.dims else if q.meas≠-1∧isB s q.meas 3 = false then 7 else 0)
 else if q.kind = 2 then (if isB s q.meas 3 = false then 7 else zD8 s q.meas q.terms)
 else if isB s q.meas 3 = false then 7 else if (qu s q.meas.toNat).low < 0 then 2 else chkC s q.event
def qstE (s:Sch) (q:Qst):Int:=
 if schE s≠0 then schE s else if kB q.name = false then 3 else if q.kind < 1∨3 < q.kind then 4
 else if chkC s q.filt≠0 then chkC s q.filt else if zD9 s q≠0 then zD9 s q
 else if (q.kind≠1∧0 < q.dims.length)∨(q.kind≠2∧0 < q.terms.length)∨(q.kind≠3∧zI0 q.event cnd0 = false) then 11 else 0
abbrev qAt (l:List Qst) (i:Nat):Qst:=l.getD i default
def qsE (s:Sch) (l:List Qst) (i:Nat):Int:=if qstE s (qAt l i)≠0 then qstE s (qAt l i) else if ((l.take i).any fun x=>eqB x.name (qAt l i).name) = true then 10 else 0
def smpE (x:Smp):Int:=if x.of < 1∨x.of > 1000∨x.part < 1∨x.part > x.of∨x.seed < 0∨x.seed > 1099511627776 then 2 else 0
def dclE (s:Sch) (d:Dcl):Int:=
 if schE s≠0 then schE s else if kB d.proj = false∨kB d.src = false then 3 else if chkC s d.coh≠0 then chkC s d.coh
 else if smpE d.smp≠0 then 2 else if d.qs.length < 1∨d.qs.length > 8 then 1 else qf9 (qsE s d.qs) d.qs.length
end Go.Proofs
namespace Go.Proofs
open Go Go.TL
def divM (high w wo:Int):Nat→Int→Bool
 | 0,_=>true
 | k + 1,f=>if f > high then true else if f.tmod wo≠0 then false else divM high w wo k (f + w)
def divP (s:Sch) (col:Nat) (L:List Int) (other lev:Nat) (i k:Nat):Bool:=
 !(!(WV s col lev (L.getD i 0) == WV s col lev (L.getD k 0)) && (WV s col other (L.getD i 0) == WV s col other (L.getD k 0)))
def divB (s:Sch) (col other lev:Nat):Bool:=
 if lev = 0∨lev≤other then true
 else if (qu s col).kind = 2 then zN6 (kW s col).length (divP s col (kW s col) other lev)
 else
  let x:=qu s col
  let w:=Kf x lev
  let first:=(zD5 x.low w + 1) * w
  if other = 0 then !x.opt && decide (first > x.high)
  else divM x.high w (Kf x other) 2 first
def zE0 (s:Sch) (col lev:Int):Int:=if inB lev 0 (finI s col) = false then -1 else zo5 (fun n=>divB s col.toNat n lev.toNat) 64 0
def zQ7 (q:Qst) (k:Int):Bool:=(q.meas == k) || q.terms.contains k
def zQ8 (l m:List Pk):List Pk:=m.foldl (fun l p=>zw7 l p.col p.lev) l
def zN8 (s:Sch) (q:Qst):List Pk→Nat→List Pk:=fun l k=>if zQ7 q (k + 1) = true then zw7 l (k + 1) (zE0 s (k + 1) (finI s (k + 1))) else l
def zQ9 (s:Sch) (q:Qst) (l:List Pk):List Pk:=(List.range (s.cols.length - 1)).foldl (zN8 s q) l
def zR0 (s:Sch) (q:Qst):List Pk:=if qstE s q≠0 then [] else
 zQ9 s q (q.dims.foldl (fun l p=>zw7 l p.col (zE0 s p.col p.lev)) (if q.kind = 3 then zQ8 (zH9 s q.filt) (zH9 s q.event) else zH9 s q.filt))
def sufB (s:Sch) (q:Qst) (l:List Pk):Bool:=(qstE s q == 0) && (zo6 s l == 0) && covB (zR0 s q) l
def zN9 (s:Sch) (d:Dcl) (l:List Pk):Int:=if dclE s d≠0 then dclE s d else if zo6 s l≠0 then zo6 s l else qf9 (fun i=>if sufB s (qAt d.qs i) l = true then 0 else 23) d.qs.length
end Go.Proofs
namespace Go.Proofs
open Go Go.TL
theorem zo7 {n lo hi:Int}:inB n lo hi = true↔lo≤n∧n≤hi:=by simp [inB]
theorem SchOk.wid {s:Sch} (h:SchOk s) {i:Nat} (hi:i < s.cols.length) (h0:0 < i) (hk:(qu s i).kind≠2) {lev:Int} (hl:1≤lev∧lev≤(qu s i).widths.length) :
 1≤Kf (qu s i) lev∧Kf (qu s i) lev≤1000000∧(qu s i).kind = 3∧(qu s i).widths.length≤4∧-1000000≤(qu s i).low∧(qu s i).high≤1000000∧(qu s i).low≤(qu s i).high∧Kf (qu s i) (qu s i).widths.length = 1:=by
 have hk2:=wJ (h.cs i hi)
 have hk3:(qu s i).kind = 3:=by have:=hk2.2.2.1 h0;omega
 have hm:=hk2.2.2.2.2 hk3
 generalize qu s i = c at hl hm hk3 ⊢
 unfold measE at hm
 split at hm
 ·cases hm
 rename_i h1
 split at hm
 ·cases hm
 rename_i h2
 split at hm
 ·cases hm
 rename_i h3
 rw [Bool.not_eq_false] at h3
 have hw:∀ j,j < c.widths.length→wdOk c.widths j = true:=fun j hj=>List.all_eq_true.1 h3 j (List.mem_range.2 hj)
 have e1:inB c.low (-1000000) 1000000 = true:=by grind
 have e2:inB c.high (-1000000) 1000000 = true:=by grind
 rw [zo7] at e1 e2
 have hn:((c.widths.length:Int) - lev).toNat < c.widths.length:=by omega
 have hp:=qT0 (ws:=c.widths) hw _ hn
 have h0:=hw 0 (by omega)
 rw [wdOk,if_pos rfl,beq_iff_eq] at h0
 have hmax:c.widths.getD ((c.widths.length:Int) - lev).toNat 0≤1000000:=by
  have:=hw _ hn
  unfold wdOk at this
  split at this
  ·rename_i e;rw [e,h0];omega
  ·simp only [Bool.and_eq_true,decide_eq_true_eq] at this;omega
 refine ⟨hp,hmax,hk3,by omega,by omega,by omega,by omega,?_⟩
 rw [Kf,show ((c.widths.length:Int) - c.widths.length).toNat = 0 by omega,h0]
theorem qk0 (s:Sch) (hok:SchOk s) (i:Nat) (hi:i < s.cols.length) (h2:(qu s i).kind = 2):Spc Tryz.prog Qo [schT s,vI i] [] (vIs (kW s i)) []:=by
 have hat:qu s i = s.cols[i]:=by rw [qu,qo hi]
 obtain ⟨d1,d2⟩:=hok.cdl hi h2
 obtain ⟨d3,d4⟩:=(wJ (hok.cs i hi)).2.2.2.1 h2
 have hcl:kD s i = s.lists.getD s.cols[i].list.toNat default:=by rw [kD,hat]
 rw [hcl] at d2
 rw [hat] at d1 d3 d4
 have hgl:s.lists.getD s.cols[i].list.toNat default = s.lists[s.cols[i].list.toNat]:=qo d1
 rw [hgl] at d2
 obtain ⟨_,d5,d6⟩:=jW d2
 rw [kW,hcl,hgl]
 have hlv:=zo3 (l:=s.lists[s.cols[i].list.toNat])
 have hw2:IntKind.i64.wrap (kZ s.lists[s.cols[i].list.toNat] - 1) = kZ s.lists[s.cols[i].list.toNat] - 1:=IntWalk.i64_in _ (by omega)
 refine qd qe4 mixm (by simp) fun e _ hst=>qj ?_
 unfold yR
 simp only [tZ,↓un_u,simprocAttr,Int.toNat_natCast,qe hi,qe d1]
 refine ⟨by omega,by omega,by kernel_rfl,?_⟩
 refine C1.im (Ke _ (by omega)) (by rfl) (by rfl) ?_
 simp only [tZ,↓un_u,simprocAttr,hw2]
 refine C1.im (qX8 _ _ (by omega)) (by rfl) (by rfl) ?_
 refine sW ?_
 refine ⟨by kernel_rfl,?_⟩
 exact .oA [] []
end Go.Proofs
namespace Go.Proofs
open Go Go.TL
theorem qY2 {s:Sch} (h:SchOk s) {i:Nat} (hi:i < s.cols.length) (h2:(qu s i).kind = 2):(kW s i).length≤60:=by
 obtain ⟨d1,d2⟩:=h.cdl hi h2
 obtain ⟨_,d5,d6⟩:=jW d2
 unfold kW atL
 rw [if_neg (by rw [d2];simp),List.length_map]
 have:=List.length_filter_le (fun i=>(dep (kD s i).codes i:Int) == kZ (kD s i) - 1) (List.range (kD s i).codes.length)
 refine Nat.le_trans (List.length_filter_le _ _) ?_
 rw [List.length_range];exact d6
end Go.Proofs
namespace Go.Proofs
open Go Go.TL
theorem qt4 {α:Type} {f:α→T} {l:List α} {i:Nat} (h:l.length≤i):(l.map f).getD i .junk = .junk:=by simp [List.getD,h]
end Go.Proofs
namespace Go.Proofs
open Go Go.TL
set_option maxRecDepth 4000
set_option maxHeartbeats 8000000
end Go.Proofs
namespace Go.Proofs
open Go Go.TL
set_option maxHeartbeats 4000000
end Go.Proofs
namespace Go.Proofs
open Go Go.TL
set_option maxHeartbeats 4000000
inductive SmC:Cnd→Prop
 | mk (c:Cnd) (h1:c.kids.length < 4611686018427387904) (h2:∀ k∈c.kids,SmC k):SmC c
end Go.Proofs
namespace Go.Proofs
open Go Go.TL
set_option maxHeartbeats 4000000
end Go.Proofs
namespace Go.Proofs
open Go Go.TL
set_option maxHeartbeats 4000000
end Go.Proofs
namespace Go.Proofs
open Go Go.TL
set_option maxHeartbeats 4000000
structure QstOk (s:Sch) (q:Qst):Prop where
 sch:schE s = 0
 kind:1≤q.kind∧q.kind≤3
 filt:chkC s q.filt = 0
 dims:q.kind = 1→zI1 s q.dims = 0∧(q.meas = -1∨isB s q.meas 3 = true)
 nd:q.dims.length≤3
 terms:q.kind = 2→isB s q.meas 3 = true∧zD8 s q.meas q.terms = 0
 nt:q.terms.length≤3
 event:q.kind = 3→isB s q.meas 3 = true∧0≤(qu s q.meas.toNat).low∧chkC s q.event = 0
 d0:q.kind≠1→q.dims = []
 t0:q.kind≠2→q.terms = []
 e0:q.kind≠3→zI0 q.event cnd0 = true
end Go.Proofs
namespace Go.Proofs
open Go Go.TL
def hd (r:List Int):Int:=r.getD 0 0
def putS (row:List Int):List (List Int)×Bool→List Int→List (List Int)×Bool:=fun x r=>
 if hd r = hd row then x
 else if hd r > hd row∧x.2 = false then (x.1 ++ [row] ++ [r],true)
 else (x.1 ++ [r],x.2)
def putR (l:List (List Int)) (row:List Int):List (List Int):=
 let x:=l.foldl (putS row) ([],false)
 if x.2 then x.1 else x.1 ++ [row]
def JY (l:List (List Int)) (id:Int):List (List Int):=l.filter fun r=>hd r != id
def atR (id:Int) (r:List Int):Bool:=decide (0 < r.length) && (hd r == id)
def QW (s:Src) (id:Int):Int:=if s.rows.any (atR id) = true then (s.rows.findIdx (atR id):Int) else -1
def asc2 (l:List Int) (i:Nat):Bool:=decide (i = 0) || decide (l.getD (i - 1) 0 < l.getD i 0)
def zo8 (s:Src):Bool:=(List.range s.rows.length).all fun i=>(rowE s.sch (s.rows.getD i []) == 0) && (decide (i = 0) || decide (hd (s.rows.getD (i - 1) []) < hd (s.rows.getD i [])))
def zE1 (s:Src):Bool:=(List.range s.gone.length).all fun i=>decide (1≤s.gone.getD i 0) && decide (s.gone.getD i 0≤1048575) && asc2 s.gone i && decide (QW s (s.gone.getD i 0) < 0)
def srcB (s:Src):Bool:=(schE s.sch == 0) && decide (s.rows.length≤200) && decide (s.gone.length≤300) && decide (0≤s.ver) && decide (s.ver≤300) && zo8 s && zE1 s
def putI (l:List Int) (n:Int):List Int:=So.insU So.ltI So.eqI2 l n
abbrev src0:Src:=⟨⟨[],[]⟩,[],[],0⟩
def jw (s:Src) (e:Edt):Int:=
 if srcB s = false∨s.ver = 300 then 13
 else if e.kind = 1∨e.kind = 2 then
  (if rowE s.sch e.row≠0 then rowE s.sch e.row else if s.gone.contains (hd e.row) = true then 20
   else if e.kind = 1∧0≤QW s (hd e.row) then 10 else if e.kind = 1∧s.rows.length = 200 then 1
   else if e.kind = 2∧QW s (hd e.row) < 0 then 19 else 0)
 else if e.kind = 3 then (if QW s e.id < 0 then 19 else 0)
 else if e.kind = 4 then (if e.id < 1∨e.id > 1048575 then 2 else if s.gone.contains e.id = true then 20 else 0)
 else 4
def Qi (s:Src) (e:Edt):List (List Int):=if e.kind = 1∨e.kind = 2 then putR s.rows e.row else JY s.rows e.id
def jm (s:Src) (e:Edt):Src:=if jw s e≠0 then src0 else ⟨s.sch,Qi s e,if e.kind = 4 then putI s.gone e.id else s.gone,s.ver + 1⟩
end Go.Proofs
namespace Go.Proofs
open Go Go.TL
def AscR (l:List (List Int)):Prop:=l.Pairwise fun a b=>hd a < hd b
theorem qD9 {row:List Int}:∀ (l acc:List (List Int)),(∀ r∈l,hd row < hd r)→l.foldl (putS row) (acc,true) = (acc ++ l,true)
 | [],acc,_=>by simp
 | r :: l,acc,h=>by
   have h1:=h r (by simp)
   have e:putS row (acc,true) r = (acc ++ [r],true):=by
    unfold putS
    rw [if_neg (by omega),if_neg (by simp)]
   rw [List.foldl_cons,e,qD9 l _ fun x hx=>h x (List.mem_cons_of_mem _ hx)]
   simp
theorem WW {row:List Int}:∀ (l acc:List (List Int)),AscR l→l.foldl (putS row) (acc,false) =
 if (l.any fun r=>decide (hd row < hd r)) = true then (acc ++ l.filter (fun r=>decide (hd r < hd row)) ++ row :: l.filter (fun r=>decide (hd row < hd r)),true)
 else (acc ++ l.filter (fun r=>decide (hd r < hd row)),false)
 | [],acc,_=>by simp
 | r :: l,acc,h=>by
   obtain ⟨h1,h2⟩:=List.pairwise_cons.1 h
   rw [List.foldl_cons]
   by_cases e1:hd r = hd row
   ·have e:putS row (acc,false) r = (acc,false):=by unfold putS;rw [if_pos e1]
    have d1:decide (hd row < hd r) = false:=by simp;omega
    have d2:decide (hd r < hd row) = false:=by simp;omega
    rw [e,WW l acc h2,List.any_cons,List.filter_cons,List.filter_cons,d1,d2]
    simp
   ·by_cases e2:hd r > hd row
    ·have e:putS row (acc,false) r = (acc ++ [row] ++ [r],true):=by unfold putS;rw [if_neg e1,if_pos ⟨e2,rfl⟩]
     have hall:∀ x∈l,hd row < hd x:=fun x hx=>by have:=h1 x hx;omega
     have d1:decide (hd row < hd r) = true:=by simp;omega
     have d2:decide (hd r < hd row) = false:=by simp;omega
     have f1:l.filter (fun r=>decide (hd row < hd r)) = l:=List.filter_eq_self.2 fun x hx=>by simpa using hall x hx
     have f2:l.filter (fun r=>decide (hd r < hd row)) = []:=List.filter_eq_nil_iff.2 fun x hx=>by have:=hall x hx;simp;omega
     rw [e,qD9 l _ hall,List.any_cons,List.filter_cons,List.filter_cons,d1,d2,f1,f2]
     simp
    ·have e:putS row (acc,false) r = (acc ++ [r],false):=by
      unfold putS
      rw [if_neg e1,if_neg (fun k=>e2 k.1)]
     have d1:decide (hd row < hd r) = false:=by simp;omega
     have d2:decide (hd r < hd row) = true:=by simp;omega
     rw [e,WW l _ h2,List.any_cons,List.filter_cons,List.filter_cons,d1,d2]
     simp
theorem qJ0 {l:List (List Int)} {row:List Int} (h:AscR l):putR l row = l.filter (fun r=>decide (hd r < hd row)) ++ row :: l.filter (fun r=>decide (hd row < hd r)):=by
 unfold putR
 rw [WW l [] h]
 by_cases e:(l.any fun r=>decide (hd row < hd r)) = true
 ·rw [if_pos e];simp
 ·rw [if_neg e]
  have f1:l.filter (fun r=>decide (hd row < hd r)) = []:=List.filter_eq_nil_iff.2 fun x hx=>by
   intro k
   exact e (List.any_eq_true.2 ⟨x,hx,k⟩)
  rw [f1]
  simp
theorem YR {l:List (List Int)} {row:List Int} (h:AscR l):AscR (putR l row):=by
 rw [qJ0 h]
 unfold AscR
 rw [List.pairwise_append]
 refine ⟨h.filter _,List.pairwise_cons.2 ⟨fun x hx=>?_,h.filter _⟩,fun a ha b hb=>?_⟩
 ·have:=(List.mem_filter.1 hx).2
  simpa using this
 ·have h1:=(List.mem_filter.1 ha).2
  rcases List.mem_cons.1 hb with rfl | hb
  ·simpa using h1
  ·have h2:=(List.mem_filter.1 hb).2
   simp only [decide_eq_true_eq] at h1 h2
   omega
theorem Wr {l:List (List Int)} {row r:List Int} (h:AscR l):r∈putR l row↔r = row∨(r∈l∧hd r≠hd row):=by
 rw [qJ0 h,List.mem_append,List.mem_cons,List.mem_filter,List.mem_filter]
 simp only [decide_eq_true_eq]
 constructor
 ·rintro (⟨a,b⟩ | a | ⟨a,b⟩)
  ·exact .inr ⟨a,by omega⟩
  ·exact .inl a
  ·exact .inr ⟨a,by omega⟩
 ·rintro (a | ⟨a,b⟩)
  ·exact .inr (.inl a)
  ·by_cases c:hd r < hd row
   ·exact .inl ⟨a,c⟩
   ·exact .inr (.inr ⟨a,by omega⟩)
theorem qT6 (l:List (List Int)) (row:List Int):(putR l row).length≤l.length + 1:=by
 have key:∀ (l:List (List Int)) (x:List (List Int)×Bool),(l.foldl (putS row) x).1.length + (if (l.foldl (putS row) x).2 then 0 else 1)≤x.1.length + (if x.2 then 0 else 1) + l.length:=by
  intro l
  induction l with
  | nil=>intro x;simp only [List.foldl_nil,List.length_nil,Nat.add_zero];exact Nat.le_refl _
  | cons r l ih=>
    intro x
    have h1:=ih (putS row x r)
    have h2:(putS row x r).1.length + (if (putS row x r).2 then 0 else 1)≤x.1.length + (if x.2 then 0 else 1) + 1:=by
     unfold putS
     split
     ·omega
     ·split
      ·rename_i h;rw [h.2];simp
      ·simp;omega
    rw [List.foldl_cons,List.length_cons]
    omega
 have:=key l ([],false)
 unfold putR
 simp only [List.length_nil,Bool.false_eq_true,if_false] at this
 dsimp only
 split
 ·rename_i h;rw [h] at this;simp at this;omega
 ·rename_i h
  rw [if_neg h] at this
  rw [List.length_append]
  simp
  omega
end Go.Proofs
namespace Go.Proofs
open Go Go.TL
theorem zo9 {α:Type} [Inhabited α] {f:α→Int} {l:List α} (h:∀ i,0 < i→i < l.length→f (l.getD (i - 1) default) < f (l.getD i default)):l.Pairwise fun a b=>f a < f b:=by
 rw [List.pairwise_iff_getElem]
 have key:∀ (d i:Nat) (hj:i + d + 1 < l.length),f (l[i]'(by omega)) < f l[i + d + 1]:=by
  intro d
  induction d with
  | zero=>
    intro i hj
    have:=h (i + 1) (by omega) (by omega)
    rw [qo (by omega),qo (by omega)] at this
    simpa using this
  | succ d ih=>
    intro i hj
    have h1:=ih i (by omega)
    have h2:=h (i + d + 1 + 1) (by omega) (by omega)
    rw [qo (by omega),qo (by omega)] at h2
    simp only [Nat.add_sub_cancel] at h2
    have e:i + (d + 1) + 1 = i + d + 1 + 1:=by omega
    simp only [e]
    omega
 intro i j hi hj hij
 have:=key (j - i - 1) i (by omega)
 have e:i + (j - i - 1) + 1 = j:=by omega
 simp only [e] at this
 exact this
theorem zO0 {α:Type} [Inhabited α] {f:α→Int} {l:List α} (h:l.Pairwise fun a b=>f a < f b) {i:Nat} (h0:0 < i) (hi:i < l.length):f (l.getD (i - 1) default) < f (l.getD i default):=by
 rw [qo (by omega),qo hi]
 exact List.pairwise_iff_getElem.1 h (i - 1) i (by omega) hi (by omega)
structure SrcOk (s:Src):Prop where
 sch:schE s.sch = 0
 nr:s.rows.length≤200
 ng:s.gone.length≤300
 ver:0≤s.ver∧s.ver≤300
 rows:∀ r∈s.rows,rowE s.sch r = 0
 asc:AscR s.rows
 gone:∀ g∈s.gone,1≤g∧g≤1048575∧QW s g < 0
 gasc:s.gone.Pairwise fun a b=>a < b
theorem jx {s:Sch} {r:List Int} (h:rowE s r = 0):0 < r.length:=by
 obtain ⟨h1,h2,_⟩:=QH h
 have:=(jb h1).nc
 omega
theorem qg0 {s:Src} {id:Int}:QW s id < 0↔∀ r∈s.rows,atR id r = false:=by
 unfold QW
 split
 ·rename_i h
  obtain ⟨r,h1,h2⟩:=List.any_eq_true.1 h
  constructor
  ·intro h3;omega
  ·intro h3;rw [h3 r h1] at h2;cases h2
 ·rename_i h
  constructor
  ·intro _ r hr
   cases e:atR id r with
   | false=>rfl
   | true=>exact absurd (List.any_eq_true.2 ⟨r,hr,e⟩) h
  ·intro _;omega
theorem WX {s:Src}:srcB s = true↔SrcOk s:=by
 unfold srcB zo8 zE1 asc2
 simp only [Bool.and_eq_true,beq_iff_eq,decide_eq_true_eq,List.all_eq_true,List.mem_range,Bool.or_eq_true]
 constructor
 ·rintro ⟨⟨⟨⟨⟨⟨h1,h2⟩,h3⟩,h4⟩,h5⟩,h6⟩,h7⟩
  refine ⟨h1,h2,h3,⟨h4,h5⟩,fun r hr=>?_,?_,fun g hg=>?_,?_⟩
  ·obtain ⟨i,hi,rfl⟩:=List.getElem_of_mem hr
   have:=(h6 i hi).1
   rw [qo hi] at this
   exact this
  ·exact zo9 (f:=hd) fun i h0 hi=>((h6 i hi).2.resolve_left (by omega))
  ·obtain ⟨i,hi,rfl⟩:=List.getElem_of_mem hg
   obtain ⟨⟨⟨a,b⟩,c⟩,d⟩:=h7 i hi
   rw [qo hi] at a b d
   exact ⟨a,b,d⟩
  ·exact zo9 (f:=fun x:Int=>x) fun i h0 hi=>((h7 i hi).1.2.resolve_left (by omega))
 ·intro h
  refine ⟨⟨⟨⟨⟨⟨h.sch,h.nr⟩,h.ng⟩,h.ver.1⟩,h.ver.2⟩,fun i hi=>⟨?_,?_⟩⟩,fun i hi=>⟨⟨⟨?_,?_⟩,?_⟩,?_⟩⟩
  ·rw [qo hi];exact h.rows _ (List.getElem_mem hi)
  ·by_cases e:i = 0
   ·exact .inl e
   ·exact .inr (zO0 (f:=hd) h.asc (by omega) hi)
  ·rw [qo hi];exact (h.gone _ (List.getElem_mem hi)).1
  ·rw [qo hi];exact (h.gone _ (List.getElem_mem hi)).2.1
  ·by_cases e:i = 0
   ·exact .inl e
   ·exact .inr (zO0 (f:=fun x:Int=>x) h.gasc (by omega) hi)
  ·rw [qo hi];exact (h.gone _ (List.getElem_mem hi)).2.2
theorem qT7 {s:Sch} {r:List Int} (h:rowE s r = 0) (id:Int):atR id r = (hd r == id):=by
 unfold atR
 rw [decide_eq_true (jx h),Bool.true_and]
theorem zw9 {l:List Int} {n x:Int}:x∈putI l n↔x = n∨x∈l:=So.insU_mem So.eqI2_iff
theorem zO1 {l:List Int}:(l.Pairwise fun a b=>a < b)↔l.Pairwise fun a b=>So.ltI a b = true:=by
 constructor
 ·exact fun h=>h.imp fun k=>decide_eq_true k
 ·exact fun h=>h.imp fun k=>of_decide_eq_true k
theorem zx0 {l:List Int} {n:Int} (h:l.Pairwise fun a b=>a < b):(putI l n).Pairwise fun a b=>a < b:=zO1.2 (So.insU_srt So.ltI_ord So.ltI_tot So.ltI_trans So.eqI2_iff (zO1.1 h))
theorem zx1 (l:List Int) (n:Int):(putI l n).length≤l.length + 1:=So.insU_len
theorem zx2 {s:Sch} {r:List Int} (h:rowE s r = 0):1≤hd r∧hd r≤1048575:=by
 obtain ⟨h1,h2,h3⟩:=QH h
 have h4:=h3 0 (jx h)
 unfold jP at h4
 rw [if_pos (jb h1).c0] at h4
 simp only [inB,Bool.and_eq_true,decide_eq_true_eq] at h4
 exact h4
end Go.Proofs
namespace Go.Proofs
open Go Go.TL
set_option maxHeartbeats 4000000
open So
theorem zu {r:List Int} (h:0 < r.length):(r.map vI).getD 0 .junk = vI (hd r):=by rw [qe h,hd,qo h]
theorem zx3 (row:List Int):∀ (l:List (List Int)) (x:List (List Int)×Bool),(l.foldl (putS row) x).1.length≤x.1.length + l.length + 1
 | l,x=>by
   have key:∀ (l:List (List Int)) (x:List (List Int)×Bool),(l.foldl (putS row) x).1.length + (if (l.foldl (putS row) x).2 then 0 else 1)≤x.1.length + (if x.2 then 0 else 1) + l.length:=by
    intro l
    induction l with
    | nil=>intro x;simp only [List.foldl_nil,List.length_nil,Nat.add_zero];exact Nat.le_refl _
    | cons r l ih=>
      intro x
      have h1:=ih (putS row x r)
      have h2:(putS row x r).1.length + (if (putS row x r).2 then 0 else 1)≤x.1.length + (if x.2 then 0 else 1) + 1:=by
       unfold putS
       split
       ·omega
       ·split
        ·rename_i h;rw [h.2];simp
        ·simp;omega
      rw [List.foldl_cons,List.length_cons]
      omega
   have:=key l x
   split at this <;> split at this <;> omega
theorem qg1 (l:List (List Int)) (row:List Int) (hl:l.length < 1000000000) (hr:∀ r∈l,0 < r.length) (h0:0 < row.length):Spc Tryz.prog Zh [vRw l,vIs row] [] (vRw (putR l row)) []:=by
 have hP:putR l row = if (l.foldl (putS row) ([],false)).2 then (l.foldl (putS row) ([],false)).1 else (l.foldl (putS row) ([],false)).1 ++ [row]:=rfl
 have hS:=fun i=>zx3 row (l.take i) ([],false)
 have hg0:=zu h0
 refine qd qC5 mixm (by simp) fun e _ hst=>qj ?_
 unfold Jj
 refine sW ?_
 refine qy mixm (α:=Nat×List (List Int)×Bool) [5,6,7] (fun x=>x.1≤l.length∧x.2 = (l.take x.1).foldl (putS row) ([],false)) (fun x=>[(5,.asl 1 x.2.1.length),(6,vB x.2.2),(7,vI x.1)]) (fun x=>[(1,.arr 1 (x.2.1.map vIs) false)]) (fun x=>l.length - x.1) (0,[],false) ⟨by simp,by simp⟩ ?_ fun x hx=>?_
 ·exact .oA [(1,none)] []
 obtain ⟨i,a,b⟩:=x
 obtain ⟨x1,x2⟩:=hx
 dsimp only at x1 x2
 have hSi:=hS i
 rw [← x2] at hSi
 simp only [List.length_nil,List.length_take] at hSi
 refine sD ?_
 refine ⟨fun h=>?_,fun h=>?_⟩
 ·have hi2:i < l.length:=by omega
  have hwi:=qh (i:=i) (by omega)
  have hs:(l.take (i + 1)).foldl (putS row) ([],false) = putS row (a,b) l[i]:=by rw [zz hi2,List.foldl_append,← x2];rfl
  have hrp:=hr _ (List.getElem_mem hi2)
  have hgi:=zu hrp
  have hr2:putS row (a,b) l[i] = if hd l[i] = hd row then (a,b) else if hd l[i] > hd row∧b = false then (a ++ [row] ++ [l[i]],true) else (a ++ [l[i]],b):=rfl
  rw [hr2] at hs
  simp only [tZ,↓un_u,simprocAttr,Int.toNat_natCast,qe hi2,hgi,hg0,tD,beq_iff_eq,beq_eq_false_iff_ne,Bool.not_eq_true',Bool.not_eq_false',hwi]
  refine ⟨by omega,by omega,by omega,by kernel_rfl,fun h2=>?_,fun h2=>⟨by omega,by omega,by omega,by kernel_rfl,fun h3=>?_,fun h3=>?_⟩⟩
  ·rw [if_pos h2] at hs
   refine ⟨(i + 1,a,b),⟨by dsimp only;omega,hs.symm⟩,by dsimp only;omega,?_⟩
   exact .oA [(1,some 1)] []
  ·rw [if_neg h2,if_pos h3] at hs
   refine ⟨by omega,by omega,by omega,(i + 1,a ++ [row] ++ [l[i]],true),⟨by dsimp only;omega,hs.symm⟩,by dsimp only;omega,?_⟩
   exact .oA [(1,some 1)] []
  ·rw [if_neg h2,if_neg (by grind)] at hs
   refine ⟨by omega,by omega,(i + 1,a ++ [l[i]],b),⟨by dsimp only;omega,hs.symm⟩,by dsimp only;omega,?_⟩
   exact .oA [(1,some 1)] []
 ·have hil:i = l.length:=by omega
  subst hil
  rw [List.take_length] at x2
  rw [← x2] at hP
  dsimp only at hP
  simp only [tZ,↓un_u,simprocAttr,Bool.not_eq_true',Bool.not_eq_false']
  refine ⟨fun h2=>?_,fun h2=>?_⟩
  ·rw [hP,h2,if_neg (by simp)]
   refine ⟨by omega,?_⟩
   show yY [] _ _ (.sl 1 ((a ++ [row]).map vIs)) []
   rw [List.map_append]
   exact .oA [] [1]
  ·rw [hP,if_pos h2]
   exact .oA [] [1]
theorem Ym (l:List (List Int)) (id:Int) (hl:l.length < 1000000000) (hr:∀ r∈l,0 < r.length):Spc Tryz.prog Qg [vRw l,vI id] [] (vRw (JY l id)) []:=by
 refine qd qr8 mixm (by simp) fun e _ hst=>qj ?_
 unfold Zv
 refine sW ?_
 refine qy mixm (α:=Nat) [5,6] (fun i=>i≤l.length) (fun i=>[(5,.asl 1 (JY (l.take i) id).length),(6,vI i)]) (fun i=>[(1,.arr 1 ((JY (l.take i) id).map vIs) false)]) (fun i=>l.length - i) 0 (by omega) ?_ fun i hi=>?_
 ·exact .oA [(1,none)] []
 have hfl:=List.length_filter_le (fun r=>hd r != id) (l.take i)
 rw [List.length_take] at hfl
 refine sD ?_
 refine ⟨fun h=>?_,fun h=>?_⟩
 ·have hi2:i < l.length:=by omega
  have hwi:=qh (i:=i) (by omega)
  have hgi:=zu (hr _ (List.getElem_mem hi2))
  have hrp:=hr _ (List.getElem_mem hi2)
  have hs:JY (l.take (i + 1)) id = JY (l.take i) id ++ if (hd l[i] != id) = true then [l[i]] else []:=by
   unfold JY
   rw [zz hi2,List.filter_append,List.filter_cons,List.filter_nil]
  simp only [tZ,↓un_u,simprocAttr,Int.toNat_natCast,qe hi2,hgi,hwi]
  refine ⟨by omega,by omega,fun h2=>?_,fun h2=>?_⟩
  ·rw [if_pos h2] at hs
   refine ⟨by omega,by unfold JY;omega,i + 1,by omega,by omega,?_⟩
   rw [hs]
   exact .oA [(1,some 1)] []
  ·rw [if_neg (by rw [h2];simp),List.append_nil] at hs
   refine ⟨i + 1,by omega,by omega,?_⟩
   rw [hs]
   exact .oA [(1,some 1)] []
 ·have hil:i = l.length:=by omega
  subst hil
  rw [List.take_length]
  exact .oA [] [1]
theorem JA (s:Src) (id:Int) (hl:s.rows.length < 4611686018427387904):Spc Tryz.prog wC [srcT s,vI id] [] (vI (QW s id)) []:=by
 refine qd qr0 mixm (by simp) fun e _ hst=>qj ?_
 unfold Zp
 refine sW ?_
 refine qy mixm (α:=Nat) [5] (fun i=>i≤s.rows.length∧(s.rows.take i).any (atR id) = false) (fun i=>[(5,vI i)]) (fun i=>[(4096,.arr 5 [srcT s] false)]) (fun i=>s.rows.length - i) 0 ⟨by omega,rfl⟩ ?_ fun i hi=>?_
 ·exact .oA [(4096,some 4096)] []
 refine sD ?_
 refine ⟨fun h=>?_,fun h=>?_⟩
 ·have hi2:i < s.rows.length:=by omega
  have hwi:=qh (i:=i) (by omega)
  have hno:atR id s.rows[i] = false→∃ y,(y≤s.rows.length∧(s.rows.take y).any (atR id) = false)∧s.rows.length - y < s.rows.length - i∧Le e ⟨[(1,vI id),(2,.ptr 4096 1 0 0),(5,vI ((i + 1:Nat):Int))],[(4096,.arr 5 [srcT s] false)]⟩ ⟨[(5,vI y),(1,vI id),(2,.ptr 4096 1 0 0)],[(4096,.arr 5 [srcT s] false)]⟩:=fun h3=>by
   refine ⟨i + 1,⟨by omega,jz hi2 hi.2 h3⟩,by omega,?_⟩
   exact .oA [(4096,some 4096)] []
  have hat:atR id s.rows[i] = (decide (0 < s.rows[i].length) && (hd s.rows[i] == id)):=rfl
  rcases Nat.eq_zero_or_pos s.rows[i].length with h0 | h0
  ·have e0:decide ((s.rows[i].length:Int) > 0) = false:=decide_eq_false (by omega)
   have hgj:(s.rows[i].map vI).getD 0 .junk = .junk:=qt4 (by omega)
   simp only [tZ,↓un_u,simprocAttr,Int.toNat_natCast,qe hi2,e0,hgj,hwi]
   exact ⟨by omega,hno (by rw [hat,decide_eq_false (by omega)];rfl)⟩
  ·have e0:decide ((s.rows[i].length:Int) > 0) = true:=decide_eq_true (by omega)
   rw [decide_eq_true h0,Bool.true_and] at hat
   simp only [tZ,↓un_u,simprocAttr,Int.toNat_natCast,qe hi2,e0,zu h0,hwi]
   refine ⟨by omega,by omega,by omega,fun h3=>?_,fun h3=>hno (by rw [hat];exact h3)⟩
   rw [QW,if_pos (qn5 hi2 (by rw [hat];exact h3)),kv hi2 hi.2 (by rw [hat];exact h3)]
   exact .oA [] []
 ·have hil:i = s.rows.length:=by omega
  subst hil
  have h2:=hi.2
  rw [List.take_length] at h2
  rw [QW,if_neg (by rw [h2];simp)]
  exact .oA [] []
def qJ1 (s:Src):Prop:=qY0 s.sch∧∀ r∈s.rows,r.length < 4611686018427387904
def rowP (s:Src) (i:Nat):Bool:=(rowE s.sch (s.rows.getD i []) == 0) && (decide (i = 0) || decide (hd (s.rows.getD (i - 1) []) < hd (s.rows.getD i [])))
def qE0 (s:Src) (i:Nat):Bool:=decide (1≤s.gone.getD i 0) && decide (s.gone.getD i 0≤1048575) && asc2 s.gone i && decide (QW s (s.gone.getD i 0) < 0)
theorem qt5 (s:Src) (hs:qJ1 s):Spc Tryz.prog Zg [srcT s] [] (vB (srcB s)) []:=by
 obtain ⟨hs1,hs2⟩:=hs
 have hB:srcB s = ((schE s.sch == 0) && decide (s.rows.length≤200) && decide (s.gone.length≤300) && decide (0≤s.ver) && decide (s.ver≤300) && (List.range s.rows.length).all (rowP s) && (List.range s.gone.length).all (qE0 s)):=rfl
 refine qd qh5 mixm (by simp) fun e _ hst=>qj ?_
 unfold Qs
 refine sW ?_
 refine C1.im (Wp s.sch hs1) (by rfl) (by rfl) ?_
 simp only [tZ,↓un_u,simprocAttr,tD,bne_iff_ne,bne_eq_false_iff_eq]
 refine ⟨fun h=>?_,fun h=>?_⟩
 ·rw [show srcB s = false by rw [hB];grind]
  exact .oA [] []
 have hB2:srcB s = ((List.range s.rows.length).all (rowP s) && (List.range s.gone.length).all (qE0 s)):=by rw [hB];grind
 clear hB
 refine qy mixm (α:=Nat) [3,30] (fun i=>i≤s.rows.length∧(List.range i).all (rowP s) = true) (fun i=>[(3,vI i)]) (fun i=>[(4096,.arr 5 [srcT s] false)]) (fun i=>s.rows.length - i) 0 ⟨by omega,rfl⟩ ?_ fun i hi=>?_
 ·exact .oA [(4096,some 4096)] []
 obtain ⟨i1,i2⟩:=hi
 refine sD ?_
 refine ⟨fun h2=>?_,fun h2=>?_⟩
 ·have hi2:i < s.rows.length:=by omega
  have hwi:=qh (i:=i) (by omega)
  have hpi:s.rows.getD i [] = s.rows[i]:=qo hi2
  have hbad:rowP s i = false→srcB s = false:=fun k=>by rw [hB2,zD6 hi2 k];rfl
  have hgd:rowP s i = true→(List.range (i + 1)).all (rowP s) = true:=fun k=>by rw [qT5,i2,k];rfl
  have hP:rowP s i = ((rowE s.sch s.rows[i] == 0) && (decide (i = 0) || decide (hd (s.rows.getD (i - 1) []) < hd s.rows[i]))):=by rw [rowP,hpi]
  simp only [tZ,↓un_u,simprocAttr,Int.toNat_natCast,qe hi2]
  refine ⟨by omega,?_⟩
  refine C1.im (qf7 s.sch hs1 s.rows[i] (hs2 _ (List.getElem_mem hi2))) (by rfl) (by rfl) ?_
  by_cases hR:rowE s.sch s.rows[i] = 0
  case neg=>
   have e0:(rowE s.sch s.rows[i] != 0) = true:=bne_iff_ne.2 hR
   rw [hbad (by rw [hP,beq_eq_false_iff_ne.2 hR];rfl)]
   rcases Nat.eq_zero_or_pos i with hi0 | hi0
   ·subst hi0
    have hz:((0:Nat):Int) = 0:=rfl
    have hz2:(IntKind.i64.wrap (-1)).toNat = 0:=by decide
    rcases Nat.eq_zero_or_pos s.rows[0].length with h0 | h0
    ·have hgj:(s.rows[0].map vI).getD 0 .junk = .junk:=qt4 (by omega)
     simp only [tZ,↓un_u,simprocAttr,e0,Int.toNat_natCast,hz,beq_self_eq_true,gt_iff_lt,Int.lt_irrefl,Bool.true_and,hz2,qe hi2,hgj]
     refine ⟨by kernel_rfl,?_⟩
     exact .oA [] []
    ·simp only [tZ,↓un_u,simprocAttr,e0,Int.toNat_natCast,hz,beq_self_eq_true,gt_iff_lt,Int.lt_irrefl,Bool.true_and,hz2,qe hi2,zu h0]
     refine ⟨by kernel_rfl,?_⟩
     exact .oA [] []
   ·obtain ⟨k,rfl⟩:∃ k,i = k + 1:=⟨i - 1,by omega⟩
    have hk3:k < s.rows.length:=by omega
    have e2:decide (((k + 1:Nat):Int) > 0) = true:=decide_eq_true (by omega)
    have e3:=jR (i:=k + 1) (by omega) (by omega)
    rw [Nat.add_sub_cancel] at e3
    have hkp:0 < s.rows[k].length:=by
     have:=List.all_eq_true.1 i2 k (List.mem_range.2 (by omega))
     rw [rowP,qo hk3,Bool.and_eq_true,beq_iff_eq] at this
     exact jx this.1
    rcases Nat.eq_zero_or_pos s.rows[k + 1].length with h0 | h0
    ·have hgj:(s.rows[k + 1].map vI).getD 0 .junk = .junk:=qt4 (by omega)
     simp only [tZ,↓un_u,simprocAttr,e0,Int.toNat_natCast,qe hi2,qe hk3,e2,e3,hgj,zu hkp]
     refine ⟨by kernel_rfl,?_⟩
     exact .oA [] []
    ·simp only [tZ,↓un_u,simprocAttr,e0,Int.toNat_natCast,qe hi2,qe hk3,e2,e3,zu h0,zu hkp]
     refine ⟨by kernel_rfl,?_⟩
     exact .oA [] []
  have e0:(rowE s.sch s.rows[i] != 0) = false:=bne_eq_false_iff_eq.2 hR
  rw [beq_iff_eq.2 hR,Bool.true_and] at hP
  have hrp:=jx hR
  rcases Nat.eq_zero_or_pos i with hi0 | hi0
  ·subst hi0
   have hz:((0:Nat):Int) = 0:=rfl
   have hz2:(IntKind.i64.wrap (-1)).toNat = 0:=by decide
   have hz3:=qh (i:=0) (by omega)
   rw [hz] at hz3
   simp only [tZ,↓un_u,simprocAttr,e0,Int.toNat_natCast,hz,beq_self_eq_true,gt_iff_lt,Int.lt_irrefl,Bool.true_and,hz2,qe hi2,hz3,zu hrp]
   refine ⟨by kernel_rfl,1,⟨by omega,hgd (by rw [hP];rfl)⟩,by omega,?_⟩
   exact .oA [(4096,some 4096)] []
  ·obtain ⟨k,rfl⟩:∃ k,i = k + 1:=⟨i - 1,by omega⟩
   have hk3:k < s.rows.length:=by omega
   have e2:decide (((k + 1:Nat):Int) > 0) = true:=decide_eq_true (by omega)
   have e3:=jR (i:=k + 1) (by omega) (by omega)
   rw [Nat.add_sub_cancel] at e3 hP
   rw [qo hk3,decide_eq_false (by omega),Bool.false_or] at hP
   have hkp:0 < s.rows[k].length:=by
    have:=List.all_eq_true.1 i2 k (List.mem_range.2 (by omega))
    rw [rowP,qo hk3,Bool.and_eq_true,beq_iff_eq] at this
    exact jx this.1
   simp only [tZ,↓un_u,simprocAttr,e0,Int.toNat_natCast,qe hi2,qe hk3,e2,e3,hwi,zu hrp,zu hkp,tD]
   refine ⟨by omega,by omega,by omega,by omega,by kernel_rfl,fun h4=>?_,fun h4=>?_⟩
   ·rw [hbad (by rw [hP];exact decide_eq_false (by omega))]
    exact .oA [] []
   ·refine ⟨k + 2,⟨by omega,hgd (by rw [hP];exact decide_eq_true (by omega))⟩,by omega,?_⟩
    exact .oA [(4096,some 4096)] []
 ·have hil:i = s.rows.length:=by omega
  subst hil
  rw [i2,Bool.true_and] at hB2
  have hrl:s.rows.length < 4611686018427387904:=by omega
  refine qy mixm (α:=Nat) [4] (fun i=>i≤s.gone.length∧(List.range i).all (qE0 s) = true) (fun i=>[(4,vI i)]) (fun i=>[(4096,.arr 5 [srcT s] false)]) (fun i=>s.gone.length - i) 0 ⟨by omega,rfl⟩ ?_ fun i hi=>?_
  ·exact .oA [(4096,some 4096)] []
  obtain ⟨j1,j2⟩:=hi
  refine sD ?_
  refine ⟨fun h2=>?_,fun h2=>?_⟩
  ·have hi2:i < s.gone.length:=by omega
   have hwi:=qh (i:=i) (by omega)
   have hpi:s.gone.getD i 0 = s.gone[i]:=qo hi2
   have hbad:qE0 s i = false→srcB s = false:=fun k=>by rw [hB2,zD6 hi2 k]
   have hgd:qE0 s i = true→(List.range (i + 1)).all (qE0 s) = true:=fun k=>by rw [qT5,j2,k];rfl
   have hP:qE0 s i = (decide (1≤s.gone[i]) && decide (s.gone[i]≤1048575) && asc2 s.gone i && decide (QW s s.gone[i] < 0)):=by rw [qE0,hpi]
   have hF:=JA s s.gone[i] hrl
   rcases Nat.eq_zero_or_pos i with hi0 | hi0
   ·subst hi0
    have hz:((0:Nat):Int) = 0:=rfl
    have hz2:(IntKind.i64.wrap (-1)).toNat = 0:=by decide
    have hz3:=qh (i:=0) (by omega)
    rw [hz] at hz3
    have hA:asc2 s.gone 0 = true:=rfl
    rw [hA,Bool.and_true] at hP
    simp only [tZ,↓un_u,simprocAttr,Int.toNat_natCast,hz,beq_self_eq_true,gt_iff_lt,Int.lt_irrefl,Bool.true_and,hz2,qe hi2,hz3,Bool.or_false]
    refine ⟨by omega,fun _=>by omega,fun _=>by omega,?_⟩
    refine C2.im (fun _=>hF) (fun _=>rfl) (by rfl) ?_
    simp only [tZ,↓un_u,simprocAttr,tD,hz3]
    refine ⟨by kernel_rfl,fun h4=>?_,fun h4=>?_⟩
    ·rw [hbad (by rw [hP];grind)]
     exact .oA [] []
    ·refine ⟨1,⟨by omega,hgd (by rw [hP];grind)⟩,by omega,?_⟩
     exact .oA [(4096,some 4096)] []
   ·obtain ⟨k,rfl⟩:∃ k,i = k + 1:=⟨i - 1,by omega⟩
    have hk3:k < s.gone.length:=by omega
    have e2:decide (((k + 1:Nat):Int) > 0) = true:=decide_eq_true (by omega)
    have e3:=jR (i:=k + 1) (by omega) (by omega)
    rw [Nat.add_sub_cancel] at e3
    have hA:asc2 s.gone (k + 1) = decide (s.gone[k] < s.gone[k + 1]):=by
     rw [asc2,Nat.add_sub_cancel,qo hk3,hpi,decide_eq_false (by omega)];rfl
    rw [hA] at hP
    simp only [tZ,↓un_u,simprocAttr,Int.toNat_natCast,qe hi2,qe hk3,e2,e3]
    refine ⟨by omega,fun _=>by omega,fun _=>by omega,fun _=>by omega,fun _=>by omega,?_⟩
    refine C2.im (fun _=>hF) (fun _=>rfl) (by rfl) ?_
    simp only [tZ,↓un_u,simprocAttr,tD,hwi]
    refine ⟨by kernel_rfl,fun h4=>?_,fun h4=>?_⟩
    ·rw [hbad (by rw [hP];grind)]
     exact .oA [] []
    ·refine ⟨k + 2,⟨by omega,hgd (by rw [hP];grind)⟩,by omega,?_⟩
     exact .oA [(4096,some 4096)] []
  ·have hil:i = s.gone.length:=by omega
   subst hil
   rw [hB2,j2]
   exact .oA [] []
end Go.Proofs
namespace Go.Proofs
open Go Go.TL
set_option maxHeartbeats 4000000
open So
theorem SrcOk.rowp {s:Src} (h:SrcOk s):∀ r∈s.rows,0 < r.length:=fun r hr=>jx (h.rows r hr)
theorem Ws (s:Src) (d:Edt) (hs:qJ1 s) (hd1:d.row.length < 4611686018427387904):Spc Tryz.prog yk [srcT s,edtT d] [] (.tup [srcT (jm s d),vI (jw s d)]) []:=by
 have hE:=(rfl:jw s d = jw s d)
 have hS:jm s d = if jw s d≠0 then src0 else ⟨s.sch,Qi s d,if d.kind = 4 then putI s.gone d.id else s.gone,s.ver + 1⟩:=rfl
 conv at hE=>rhs;unfold jw
 have hbad:∀ v,v≠0→jw s d = v→jm s d = src0∧jw s d = v:=fun v h1 h2=>⟨by rw [hS,h2,if_pos h1],h2⟩
 have hgood:jw s d = 0→jm s d = ⟨s.sch,Qi s d,if d.kind = 4 then putI s.gone d.id else s.gone,s.ver + 1⟩:=fun h=>by rw [hS,h,if_neg (by simp)]
 clear hS
 generalize jw s d = E at hE hbad hgood ⊢
 generalize jm s d = A at hbad hgood ⊢
 refine qd qh9 mixm (by simp) fun e _ hst=>qj ?_
 unfold Qu
 refine sW ?_
 refine C1.im (qt5 s hs) (by rfl) (by rfl) ?_
 simp only [tZ,↓un_u,simprocAttr,tD,beq_iff_eq,beq_eq_false_iff_ne,Bool.not_eq_true',Bool.not_eq_false']
 refine ⟨fun h=>?_,fun h=>?_⟩
 ·obtain ⟨a1,a2⟩:=hbad 13 (by decide) (by rw [hE,if_pos h])
  rw [a1,a2]
  exact .oA [] []
 rw [if_neg (by grind)] at hE
 have hok:=WX.1 h.1
 have hv:=hok.ver
 have hrp:=hok.rowp
 have hnr:=hok.nr
 have hng:=hok.ng
 have hw:IntKind.i64.wrap (s.ver + 1) = s.ver + 1:=IntWalk.i64_in _ (by omega)
 have hR:Qi s d = if d.kind = 1∨d.kind = 2 then putR s.rows d.row else JY s.rows d.id:=rfl
 have hg0:0 < d.row.length→(d.row.map vI).getD 0 .junk = vI (hd d.row):=zu
 by_cases k12:d.kind = 1∨d.kind = 2
 ·rw [if_pos k12] at hE hR
  have hk4:¬ d.kind = 4:=by omega
  rw [if_neg hk4,hR] at hgood
  refine mid (fun hmain=>⟨fun k1=>⟨fun _=>hmain,fun k=>absurd k1 k⟩,fun k1=>⟨fun k2=>hmain,fun k2=>absurd k12 fun h=>h.elim k1 k2⟩⟩) ?_
  refine C1.im (qf7 s.sch hs.1 d.row hd1) (by rfl) (by rfl) ?_
  simp only [tZ,↓un_u,simprocAttr,bne_iff_ne,bne_eq_false_iff_eq]
  refine ⟨fun h2=>?_,fun h2=>?_⟩
  ·obtain ⟨a1,a2⟩:=hbad _ h2 (by rw [hE,if_pos h2])
   rw [a1,a2]
   exact .oA [] []
  rw [if_neg (by rw [h2];simp)] at hE
  have hdp:=jx h2
  have hdl:=(QH h2).2.1
  have hnc:=(jb hok.sch).nc
  have hF:=JA s (hd d.row) (by omega)
  simp only [tZ,↓un_u,simprocAttr,zu hdp]
  refine ⟨by omega,?_⟩
  refine C1.im (KD s.gone (hd d.row) (by omega)) (by rfl) (by rfl) ?_
  refine sW ?_
  refine ⟨by kernel_rfl,fun h3=>?_,fun h3=>?_⟩
  ·obtain ⟨a1,a2⟩:=hbad 20 (by decide) (by rw [hE,if_pos h3])
   rw [a1,a2]
   exact .oA [] []
  rw [if_neg (by rw [h3];simp)] at hE
  simp only [tZ,↓un_u,simprocAttr,zu hdp]
  refine ⟨by omega,?_⟩
  refine C1.im hF (by rfl) (by rfl) ?_
  simp only [tZ,↓un_u,simprocAttr,tD,beq_iff_eq,beq_eq_false_iff_ne]
  refine ⟨by kernel_rfl,fun h4=>?_,fun h4=>?_⟩
  ·obtain ⟨a1,a2⟩:=hbad 10 (by decide) (by rw [hE,if_pos (by omega)])
   rw [a1,a2]
   exact .oA [] []
  rw [if_neg (by omega)] at hE
  refine ⟨fun h5=>?_,fun h5=>?_⟩
  ·obtain ⟨a1,a2⟩:=hbad 1 (by decide) (by rw [hE,if_pos (by omega)])
   rw [a1,a2]
   exact .oA [] []
  rw [if_neg (by omega)] at hE
  simp only [tZ,↓un_u,simprocAttr,tD,beq_iff_eq,beq_eq_false_iff_ne,Bool.not_eq_true',Bool.not_eq_false']
  refine ⟨fun h6=>?_,fun h6=>?_⟩
  ·obtain ⟨a1,a2⟩:=hbad 19 (by decide) (by rw [hE,if_pos (by omega)])
   rw [a1,a2]
   exact .oA [] []
  rw [if_neg (by omega)] at hE
  have a1:=hgood hE
  rw [a1,hE]
  refine ⟨by omega,?_⟩
  refine C1.shut [86032] (qg1 s.rows d.row (by omega) hrp hdp) ?_ (by rfl) rfl ?_
  ·simp only [tL,simprocAttr]
   exact zD2 _
  simp only [tZ,↓un_u,simprocAttr,hw]
  refine ⟨by kernel_rfl,?_⟩
  exact .oA [] []
 ·rw [if_neg k12] at hE hR
  rw [hR] at hgood
  refine ⟨fun k1=>absurd (.inl k1) k12,fun k1=>⟨fun k2=>absurd (.inr k2) k12,fun k2=>⟨fun k3=>?_,fun k3=>⟨fun k4=>?_,fun k4=>?_⟩⟩⟩⟩
  ·rw [if_pos k3] at hE
   rw [if_neg (by omega)] at hgood
   refine C1.im (JA s d.id (by omega)) (by rfl) (by rfl) ?_
   refine sD ?_
   refine ⟨fun h2=>?_,fun h2=>?_⟩
   ·obtain ⟨a1,a2⟩:=hbad 19 (by decide) (by rw [hE,if_pos h2])
    rw [a1,a2]
    exact .oA [] []
   rw [if_neg h2] at hE
   have a1:=hgood hE
   rw [a1,hE]
   refine C1.im (Ym s.rows d.id (by omega) hrp) (by rfl) (by rfl) ?_
   simp only [tZ,↓un_u,simprocAttr,hw]
   exact .oA [] []
  ·rw [if_neg k3,if_pos k4] at hE
   rw [if_pos k4] at hgood
   refine ⟨fun h2=>?_,fun h2=>?_⟩
   ·obtain ⟨a1,a2⟩:=hbad 2 (by decide) (by rw [hE,if_pos (by omega)])
    rw [a1,a2]
    exact .oA [] []
   rw [if_neg (by omega)] at hE
   refine C1.im (KD s.gone d.id (by omega)) (by rfl) (by rfl) ?_
   refine sW ?_
   refine ⟨fun h3=>?_,fun h3=>?_⟩
   ·obtain ⟨a1,a2⟩:=hbad 20 (by decide) (by rw [hE,if_pos h3])
    rw [a1,a2]
    exact .oA [] []
   rw [if_neg (by rw [h3];simp)] at hE
   have a1:=hgood hE
   rw [a1,hE]
   refine C1.im (Ym s.rows d.id (by omega) hrp) (by rfl) (by rfl) ?_
   refine sW ?_
   refine C1.im (qI7 s.gone d.id (by omega)) (by rfl) (by rfl) ?_
   simp only [tZ,↓un_u,simprocAttr,hw]
   exact .oA [] []
  ·rw [if_neg k3,if_neg k4] at hE
   obtain ⟨a1,a2⟩:=hbad 4 (by decide) hE
   rw [a1,a2]
   exact .oA [] []
end Go.Proofs
namespace Go.Proofs
open Go Go.TL
def ordB (l:List (List Int)):Bool:=(List.range l.length).all fun i=>decide (0 < (l.getD i []).length) && (decide (i = 0) || decide (hd (l.getD (i - 1) []) < hd (l.getD i [])))
def hasK (l:List (List Int)) (k:Int):Bool:=l.any fun r=>hd r == k
def rowK (l:List (List Int)) (k:Int):Option (List Int):=l.find? fun r=>hd r == k
def appR (a:List (List Int)) (g:List Int) (rs:List (List Int)):List (List Int):=rs.foldl putR (a.filter fun r=>!g.contains (hd r))
theorem YS {a b:List (List Int)} (ha:AscR a) (hb:AscR b) (h:∀ r,r∈a↔r∈b):a = b:=by
 refine So.srt_uniq (lt:=fun x y=>decide (hd x < hd y)) ⟨fun x y h=>?_,fun x y z h1 h2=>?_⟩ (ha.imp fun h=>decide_eq_true h) (hb.imp fun h=>decide_eq_true h) h
 ·simp only [decide_eq_true_eq] at h
  exact decide_eq_false (by omega)
 ·simp only [decide_eq_false_iff_not] at h1 h2 ⊢
  omega
theorem zI2 {l:List (List Int)} (h:AscR l) {r s:List Int} (hr:r∈l) (hs:s∈l) (e:hd r = hd s):r = s:=by
 obtain ⟨i,hi,rfl⟩:=List.getElem_of_mem hr
 obtain ⟨j,hj,rfl⟩:=List.getElem_of_mem hs
 have hp:=List.pairwise_iff_getElem.1 h
 by_cases h1:i < j
 ·have:=hp i j hi hj h1;omega
 ·by_cases h2:j < i
  ·have:=hp j i hj hi h2;omega
  ·have:i = j:=by omega
   subst this;rfl
theorem zp0 {l:List (List Int)} (h:AscR l) {r:List Int}:rowK l (hd r) = some r↔r∈l:=by
 constructor
 ·intro e;exact List.mem_of_find?_eq_some e
 ·intro hr
  unfold rowK
  cases e:l.find? (fun s=>hd s == hd r) with
  | none=>
    have:=List.find?_eq_none.1 e r hr
    simp at this
  | some s=>
    have h1:=List.mem_of_find?_eq_some e
    have h2:=List.find?_some e
    rw [zI2 h h1 hr (by simpa using h2)]
def ascI (l:List Int):Bool:=(List.range l.length).all fun i=>asc2 l i
def appE (a:Ext) (c:Chg):Int:=
 if ordB a.rows = false∨ordB c.rows = false∨ascI c.gone = false∨(c.rows.any fun r=>decide (r.length≠a.picks.length + 1)) = true then 11
 else if (c.gone.any fun k=>!hasK a.rows k) = true then 21 else if (c.gone.any fun k=>hasK c.rows k) = true then 10 else 0
structure ExtOk (x:Ext):Prop where
 ord:ordB x.rows = true
 len:∀ r∈x.rows,r.length = x.picks.length + 1
end Go.Proofs
