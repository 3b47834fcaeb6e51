/- A part of the proof: trees of Go values, short forms, contracts. -/
import Derived.WalkKit
import Derived.Still
import Derived.MapKept
import GoSem.Builtin.Cap
import Derived.Laws.Externs
import GoSem.Extern.SlicesOverlaps
import Derived.Carry
import Derived.ProofKit
import Derived.OpenShut
import Derived.HandedShaped
import Derived.Lay
import Derived.LaidLaws
import Derived.MakeChecks
import Derived.SevenTiedAt
import Derived.Test.YtjckmmphmhafjaaGreatDoorChecked
import Derived.Test.YtjckmmphmhafjaaGreatDoorK21
set_option linter.unusedSimpArgs false
set_option linter.unusedVariables false
namespace Go.Proofs
open Go Go.TL
set_option maxRecDepth 4000
def mixA (h:Int):Int:=IntKind.u64.wrap (xorI .u64 h (shrI .u64 h 31) * 13787848793156543929)
def mix0 (s r x:Int):Int:=IntKind.u64.wrap (IntKind.u64.wrap (IntKind.u64.wrap s + IntKind.u64.wrap (IntKind.u64.wrap r * 11400714819323198485)) + IntKind.u64.wrap (IntKind.u64.wrap x * 14029467366897019727))
def iter {α:Type} (f:α→α):Nat→α→α
 | 0,x=>x
 | n + 1,x=>f (iter f n x)
def mixI (s r x:Int):Int:=IntKind.i64.wrap (shrI .u64 (iter mixA 3 (mix0 s r x)) 54)
def fwd (s:Int):Nat→Int×Int→Int×Int
 | 0,p=>p
 | r + 1,p=>((fwd s r p).2,xorI .i64 (fwd s r p).1 (mixI s r (fwd s r p).2))
def bwd (s:Int):Nat→Int×Int→Int×Int
 | 0,p=>p
 | r + 1,p=>bwd s r (xorI .i64 p.2 (mixI s r p.1),p.1)
def rightI (s n:Int):Bool:=decide (0≤s) && decide (s < 1152921504606846976) && decide (0≤n) && decide (n < 1048576)
def tie (p:Int×Int):Int:=p.1 * 1024 + p.2
def cut (n:Int):Int×Int:=(n / 1024,n % 1024)
def keyI (s n:Int):Int:=if rightI s n = true then tie (fwd s 8 (cut n)) else -1
def idI (s n:Int):Int:=if rightI s n = true then tie (bwd s 8 (cut n)) else -1
theorem bits_nat {n:Int} (h0:0≤n):BitVec.ofInt 64 n = BitVec.ofNat 64 n.toNat:=by
 apply BitVec.eq_of_toNat_eq
 simp [BitVec.toNat_ofInt]
 omega
theorem xor_nat {a b:Int} (ha:0≤a∧a < 9223372036854775808) (hb:0≤b∧b < 9223372036854775808):xorI .i64 a b = ((a.toNat ^^^ b.toNat:Nat):Int):=by
 have h1:a.toNat < 2 ^ 63:=by omega
 have h2:b.toNat < 2 ^ 63:=by omega
 have h3:=Nat.xor_lt_two_pow h1 h2
 unfold xorI
 rw [show IntKind.i64.bits = 64 from rfl,bits_nat ha.1,bits_nat hb.1,BitVec.toNat_xor,BitVec.toNat_ofNat,BitVec.toNat_ofNat,Nat.mod_eq_of_lt (by omega),Nat.mod_eq_of_lt (by omega)]
 exact IntWalk.i64_in _ (by omega)
theorem xor_range {a b:Int} (ha:0≤a∧a < 1024) (hb:0≤b∧b < 1024):0≤xorI .i64 a b∧xorI .i64 a b < 1024:=by
 have h1:a.toNat < 2 ^ 10:=by omega
 have h2:b.toNat < 2 ^ 10:=by omega
 have h3:=Nat.xor_lt_two_pow h1 h2
 rw [xor_nat (by omega) (by omega)]
 omega
theorem xor_xor {a b:Int} (ha:0≤a∧a < 1024) (hb:0≤b∧b < 1024):xorI .i64 (xorI .i64 a b) b = a:=by
 have:=xor_range ha hb
 rw [xor_nat (by omega) (by omega),xor_nat (by omega) (by omega)]
 simp only [Int.toNat_natCast,Nat.xor_assoc,Nat.xor_self,Nat.xor_zero]
 omega
theorem mix_range (s r x:Int):0≤mixI s r x∧mixI s r x < 1024:=by
 unfold mixI
 have h:∀ n,0≤iter mixA 3 n∧iter mixA 3 n < 18446744073709551616:=by
  intro n
  simp only [iter]
  unfold mixA
  rw [IntKind.wrap_u64]
  omega
 have:=h (mix0 s r x)
 have h1:shrI .u64 (iter mixA 3 (mix0 s r x)) 54 = (iter mixA 3 (mix0 s r x)) / 18014398509481984:=by
  unfold shrI
  rw [Int.fdiv_eq_ediv_of_nonneg _ (by decide)]
  rfl
 rw [h1]
 rw [IntWalk.i64_in _ (by omega)]
 omega
theorem fwd_range {s:Int} {p:Int×Int} (h:(0≤p.1∧p.1 < 1024)∧0≤p.2∧p.2 < 1024):∀ r,(0≤(fwd s r p).1∧(fwd s r p).1 < 1024)∧0≤(fwd s r p).2∧(fwd s r p).2 < 1024
 | 0=>h
 | r + 1=>⟨(fwd_range h r).2,xor_range (fwd_range h r).1 (mix_range _ _ _)⟩
theorem bwd_range {s:Int}:∀ (r:Nat) {p:Int×Int},(0≤p.1∧p.1 < 1024)∧0≤p.2∧p.2 < 1024→(0≤(bwd s r p).1∧(bwd s r p).1 < 1024)∧0≤(bwd s r p).2∧(bwd s r p).2 < 1024
 | 0,_,h=>h
 | r + 1,_,h=>bwd_range r ⟨xor_range h.2 (mix_range _ _ _),h.1⟩
theorem bwd_fwd {s:Int} {p:Int×Int} (h:(0≤p.1∧p.1 < 1024)∧0≤p.2∧p.2 < 1024):∀ r,bwd s r (fwd s r p) = p
 | 0=>rfl
 | r + 1=>by
   simp only [bwd,fwd]
   rw [xor_xor (fwd_range h r).1 (mix_range _ _ _)]
   exact bwd_fwd h r
theorem cut_range {n:Int} (h:0≤n∧n < 1048576):(0≤(cut n).1∧(cut n).1 < 1024)∧0≤(cut n).2∧(cut n).2 < 1024:=by
 simp only [cut];omega
theorem cut_tie {p:Int×Int} (h:(0≤p.1∧p.1 < 1024)∧0≤p.2∧p.2 < 1024):cut (tie p) = p:=by
 obtain ⟨a,b⟩:=p
 simp only [cut,tie] at *
 congr 1 <;> omega
theorem tie_cut (n:Int):tie (cut n) = n:=by simp only [cut,tie];omega
theorem tie_range {p:Int×Int} (h:(0≤p.1∧p.1 < 1024)∧0≤p.2∧p.2 < 1024):0≤tie p∧tie p < 1048576:=by
 simp only [tie];omega
theorem c_pseudonym_right (a b:Int):Spc Tryz.prog F_pseudonym_right [vI a,vI b] [] (vB (rightI a b)) []:=by
 refine spec_of_ir fn_pseudonym_right mixm (by simp) fun e hn hst=>W_start ?_
 unfold ir_pseudonym_right
 refine sW ?_
 exact .imR rfl rfl
theorem c_pseudonym_mix (a b c:Int):Spc Tryz.prog F_pseudonym_mix [vI a,vI b,vI c] [] (vI (mixI a b c)) []:=by
 refine spec_of_ir fn_pseudonym_mix mixm (by simp) fun e hn hst=>W_start ?_
 unfold ir_pseudonym_mix
 refine sW ?_
 refine W_loop mixm (α:=Nat) (fun i=>i≤3) (fun i=>[(7,vU64 (iter mixA i (mix0 a b c))),(18,vI i)]) (fun _=>[]) (fun i=>3 - i) 0 (by omega) (.ofFr (by simp [hasFr,TL.get,iter,mix0])) fun i hi=>?_
 simp only [tZ,↓un_u,simprocAttr,decide_eq_true_eq,decide_eq_false_iff_not]
 refine ⟨fun h=>⟨i + 1,by omega,by omega,.ofFr ?_⟩,fun h=>?_⟩
 ·simp [hasFr,TL.get,iter,mixA]
  exact IntWalk.i64_in _ (by omega)
 ·have:i = 3:=by omega
  subst this
  exact .imR rfl rfl
theorem c_pseudonym_Key (s n:Int):Spc Tryz.prog F_pseudonym_Key [vI s,vI n] [] (vI (keyI s n)) []:=by
 refine spec_of_ir fn_pseudonym_Key mixm (by simp) fun e hn hst=>W_start ?_
 unfold ir_pseudonym_Key
 refine sW ?_
 refine C1.im (c_pseudonym_right s n) rfl rfl ?_
 simp only [tZ,↓un_u,simprocAttr,Bool.not_eq_false']
 refine ⟨fun h=>.imR (by simp [keyI,h]) rfl,fun h=>?_⟩
 have hn:0≤n∧n < 1048576:=by simp [rightI] at h;omega
 rw [Int.tdiv_eq_ediv_of_nonneg hn.1,Int.tmod_eq_emod_of_nonneg hn.1,IntWalk.i64_in _ (by omega)]
 have hr:=fwd_range (s:=s) (cut_range hn)
 refine W_loop mixm (α:=Nat) (fun i=>i≤8) (fun i=>[(0,vI s),(5,vI (fwd s i (cut n)).1),(6,vI (fwd s i (cut n)).2),(16,vI i)]) (fun _=>[]) (fun i=>8 - i) 0 (by omega) (.ofFr (by simp [hasFr,TL.get,fwd,cut])) fun i hi=>?_
 simp only [tZ,↓un_u,simprocAttr,decide_eq_true_eq,decide_eq_false_iff_not]
 refine ⟨fun h=>?_,fun h=>?_⟩
 ·refine C1.im (c_pseudonym_mix s i _) rfl rfl ?_
  refine sW ?_
  refine ⟨i + 1,by omega,by omega,.ofFr ?_⟩
  simp [hasFr,TL.get,fwd]
  exact IntWalk.i64_in _ (by omega)
 ·have:i = 8:=by omega
  subst this
  have:=hr 8
  refine .imR ?_ rfl
  rw [IntWalk.i64_in _ (by rw [IntWalk.i64_in _ (by omega)];omega),IntWalk.i64_in _ (by omega)]
  simp [keyI,h,tie, *]
theorem c_ref12_right (a b:Int):Spc Tryz.prog F_ref12_right [vI a,vI b] [] (vB (rightI a b)) []:=by
 refine spec_of_ir fn_ref12_right mixm (by simp) fun e hn hst=>W_start ?_
 unfold ir_ref12_right
 refine sW ?_
 exact .imR rfl rfl
def roundI (s r x:Int):Int:=if s < 0∨1152921504606846976≤s∨r < 0∨8≤r∨x < 0∨1024≤x then 0 else mixI s r x
theorem c_ref12_Round (a b c:Int):Spc Tryz.prog F_ref12_Round [vI a,vI b,vI c] [] (vI (roundI a b c)) []:=by
 refine spec_of_ir fn_ref12_Round mixm (by simp) fun e hn hst=>W_start ?_
 unfold ir_ref12_Round
 simp only [tZ,↓un_u,simprocAttr,Bool.or_eq_true,Bool.or_eq_false_iff,decide_eq_true_eq,decide_eq_false_iff_not]
 refine ⟨fun h=>.imR ?_ rfl,fun h=>?_⟩
 ·rw [roundI,if_pos (by omega)]
 ·refine W_loop mixm (α:=Nat) (fun i=>i≤3) (fun i=>[(7,vU64 (iter mixA i (mix0 a b c))),(8,vI i)]) (fun _=>[]) (fun i=>3 - i) 0 (by omega) (.ofFr (by simp [hasFr,TL.get,iter,mix0])) fun i hi=>?_
  simp only [tZ,↓un_u,simprocAttr,decide_eq_true_eq,decide_eq_false_iff_not]
  refine ⟨fun h=>⟨i + 1,by omega,by omega,.ofFr ?_⟩,fun h=>?_⟩
  ·simp [hasFr,TL.get,iter,mixA]
   exact IntWalk.i64_in _ (by omega)
  ·have:i = 3:=by omega
   subst this
   refine .imR ?_ rfl
   rw [roundI,if_neg (by omega)]
   rfl
theorem round_in {s n x:Int} {r:Nat} (h:rightI s n = true) (hr:r < 8) (hx:0≤x∧x < 1024):roundI s r x = mixI s r x:=by
 simp [rightI] at h
 rw [roundI,if_neg (by omega)]
theorem c_ref12_Key (s n:Int):Spc Tryz.prog F_ref12_Key [vI s,vI n] [] (vI (keyI s n)) []:=by
 refine spec_of_ir fn_ref12_Key mixm (by simp) fun e hn hst=>W_start ?_
 unfold ir_ref12_Key
 refine sW ?_
 refine C1.im (c_ref12_right s n) rfl rfl ?_
 simp only [tZ,↓un_u,simprocAttr,Bool.not_eq_false']
 refine ⟨fun h=>.imR (by simp [keyI,h]) rfl,fun h=>?_⟩
 have hn:0≤n∧n < 1048576:=by simp [rightI] at h;omega
 rw [Int.tdiv_eq_ediv_of_nonneg hn.1,Int.tmod_eq_emod_of_nonneg hn.1,IntWalk.i64_in _ (by omega)]
 have hr:=fwd_range (s:=s) (cut_range hn)
 refine W_loop mixm (α:=Nat) (fun i=>i≤8) (fun i=>[(0,vI s),(5,vI (fwd s i (cut n)).1),(6,vI (fwd s i (cut n)).2),(7,vI i)]) (fun _=>[]) (fun i=>8 - i) 0 (by omega) (.ofFr (by simp [hasFr,TL.get,fwd,cut])) fun i hi=>?_
 simp only [tZ,↓un_u,simprocAttr,decide_eq_true_eq,decide_eq_false_iff_not]
 refine ⟨fun h1=>?_,fun h1=>?_⟩
 ·refine C1.im (c_ref12_Round s i _) rfl rfl ?_
  refine sW ?_
  refine ⟨i + 1,by omega,by omega,.ofFr ?_⟩
  rw [round_in h (by omega) (hr i).2]
  simp [hasFr,TL.get,fwd]
  exact IntWalk.i64_in _ (by omega)
 ·have:i = 8:=by omega
  subst this
  have:=hr 8
  refine .imR ?_ rfl
  rw [IntWalk.i64_in _ (by rw [IntWalk.i64_in _ (by omega)];omega),IntWalk.i64_in _ (by omega)]
  simp [keyI,h,tie]
theorem c_ref12_Id (s n:Int):Spc Tryz.prog F_ref12_Id [vI s,vI n] [] (vI (idI s n)) []:=by
 refine spec_of_ir fn_ref12_Id mixm (by simp) fun e hn hst=>W_start ?_
 unfold ir_ref12_Id
 refine sW ?_
 refine C1.im (c_ref12_right s n) rfl rfl ?_
 simp only [tZ,↓un_u,simprocAttr,Bool.not_eq_false']
 refine ⟨fun h=>.imR (by simp [idI,h]) rfl,fun h=>?_⟩
 have hn:0≤n∧n < 1048576:=by simp [rightI] at h;omega
 rw [Int.tdiv_eq_ediv_of_nonneg hn.1,Int.tmod_eq_emod_of_nonneg hn.1,IntWalk.i64_in _ (by omega)]
 have hr:=bwd_range (s:=s) 8 (cut_range hn)
 refine W_loop mixm (α:=Nat×Int×Int) (fun x=>x.1≤8∧bwd s x.1 x.2 = bwd s 8 (cut n)∧(0≤x.2.1∧x.2.1 < 1024)∧0≤x.2.2∧x.2.2 < 1024) (fun x=>[(0,vI s),(5,vI x.2.1),(6,vI x.2.2),(7,vI (x.1 - 1:Int))]) (fun _=>[]) (fun x=>x.1) (8,cut n) ⟨by omega,rfl,cut_range hn⟩ (.ofFr (by simp [hasFr,TL.get,cut])) ?_
 rintro ⟨k,a,b⟩ ⟨hk,hI,hab⟩
 simp only [tZ,↓un_u,simprocAttr,decide_eq_true_eq,decide_eq_false_iff_not]
 simp only at hk hI hab
 refine ⟨fun h1=>?_,fun h1=>?_⟩
 ·refine C1.im (c_ref12_Round s _ _) rfl rfl ?_
  refine sW ?_
  obtain ⟨k,rfl⟩:∃ k',k = k' + 1:=⟨k - 1,by omega⟩
  refine ⟨(k,xorI .i64 b (mixI s k a),a),⟨by simp only;omega,by simpa [bwd] using hI,xor_range hab.2 (mix_range _ _ _),hab.1⟩,by simp only;omega,.ofFr ?_⟩
  have:((k + 1:Nat):Int) - 1 = k:=by omega
  rw [this,round_in h (by omega) hab.1]
  simp [hasFr,TL.get]
  exact IntWalk.i64_in _ (by omega)
 ·have:k = 0:=by omega
  subst this
  have hI:(a,b) = bwd s 8 (cut n):=hI
  refine .imR ?_ rfl
  have h2:a = (bwd s 8 (cut n)).1:=by rw [← hI]
  have h3:b = (bwd s 8 (cut n)).2:=by rw [← hI]
  rw [IntWalk.i64_in _ (by rw [IntWalk.i64_in _ (by omega)];omega),IntWalk.i64_in _ (by omega)]
  simp [idI,h,tie,h2,h3]
end Go.Proofs
set_option linter.unusedSimpArgs false
set_option linter.unusedVariables false
namespace Go.Proofs
open Go Go.TL
set_option maxHeartbeats 4000000
open So
def drw0 (seed id:Int):Int:=IntKind.u64.wrap (IntKind.u64.wrap (IntKind.u64.wrap (IntKind.u64.wrap seed * 2654435761) + IntKind.u64.wrap (IntKind.u64.wrap id * 40503)) + 97)
def drwA (h:Int):Int:=IntKind.u64.wrap (IntKind.u64.wrap (h * 6364136223846793005) + 1442695040888963407)
def drwX (h:Int):Int:=xorI .u64 (drwA h) (shrI .u64 (drwA h) 29)
def drwI (seed id:Int):Int:=IntKind.i64.wrap (shrI .u64 (iter drwX 3 (drw0 seed id)) 32)
def inS (x:Smp) (id:Int):Bool:=(smpE x == 0) && decide (1≤id) && decide (id≤1048575) && decide ((drwI x.seed id).tmod x.of < x.part)
theorem c_ref11_Check (x:Smp):Spc Tryz.prog F_ref11_Check [smpT x] [] (vI (smpE x)) []:=by
 refine spec_of_ir fn_ref11_Check mixm (by simp) fun e _ hst=>W_start ?_
 unfold ir_ref11_Check
 refine sD ?_
 refine ⟨fun h=>?_,fun h=>?_⟩
 ·rw [smpE,if_pos (by omega)]
  exact .oA [] []
 ·rw [smpE,if_neg (by omega)]
  exact .oA [] []
theorem c_ref11_Draw (seed id:Int):Spc Tryz.prog F_ref11_Draw [vI seed,vI id] [] (vI (drwI seed id)) []:=by
 refine spec_of_ir fn_ref11_Draw mixm (by simp) fun e _ hst=>W_start ?_
 unfold ir_ref11_Draw
 refine sW ?_
 refine W_loopF mixm (α:=Nat) [5,6] (fun i=>i≤3) (fun i=>[(5,vU64 (iter drwX i (drw0 seed id))),(6,vI i)]) (fun i=>[]) (fun i=>3 - i) 0 (by omega) ?_ fun i hi=>?_
 ·exact .oA [] []
 have hwi:=i64_succ (i:=i) (by omega)
 refine sD ?_
 refine ⟨fun h=>?_,fun h=>?_⟩
 ·simp only [tZ,↓un_u,simprocAttr,hwi]
  refine ⟨i + 1,by omega,by omega,?_⟩
  show Le _ _ ⟨(5,vU64 (drwX (iter drwX i (drw0 seed id)))) :: _,_⟩
  exact .oA [] []
 ·have:i = 3:=by omega
  subst this
  exact .oA [] []
theorem c_ref11_In (x:Smp) (id:Int):Spc Tryz.prog F_ref11_In [smpT x,vI id] [] (vB (inS x id)) []:=by
 refine spec_of_ir fn_ref11_In mixm (by simp) fun e _ hst=>W_start ?_
 unfold ir_ref11_In
 refine sW ?_
 refine C1.im (c_ref11_Check x) (by rfl) (by rfl) ?_
 refine sW ?_
 refine C2.im (fun _=>c_ref11_Draw x.seed id) (fun _=>rfl) (by rfl) ?_
 refine sW ?_
 rw [show (smpE x == 0 && decide (id≥1) && decide (id≤1048575) && decide ((drwI x.seed id).tmod x.of < x.part)) = inS x id from rfl]
 refine ⟨fun h=>?_,by kernel_rfl,?_⟩
 ·simp only [tD,beq_iff_eq] at h
  have:=h.1.1
  unfold smpE at this
  grind
 ·exact .oA [] []
def ownP (s:Src) (d:Dcl) (r:List Int):Bool:=(evalI s.sch d.coh r == 1) && inS d.smp (hd r)
def ownR (s:Src) (d:Dcl):List (List Int):=if srcB s = false∨dclE s.sch d≠0 then [] else s.rows.filter (ownP s d)
def ownS (s:Src) (d:Dcl):List Int:=(ownR s d).map hd
theorem c_ref13_Owners (s:Src) (d:Dcl) (hs:SrcSm s) (hL:0 < s.sch.lists.length):Spc Tryz.prog F_ref13_Owners [srcT s,dclT d] [] (vIs (ownS s d)) []:=by
 refine spec_of_ir fn_ref13_Owners mixm (by simp) fun e _ hst=>W_start ?_
 unfold ir_ref13_Owners
 refine sW ?_
 refine C1.im (c_ref04_Valid s hs) (by rfl) (by rfl) ?_
 refine sW ?_
 refine C2.im (fun _=>c_ref08_Check s.sch hs.1 hL d) (fun _=>rfl) (by rfl) ?_
 simp only [tZ,↓un_u,simprocAttr,tD,bne_iff_ne,bne_eq_false_iff_eq,Bool.not_eq_true',Bool.not_eq_false']
 refine ⟨fun h=>?_,fun h=>?_⟩
 ·rw [ownS,ownR,if_pos h]
  exact .oA [] []
 have hok:=srcB_ok.1 h.1
 have hrp:=hok.rowp
 have hnr:=hok.nr
 rw [ownS,ownR,if_neg (by grind)]
 refine W_loopF mixm (α:=Nat) [5,6,16] (fun i=>i≤s.rows.length) (fun i=>[(5,.asl 1 (((s.rows.take i).filter (ownP s d)).map hd).length),(6,vI i)]) (fun i=>[(4096,.arr 5 [srcT s] false),(4100,.arr 12 [dclT d] false),(1,.arr 1 ((((s.rows.take i).filter (ownP s d)).map hd).map vI) false)]) (fun i=>s.rows.length - i) 0 (by omega) ?_ fun i hi=>?_
 ·exact .oA [(4096,some 4096),(4100,some 4100),(1,none)] []
 have hfl:=List.length_filter_le (ownP s d) (s.rows.take i)
 rw [List.length_take] at hfl
 refine sD ?_
 refine ⟨fun h2=>?_,fun h2=>?_⟩
 ·have hi2:i < s.rows.length:=by omega
  have hwi:=i64_succ (i:=i) (by omega)
  have hgi:=getD_hd (hrp _ (List.getElem_mem hi2))
  have hrpi:=hrp _ (List.getElem_mem hi2)
  have hsp:((s.rows.take (i + 1)).filter (ownP s d)).map hd = ((s.rows.take i).filter (ownP s d)).map hd ++ if ownP s d s.rows[i] = true then [hd s.rows[i]] else []:=by
   rw [take_snoc hi2,List.filter_append,List.map_append,List.filter_cons,List.filter_nil]
   congr 1
   split <;> rfl
  have hP:ownP s d s.rows[i] = ((evalI s.sch d.coh s.rows[i] == 1) && inS d.smp (hd s.rows[i])):=rfl
  have hI:=c_ref11_In d.smp (hd s.rows[i])
  simp only [tZ,↓un_u,simprocAttr,Int.toNat_natCast,getD_mapT hi2]
  refine ⟨by omega,?_⟩
  refine C1.im (c_ref05_Eval s.sch hs.1 hL d.coh s.rows[i] (hs.2 _ (List.getElem_mem hi2))) (by rfl) (by rfl) ?_
  simp only [tZ,↓un_u,simprocAttr,Int.toNat_natCast,getD_mapT hi2,hgi]
  refine ⟨fun _=>by omega,fun _=>by omega,?_⟩
  refine C2.im (fun _=>hI) (fun _=>rfl) (by rfl) ?_
  refine sW ?_
  rw [← hP]
  refine ⟨by kernel_rfl,fun h3=>?_,fun h3=>?_⟩
  ·rw [if_pos h3] at hsp
   have hspl:=congrArg List.length hsp
   simp only [List.length_append,List.length_map,List.length_cons,List.length_nil] at hspl
   simp only [tZ,↓un_u,simprocAttr,Int.toNat_natCast,getD_mapT hi2,hgi,hwi]
   refine ⟨by omega,by omega,by omega,i + 1,by omega,by omega,?_⟩
   rw [hsp]
   exact .oA [(4096,some 4096),(4100,some 4100),(1,some 1)] []
  ·rw [if_neg (by rw [h3];simp),List.append_nil] at hsp
   have hspl:=congrArg List.length hsp
   simp only [List.length_append,List.length_map,List.length_cons,List.length_nil] at hspl
   simp only [tZ,↓un_u,simprocAttr,hwi]
   refine ⟨i + 1,by omega,by omega,?_⟩
   rw [hsp]
   exact .oA [(4096,some 4096),(4100,some 4100),(1,some 1)] []
 ·have hil:i = s.rows.length:=by omega
  subst hil
  rw [List.take_length]
  exact .oA [] [1]
end Go.Proofs
set_option linter.unusedSimpArgs false
set_option linter.unusedVariables false
namespace Go.Proofs
open Go Go.TL
set_option maxHeartbeats 4000000
theorem find_row {s:Src} (h:SrcOk s) {r:List Int} (hr:r∈s.rows):∃ j:Nat,findR s (hd r) = j∧∃ hj:j < s.rows.length,s.rows[j] = r:=by
 have h1:s.rows.any (atR (hd r)) = true:=List.any_eq_true.2 ⟨r,hr,by rw [atR_ok (h.rows r hr)];simp⟩
 have h2:s.rows.findIdx (atR (hd r)) < s.rows.length:=List.findIdx_lt_length_of_exists (by
  obtain ⟨x,a,b⟩:=List.any_eq_true.1 h1
  exact ⟨x,a,b⟩)
 refine ⟨_,by rw [findR,if_pos h1],h2,?_⟩
 have h3:=List.findIdx_getElem (p:=atR (hd r)) (xs:=s.rows) (w:=h2)
 rw [atR_ok (h.rows _ (List.getElem_mem h2)),beq_iff_eq] at h3
 obtain ⟨i,hi,rfl⟩:=List.getElem_of_mem hr
 have hp:=List.pairwise_iff_getElem.1 h.asc
 by_cases c1:s.rows.findIdx (atR (hd s.rows[i])) < i
 ·have:=hp _ i h2 hi c1;omega
 ·by_cases c2:i < s.rows.findIdx (atR (hd s.rows[i]))
  ·have:=hp i _ hi h2 c2;omega
  ·have e:s.rows.findIdx (atR (hd s.rows[i])) = i:=by omega
   simp only [e]
theorem picks_len {s:Sch} {l:List Pk} (h:picksE s l = 0):l.length≤8:=by
 obtain ⟨h1,h2,h3⟩:=picksE_ok h
 have hn:=(schE_ok h1).nc
 have key:∀ i (hi:i < l.length),(i:Int) + 1≤l[i].col:=by
  intro i
  induction i with
  | zero=>intro hi;have:=pickE_ok (h2 _ (List.getElem_mem hi));omega
  | succ i ih=>
    intro hi
    have a:=ih (by omega)
    have b:=List.pairwise_iff_getElem.1 h3 i (i + 1) (by omega) hi (by omega)
    omega
 refine Classical.byContradiction fun c=>?_
 have a:=key 7 (by omega)
 have b:=pickE_ok (h2 _ (List.getElem_mem (show 7 < l.length by omega)))
 omega
def rowX (s:Src) (l:List Pk) (k:Int) (r:List Int):List Int:=keyI k (hd r) :: l.map fun p=>coarseI s.sch p.col p.lev (r.getD p.col.toNat 0)
def buildF (s:Src) (l:List Pk) (k:Int):List (List Int)→List Int→List (List Int):=fun a r=>putR a (rowX s l k r)
def buildR (s:Src) (d:Dcl) (l:List Pk) (k:Int):List (List Int):=(ownR s d).foldl (buildF s l k) []
def buildE (s:Src) (d:Dcl) (l:List Pk) (k:Int):Int:=if srcB s = false then 13 else if chk10 s.sch d l≠0 then chk10 s.sch d l else if k < 0∨k≥1152921504606846976 then 2 else 0
abbrev ext0:Ext:=⟨⟨#[]⟩,0,[],[]⟩
def buildX (s:Src) (d:Dcl) (l:List Pk) (k:Int):Ext:=if buildE s d l k≠0 then ext0 else ⟨d.proj,s.ver,l,buildR s d l k⟩
theorem chk10_ok {s:Sch} {d:Dcl} {l:List Pk} (h:chk10 s d l = 0):dclE s d = 0∧picksE s l = 0:=by
 unfold chk10 at h
 split at h
 ·rename_i h1;exact absurd h h1
 rename_i h1
 split at h
 ·rename_i h2;exact absurd h h2
 rename_i h2
 exact ⟨Classical.byContradiction h1,Classical.byContradiction h2⟩
theorem rowX_pos (s:Src) (l:List Pk) (k:Int) (r:List Int):0 < (rowX s l k r).length:=by simp [rowX]
theorem putR_pos {l:List (List Int)} {row:List Int} (h:∀ r∈l,0 < r.length) (h0:0 < row.length):∀ r∈putR l row,0 < r.length:=by
 have key:∀ (m:List (List Int)) (x:List (List Int)×Bool),(∀ r∈m,0 < r.length)→(∀ r∈x.1,0 < r.length)→∀ r∈(m.foldl (putS row) x).1,0 < r.length:=by
  intro m
  induction m with
  | nil=>intro x _ h;exact h
  | cons y m ih=>
    intro x h1 h2
    rw [List.foldl_cons]
    refine ih _ (fun r hr=>h1 r (List.mem_cons_of_mem _ hr)) ?_
    have hy:=h1 y (by simp)
    unfold putS
    intro r hr
    split at hr
    ·exact h2 r hr
    ·split at hr
     ·simp only [List.mem_append,List.mem_singleton] at hr
      rcases hr with (hr | hr) | hr
      ·exact h2 r hr
      ·rw [hr];exact h0
      ·rw [hr];exact hy
     ·simp only [List.mem_append,List.mem_singleton] at hr
      rcases hr with hr | hr
      ·exact h2 r hr
      ·rw [hr];exact hy
 have k2:=key l ([],false) h (by simp)
 unfold putR
 dsimp only
 split
 ·exact k2
 ·intro r hr
  rcases List.mem_append.1 hr with hr | hr
  ·exact k2 r hr
  ·rw [List.mem_singleton.1 hr];exact h0
theorem buildF_ok (s:Src) (l:List Pk) (k:Int):∀ (m a:List (List Int)),(∀ r∈a,0 < r.length)→(∀ r∈m.foldl (buildF s l k) a,0 < r.length)∧(m.foldl (buildF s l k) a).length≤a.length + m.length
 | [],a,h=>⟨h,Nat.le_refl _⟩
 | r :: m,a,h=>by
   obtain ⟨h1,h2⟩:=buildF_ok s l k m (buildF s l k a r) (putR_pos h (rowX_pos s l k r))
   have h3:=putR_len a (rowX s l k r)
   refine ⟨h1,?_⟩
   rw [List.foldl_cons,List.length_cons]
   unfold buildF at h2 ⊢
   omega
theorem c_ref13_Build (s:Src) (d:Dcl) (l:List Pk) (k:Int) (hs:SrcSm s) (hL:0 < s.sch.lists.length) (hl:l.length < 4611686018427387904):Spc Tryz.prog F_ref13_Build [srcT s,dclT d,vPs l,vI k] [] (.tup [extT (buildX s d l k),vI (buildE s d l k)]) []:=by
 have hE:=(rfl:buildE s d l k = buildE s d l k)
 have hS:buildX s d l k = if buildE s d l k≠0 then ext0 else ⟨d.proj,s.ver,l,buildR s d l k⟩:=rfl
 conv at hE=>rhs;unfold buildE
 have hbad:∀ v,v≠0→buildE s d l k = v→buildX s d l k = ext0∧buildE s d l k = v:=fun v h1 h2=>⟨by rw [hS,h2,if_pos h1],h2⟩
 have hgood:buildE s d l k = 0→buildX s d l k = ⟨d.proj,s.ver,l,buildR s d l k⟩:=fun h=>by rw [hS,h,if_neg (by simp)]
 clear hS
 generalize buildE s d l k = E at hE hbad hgood ⊢
 generalize buildX s d l k = A at hbad hgood ⊢
 refine spec_of_ir fn_ref13_Build mixm (by simp) fun e _ hst=>W_start ?_
 unfold ir_ref13_Build
 refine sW ?_
 refine C1.im (c_ref04_Valid s hs) (by rfl) (by rfl) ?_
 simp only [tZ,↓un_u,simprocAttr,Bool.not_eq_true',Bool.not_eq_false']
 refine ⟨fun h=>?_,fun h=>?_⟩
 ·obtain ⟨a1,a2⟩:=hbad 13 (by decide) (by rw [hE,if_pos h])
  rw [a1,a2]
  exact .oA [] []
 rw [if_neg (by rw [h];simp)] at hE
 have hok:=srcB_ok.1 h
 refine C1.im (c_ref10_Check s.sch hs.1 hL d l hl) (by rfl) (by rfl) ?_
 simp only [tZ,↓un_u,simprocAttr,bne_iff_ne,bne_eq_false_iff_eq]
 refine ⟨fun h2=>?_,fun h2=>?_⟩
 ·obtain ⟨a1,a2⟩:=hbad _ h2 (by rw [hE,if_pos h2])
  rw [a1,a2]
  exact .oA [] []
 rw [if_neg (by rw [h2];simp)] at hE
 obtain ⟨hd0,hp0⟩:=chk10_ok h2
 refine sD ?_
 refine ⟨fun h3=>?_,fun h3=>?_⟩
 ·obtain ⟨a1,a2⟩:=hbad 2 (by decide) (by rw [hE,if_pos (by omega)])
  rw [a1,a2]
  exact .oA [] []
 rw [if_neg (by omega)] at hE
 have a1:=hgood hE
 rw [a1,hE]
 clear hbad hgood
 have hpl:=picks_len hp0
 obtain ⟨_,hpk,_⟩:=picksE_ok hp0
 refine ⟨by omega,by kernel_rfl,?_⟩
 refine C1.im (c_ref13_Owners s d hs hL) (by rfl) (by rfl) ?_
 have hoR:∀ r∈ownR s d,r∈s.rows:=fun r hr=>by
  unfold ownR at hr
  split at hr
  ·simp at hr
  ·exact (List.mem_filter.1 hr).1
 have hol:(ownR s d).length≤200:=by
  unfold ownR
  split
  ·simp
  ·exact Nat.le_trans (List.length_filter_le _ _) hok.nr
 unfold ownS buildR
 generalize ownR s d = R at hoR hol ⊢
 refine sW ?_
 refine W_loopF mixm (α:=Nat) [13] (fun i=>i≤R.length) (fun i=>[(13,vI i)]) (fun i=>[(4096,.arr 5 [srcT s] false),(4104,.arr 4 [extT ext0] false),(36884,.arr 2 (l.map pkT) false),(36892,.arr 4 [.agg [vS d.proj,vI s.ver,.asl 36884 l.length,vRw ((R.take i).foldl (buildF s l k) [])]] false)]) (fun i=>R.length - i) 0 (by omega) ?_ fun i hi=>?_
 ·exact .oA [(4096,some 4096),(4104,some 4104),(36884,some 36884),(36892,some 36892)] []
 refine sD ?_
 refine ⟨fun h4=>?_,fun h4=>?_⟩
 ·have hi2:i < R.length:=by omega
  have hwi:=i64_succ (i:=i) (by omega)
  obtain ⟨b1,b2⟩:=buildF_ok s l k (R.take i) [] (by simp)
  have hsu:(R.take (i + 1)).foldl (buildF s l k) [] = putR ((R.take i).foldl (buildF s l k) []) (rowX s l k R[i]):=by rw [take_snoc hi2,List.foldl_append];rfl
  generalize (R.take i).foldl (buildF s l k) [] = C at hsu b1 b2 ⊢
  simp only [List.length_nil,List.length_take] at b2
  have hri:=hoR _ (List.getElem_mem hi2)
  obtain ⟨j,f1,f2,f3⟩:=find_row hok hri
  have hgm:(R.map hd).length = R.length:=List.length_map ..
  have hgh:((R.map hd).map vI).getD i .junk = vI (hd R[i]):=by rw [List.map_map,getD_mapT (f:=vI ∘ hd) hi2];rfl
  have hKey:=c_ref12_Key k (hd R[i])
  have hpos:=rowX_pos s l k R[i]
  have hX:rowX s l k R[i] = keyI k (hd R[i]) :: l.map fun p=>coarseI s.sch p.col p.lev (R[i].getD p.col.toNat 0):=rfl
  have hrl:=(rowE_ok (hok.rows _ hri)).2.1
  have hnr:=hok.nr
  have hPut:=c_ref04_Put C (rowX s l k R[i]) (by omega) b1 hpos
  simp only [tZ,↓un_u,simprocAttr,Int.toNat_natCast,hgh]
  refine ⟨by omega,?_⟩
  refine C1.im (c_ref04_Find s (hd R[i]) (by omega)) (by rfl) (by rfl) ?_
  rw [f1]
  simp only [tZ,↓un_u,simprocAttr,Int.toNat_natCast,getD_mapT f2,f3]
  refine ⟨by omega,by kernel_rfl,?_⟩
  generalize R[i] = r at hX hrl hKey hgh hpos hsu hPut ⊢
  simp only [tZ,↓un_u,simprocAttr,Int.toNat_natCast,hgh]
  refine ⟨by omega,?_⟩
  refine C1.im hKey (by rfl) (by rfl) ?_
  refine sW ?_
  refine W_loopF mixm (α:=Nat) [15,16] (fun n=>n≤l.length) (fun n=>[(15,.asl 61464 (n + 1)),(16,vI n)]) (fun n=>[(4096,.arr 5 [srcT s] false),(4104,.arr 4 [extT ext0] false),(36884,.arr 2 (l.map pkT) false),(36892,.arr 4 [.agg [vS d.proj,vI s.ver,.asl 36884 l.length,vRw C]] false),(61464,.arr 1 ((keyI k (hd r) :: (l.take n).map fun p=>coarseI s.sch p.col p.lev (r.getD p.col.toNat 0)).map vI) false)]) (fun n=>l.length - n) 0 (by omega) ?_ fun n hn=>?_
  ·exact .oA [(4096,some 4096),(4104,some 4104),(36884,some 36884),(36892,some 36892),(61464,some 61464)] []
  have hnl:(l.take n).length = n:=by rw [List.length_take];omega
  refine sD ?_
  refine ⟨fun h5=>?_,fun h5=>?_⟩
  ·have hn2:n < l.length:=by omega
   have hwn:=i64_succ (i:=n) (by omega)
   have hpn:=pickE_ok (hpk _ (List.getElem_mem hn2))
   have hcl:l[n].col.toNat < r.length:=by omega
   have hgc:(r.map vI).getD l[n].col.toNat .junk = vI (r.getD l[n].col.toNat 0):=by rw [getD_mapT hcl,getD_get hcl]
   simp only [tZ,↓un_u,simprocAttr,Int.toNat_natCast,getD_mapT hn2,hgc]
   refine ⟨by omega,by omega,by omega,by omega,?_⟩
   refine C1.im (c_ref02_Coarse s.sch hs.1 l[n].col l[n].lev _) (by rfl) (by rfl) ?_
   simp only [tZ,↓un_u,simprocAttr,hwn]
   refine ⟨⟨hnl,by omega⟩,by kernel_rfl,n + 1,by omega,by omega,?_⟩
   rw [take_snoc hn2,List.map_append]
   exact .oA [(4096,some 4096),(4104,some 4104),(36884,some 36884),(36892,some 36892),(61464,some 61464)] []
  ·have hnl2:n = l.length:=by omega
   subst hnl2
   rw [hX] at hPut
   rw [List.take_length]
   refine C1.shut [61464] hPut ?_ (by rfl) rfl ?_
   ·simp only [tL,simprocAttr]
    exact ⟨rfl,ints_v (_ :: _)⟩
   rw [← hX,← hsu]
   simp only [tZ,↓un_u,simprocAttr,hwi]
   refine ⟨i + 1,by omega,by omega,?_⟩
   exact .oA [(4096,some 4096),(4104,some 4104),(36884,some 36884),(36892,some 36892)] []
 ·have hil:i = R.length:=by omega
  subst hil
  rw [List.take_length]
  exact .oA [] [36884]
theorem c_ref13_Same (a b:Ext) (ha:a.picks.length < 4611686018427387904) (har:a.rows.length < 4611686018427387904) (hr:∀ r∈a.rows,r.length < 4611686018427387904):Spc Tryz.prog F_ref13_Same [extT a,extT b] [] (vB (eqB a.proj b.proj && (a.ver == b.ver) && samePk a.picks b.picks && eqRows a.rows b.rows)) []:=by
 refine spec_of_ir fn_ref13_Same mixm (by simp) fun e _ hst=>W_start ?_
 unfold ir_ref13_Same
 refine sW ?_
 refine C2.im (fun _=>c_ref02_SamePicks a.picks b.picks ha) (fun _=>rfl) (by rfl) ?_
 refine sW ?_
 refine C2.im (fun _=>c_ref01_Rows a.rows b.rows har hr) (fun _=>rfl) (by rfl) ?_
 refine sW ?_
 rw [show (a.proj.toList == b.proj.toList) = eqB a.proj b.proj from rfl]
 exact .oA [] []
end Go.Proofs
set_option linter.unusedSimpArgs false
set_option linter.unusedVariables false
namespace Go.Proofs
open Go Go.TL
set_option maxRecDepth 4000
set_option maxHeartbeats 8000000
open So
def awA:Ext:=⟨⟨#[112]⟩,0,[],[[3],[5]]⟩
def awB:Ext:=⟨⟨#[112]⟩,2,[],[[5],[9]]⟩
def awC:Chg:=⟨2,[3],[[9]]⟩
theorem awA_sm:ExtSm awA:=⟨⟨by decide,by decide⟩,by decide⟩
theorem awB_sm:ExtSm awB:=⟨⟨by decide,by decide⟩,by decide⟩
theorem awC_sm:ChgSm awC:=⟨⟨by decide,by decide⟩,by decide⟩
theorem c_law14_awake:Spc Tryz.prog F_law14_awake [] [] (vB true) []:=by
 have hD:=c_refresh_Diff awA awB awA_sm awB_sm
 rw [show diffC awA awB = awC by kernel_rfl,show diffE awA awB = 0 by kernel_rfl] at hD
 have hA:=c_refresh_Apply awA awC awA_sm awC_sm
 rw [show appX awA awC = awB by kernel_rfl,show appE awA awC = 0 by kernel_rfl] at hA
 have hS:=c_ref13_Same awB awB (by decide) (by decide) (by decide)
 rw [show (eqB awB.proj awB.proj && (awB.ver == awB.ver) && samePk awB.picks awB.picks && eqRows awB.rows awB.rows) = true by kernel_rfl] at hS
 have hI1:=c_ref01_Ints [3] [3] (by decide)
 rw [show eqRow [3] [3] = true by kernel_rfl] at hI1
 have hK:=c_refresh_Keys awC (by decide)
 rw [show setI (keysL awC) = [3,9] by kernel_rfl] at hK
 have hI2:=c_ref01_Ints [3,9] [3,9] (by decide)
 rw [show eqRow [3,9] [3,9] = true by kernel_rfl] at hI2
 have hT:=c_refresh_Stale awC [1,9] (by decide) (by decide)
 rw [show staleC awC [1,9] = true by kernel_rfl] at hT
 have hU:=c_refresh_Stale awC [5] (by decide) (by decide)
 rw [show staleC awC [5] = false by kernel_rfl] at hU
 refine spec_of_ir fn_law14_awake mixm (by simp) fun e _ hst=>W_start ?_
 unfold ir_law14_awake
 refine sW ?_
 refine C1.shutD [8192,8196,8200,12288,12292,12296] hD ?_ (by rfl) rfl ?_
 ·simp [ptw,ltAD,ltD,TL.get,T.cells,imT,imL,awA,awB]
  all_goals (try (repeat' apply And.intro))
  all_goals (try rfl)
 refine sW ?_
 refine C1.shutD [8192,8196,8200] hA ?_ (by rfl) rfl ?_
 ·simp [ptw,ltAD,ltD,TL.get,T.cells,imT,imL,awA,awC]
  all_goals (try (repeat' apply And.intro))
  all_goals (try rfl)
 refine sW ?_
 refine C2.lendD [12288,12292,12296] (fun _=>hS) (fun _=>?_) (by rfl) (by rfl) ?_
 ·simp [ptw,ltAD,ltD,TL.get,T.cells,imT,imL,awB]
  all_goals (try (repeat' apply And.intro))
  all_goals (try rfl)
 refine sW ?_
 refine C2.lendD [24632] (fun _=>hI1) (fun _=>?_) (by rfl) (by rfl) ?_
 ·simp [ptw,ltAD,ltD,TL.get,T.cells,imT,imL]
  all_goals (try (repeat' apply And.intro))
  all_goals (try rfl)
 refine sW ?_
 refine C2.im (fun _=>hK) (fun _=>rfl) (by rfl) ?_
 refine sW ?_
 refine C2.lendD [24656] (fun _=>hI2) (fun _=>?_) (by rfl) (by rfl) ?_
 ·simp [ptw,ltAD,ltD,TL.get,T.cells,imT,imL]
  all_goals (try (repeat' apply And.intro))
  all_goals (try rfl)
 refine sW ?_
 refine C2.lendD [24676] (fun _=>hT) (fun _=>?_) (by rfl) (by rfl) ?_
 ·simp [ptw,ltAD,ltD,TL.get,T.cells,imT,imL]
  all_goals (try (repeat' apply And.intro))
  all_goals (try rfl)
 refine sW ?_
 refine C2.lendD [24696] (fun _=>hU) (fun _=>?_) (by rfl) (by rfl) ?_
 ·simp [ptw,ltAD,ltD,TL.get,T.cells,imT,imL]
  all_goals (try (repeat' apply And.intro))
  all_goals (try rfl)
 refine sW ?_
 exact .oA [] []
end Go.Proofs
set_option linter.unusedSimpArgs false
set_option linter.unusedVariables false
namespace Go.Proofs
open Go Go.TL
theorem c_draw_Codes_Range (l:List UInt8) (at_:Nat) (lo hi:Int) (hl:l.length≤400) (ha:at_≤l.length) (hlo : -1000000≤lo∧lo≤1000000) (hhi:lo≤hi∧hi≤lo + 100000) :
 Spc Tryz.prog F_draw_Codes_Range [.ptr 0 1 0 0,vI lo,vI hi] [(0,oC l at_)] (vI (lo + (nx l at_ (hi - lo + 1)).1)) [(0,oC l (nx l at_ (hi - lo + 1)).2)]:=by
 refine spec_of_ir fn_draw_Codes_Range mixm (by simp) fun e _ hst=>W_start ?_
 unfold ir_draw_Codes_Range
 have hw1:IntKind.i64.wrap (hi - lo) = hi - lo:=IntWalk.i64_in _ (by omega)
 have hw2:IntKind.i64.wrap (hi - lo + 1) = hi - lo + 1:=IntWalk.i64_in _ (by omega)
 simp only [tZ,↓un_u,simprocAttr,hw1,hw2]
 refine C1.draw 0 l at_ _ (c_draw_Codes_Next l at_ (hi - lo + 1) hl ha (by omega)) rfl rfl rfl ?_
 have hr:=nx_range l at_ (hi - lo + 1) (by omega)
 have hw3:IntKind.i64.wrap (lo + (nx l at_ (hi - lo + 1)).1) = lo + (nx l at_ (hi - lo + 1)).1:=IntWalk.i64_in _ (by omega)
 simp only [tZ,↓un_u,simprocAttr,hw3]
 refine .of [(0,some 0)] [] rfl rfl ?_ ?_
 ·simp only [tL,simprocAttr]
  exact ltXs_cons ⟨rfl,rfl,rfl,rfl,trivial⟩ ltXs_nil
 ·simp only [tL,simprocAttr]
end Go.Proofs
set_option linter.unusedSimpArgs false
set_option linter.unusedVariables false
namespace Go.Proofs
open Go Go.TL
set_option maxRecDepth 4000
set_option maxHeartbeats 4000000
def d36:ByteArray:=⟨#[48,49,50,51,52,53,54,55,56,57,97,98,99,100,101,102,103,104,105,106,107,108,109,110,111,112,113,114,115,116,117,118,119,120,121,122]⟩
theorem bytes_ext2 {a b:ByteArray} (h:a.data.toList = b.data.toList):a = b:=by
 cases a;cases b
 exact congrArg ByteArray.mk (Array.ext' h)
def dgS (n:Nat):ByteArray:=⟨#[dgt n]⟩
theorem d36_at (n:Nat) (h:n < 10):d36.extract n (n + 1) = dgS n:=by
 have:((List.range 10).all fun n=>(d36.extract n (n + 1)).data.toList == (dgS n).data.toList) = true:=by decide +kernel
 exact bytes_ext2 (eq_of_beq (List.all_eq_true.1 this n (List.mem_range.2 h)))
theorem app_dg (c:UInt8) (n:Nat):(⟨#[c]⟩:ByteArray) ++ dgS n = ⟨#[c,dgt n]⟩:=by
 apply bytes_ext2
 rw [ByteArray.toList_data_append]
 rfl
theorem c_small (n:Nat) (h:n < 10):Spc Tryz.prog F_internal_strconv_small [vI n] [] (vS (dgS n)) []:=by
 have h1:=i64_succ (i:=n) (by omega)
 have z1:d36.size = 36:=rfl
 refine spec_of_ir fn_internal_strconv_small mixm (by simp) fun e _ hst=>W_start ?_
 unfold ir_internal_strconv_small
 simp only [tZ,↓un_u,simprocAttr,tD,h1,Int.toNat_natCast]
 refine ⟨fun h2=>?_,fun h2=>by omega⟩
 refine ⟨?_,?_⟩
 ·show (0≤(n:Int)∧(n:Int)≤((n + 1:Nat):Int)∧((n + 1:Nat):Int)≤(d36.size:Int))
  omega
 ·show EndOk [] (vS (d36.extract n (n + 1))) [] (vS (dgS n)) []
  rw [d36_at n (by omega)]
  exact .oA [] []
theorem c_Itoa (n:Nat) (h:n < 10):Spc Tryz.prog F_strconv_Itoa [vI n] [] (vS (dgS n)) []:=by
 have h1:Spc Tryz.prog F_internal_strconv_FormatInt [vI n,vI 10] [] (vS (dgS n)) []:=by
  have e1:decide (0≤(n:Int)) = true:=decide_eq_true (by omega)
  have e2:decide ((n:Int) < 100) = true:=decide_eq_true (by omega)
  refine spec_of_ir fn_internal_strconv_FormatInt mixm (by simp) fun e _ hst=>W_start ?_
  unfold ir_internal_strconv_FormatInt
  simp only [tZ,↓un_u,simprocAttr,beq_self_eq_true,e1,e2,Bool.true_and]
  refine C1.im (c_small n h) (by rfl) (by rfl) ?_
  refine sW ?_
  exact .oA [] []
 have h2:Spc Tryz.prog F_internal_strconv_Itoa [vI n] [] (vS (dgS n)) []:=by
  refine spec_of_ir fn_internal_strconv_Itoa mixm (by simp) fun e _ hst=>W_start ?_
  unfold ir_internal_strconv_Itoa
  refine sW ?_
  refine C1.im h1 (by rfl) (by rfl) ?_
  refine sW ?_
  exact .oA [] []
 refine spec_of_ir fn_strconv_Itoa mixm (by simp) fun e _ hst=>W_start ?_
 unfold ir_strconv_Itoa
 refine sW ?_
 refine C1.im h2 (by rfl) (by rfl) ?_
 refine sW ?_
 exact .oA [] []
def oneB (l:List UInt8) (a:Nat) (n:Int):Bool:=(nx l a n).1 == n - 1
theorem c_draw_Codes_One (l:List UInt8) (a:Nat) (n:Int) (hl:l.length≤400) (ha:a≤l.length) (hn:0≤n∧n≤1000000):Spc Tryz.prog F_draw_Codes_One [.ptr 0 1 0 0,vI n] [(0,oC l a)] (vB (oneB l a n)) [(0,oC l (nx l a n).2)]:=by
 have hw:IntKind.i64.wrap (n - 1) = n - 1:=IntWalk.i64_in _ (by omega)
 refine spec_of_ir fn_draw_Codes_One mixm (by simp) fun e _ hst=>W_start ?_
 unfold ir_draw_Codes_One
 refine sW ?_
 refine C1.draw 0 l a _ (c_draw_Codes_Next l a n hl ha hn.2) rfl rfl rfl ?_
 simp only [tZ,↓un_u,simprocAttr,hw]
 rw [show ((nx l a n).1 == n - 1) = oneB l a n from rfl]
 exact .oA [(0,some 0)] []
theorem x_Next (l:List UInt8) (a:Nat) (n:Int) (hl:l.length≤400) (ha:a≤l.length) (hn:1≤n∧n≤1000000) :
 ∃ v b,0≤v∧v < n∧b≤l.length∧Spc Tryz.prog F_draw_Codes_Next [.ptr 0 1 0 0,vI n] [(0,oC l a)] (vI v) [(0,oC l b)]:=
 ⟨_,_,(nx_range l a n hn.1).1,(nx_range l a n hn.1).2,nx_le l a n ha,c_draw_Codes_Next l a n hl ha hn.2⟩
theorem x_Range (l:List UInt8) (a:Nat) (lo hi:Int) (hl:l.length≤400) (ha:a≤l.length) (hlo : -1000000≤lo∧lo≤1000000) (hhi:lo≤hi∧hi≤lo + 100000) :
 ∃ v b,lo≤v∧v≤hi∧b≤l.length∧Spc Tryz.prog F_draw_Codes_Range [.ptr 0 1 0 0,vI lo,vI hi] [(0,oC l a)] (vI v) [(0,oC l b)]:=by
 have r:=nx_range l a (hi - lo + 1) (by omega)
 exact ⟨_,_,by omega,by omega,nx_le l a (hi - lo + 1) ha,c_draw_Codes_Range l a lo hi hl ha hlo hhi⟩
theorem x_One (l:List UInt8) (a:Nat) (n:Int) (hl:l.length≤400) (ha:a≤l.length) (hn:0≤n∧n≤1000000) :
 ∃ o b,b≤l.length∧Spc Tryz.prog F_draw_Codes_One [.ptr 0 1 0 0,vI n] [(0,oC l a)] (vB o) [(0,oC l b)]:=
 ⟨_,_,nx_le l a n ha,c_draw_Codes_One l a n hl ha hn⟩
theorem wTab_at (m:Nat) (h:m < 4):wTab.getD m []∈wTab:=by rw [getD_get (by exact h)];exact List.getElem_mem _
theorem c_draw_Codes_Measure (n:Nat) (l:List UInt8) (a:Nat) (hl:l.length≤400) (ha:a≤l.length) :
 ∃ r:Col×Nat,(DrM n r.1∧r.2≤l.length)∧Spc Tryz.prog F_draw_Codes_Measure [.ptr 0 1 0 0,vS ⟨#[109,dgt n]⟩] [(0,oC l a)] (colT r.1) [(0,oC l r.2)]:=by
 have h1:=c_draw_Codes_Range l a (-4) 2 hl ha (by omega) (by omega)
 have r1:=nx_range l a (2 - -4 + 1) (by omega)
 have b1:=nx_le l a (2 - -4 + 1) ha
 generalize nx l a (2 - -4 + 1) = x1 at h1 r1 b1
 have h2:=c_draw_Codes_Next l x1.2 4 hl b1 (by omega)
 have r2:=nx_range l x1.2 4 (by omega)
 have b2:=nx_le l x1.2 4 b1
 generalize nx l x1.2 4 = x2 at h2 r2 b2
 have h3:=c_draw_Codes_One l x2.2 3 hl b2 (by omega)
 have b3:=nx_le l x2.2 3 b2
 generalize (nx l x2.2 3).2 = a3 at h3 b3
 generalize oneB l x2.2 3 = o at h3
 have h4:=c_draw_Codes_Next l a3 45 hl b3 (by omega)
 have r4:=nx_range l a3 45 (by omega)
 have b4:=nx_le l a3 45 b3
 generalize nx l a3 45 = x4 at h4 r4 b4
 refine ⟨(⟨⟨#[109,dgt n]⟩,3,0,-4 + x1.1,-4 + x1.1 + x4.1,wTab.getD x2.1.toNat [],o⟩,x4.2),⟨⟨rfl,rfl,rfl,by dsimp only;omega,by dsimp only;omega,wTab_at _ (by omega)⟩,b4⟩,?_⟩
 obtain ⟨m,hm⟩:=Int.eq_ofNat_of_zero_le r2.1
 have hw:IntKind.i64.wrap (-4 + x1.1 + x4.1) = -4 + x1.1 + x4.1:=IntWalk.i64_in _ (by omega)
 refine spec_of_ir fn_draw_Codes_Measure mixm (by simp) fun e _ hst=>W_start ?_
 unfold ir_draw_Codes_Measure
 refine sW ?_
 refine C1.draw 0 l a _ h1 rfl rfl rfl ?_
 refine sW ?_
 refine C1.draw 0 l x1.2 _ h2 rfl rfl rfl ?_
 rw [hm] at r2 ⊢
 rw [Int.toNat_natCast]
 have hm4:m = 0∨m = 1∨m = 2∨m = 3:=by omega
 have k0:wTab.getD 0 [] = [1]:=rfl
 have k1:wTab.getD 1 [] = [1,5]:=rfl
 have k2:wTab.getD 2 [] = [1,5,20]:=rfl
 have k3:wTab.getD 3 [] = [1,2,4,12]:=rfl
 rcases hm4 with e | e | e | e
 all_goals (
  subst e
  simp only [tZ,↓un_u,simprocAttr,Int.toNat_natCast,k0,k1,k2,k3]
  repeat (refine ⟨by omega,?_⟩)
  refine C1.draw 0 l x2.2 _ h3 rfl rfl rfl ?_
  refine sW ?_
  refine ⟨by kernel_rfl,?_⟩
  refine C1.draw 0 l a3 _ h4 rfl rfl rfl ?_
  simp only [tZ,↓un_u,simprocAttr,hw]
  refine ⟨by kernel_rfl,?_⟩
  )
 ·exact .oA [(0,some 0)] [8204]
 ·exact .oA [(0,some 0)] [8208]
 ·exact .oA [(0,some 0)] [8212]
 ·exact .oA [(0,some 0)] [8216]
def addN (i:Nat):Nat→List Cod→List Cod
 | 0,cs=>cs
 | k + 1,cs=>addN i k (addL cs i)
theorem addN_fold (i:Nat):∀ (k:Nat) (cs:List Cod),(List.range k).foldl (fun cs _=>addL cs i) cs = addN i k cs:=by
 have key:∀ (m:List Nat) (cs:List Cod),m.foldl (fun cs _=>addL cs i) cs = addN i m.length cs:=by
  intro m
  induction m with
  | nil=>intro cs;rfl
  | cons x m ih=>intro cs;rw [List.foldl_cons,ih];rfl
 intro k cs
 rw [key,List.length_range]
theorem lefL_snoc:∀ (ns:List Nat) (cs:List Cod) (i n:Nat),lefL cs i (ns ++ [n]) = addN (i + ns.length) n (lefL cs i ns)
 | [],cs,i,n=>by rw [List.nil_append,lefL,lefL,addN_fold];rfl
 | x :: r,cs,i,n=>by rw [List.cons_append,lefL,lefL,lefL_snoc r _ (i + 1) n,List.length_cons,show i + 1 + r.length = i + (r.length + 1) by omega]
theorem addN_len (i:Nat):∀ (k:Nat) (cs:List Cod),(addN i k cs).length = cs.length + k
 | 0,cs=>rfl
 | k + 1,cs=>by rw [addN,addN_len i k,addL,List.length_append];simp;omega
theorem lefL_len:∀ (ns:List Nat) (cs:List Cod) (i:Nat),(∀ x∈ns,x = 1∨x = 2)→cs.length + ns.length≤(lefL cs i ns).length∧(lefL cs i ns).length≤cs.length + 2 * ns.length
 | [],cs,i,_=>by rw [lefL];simp
 | x :: r,cs,i,h=>by
   have h1:=lefL_len r ((List.range x).foldl (fun cs _=>addL cs i) cs) (i + 1) fun y hy=>h y (List.mem_cons_of_mem _ hy)
   rw [addN_fold,addN_len] at h1
   rw [lefL,addN_fold,List.length_cons]
   have:=h x (by simp)
   omega
theorem c_draw_Codes_List (nm:ByteArray) (hnm:nm = nmOne∨nm = nmTwo) (l:List UInt8) (a:Nat) (hl:l.length≤400) (ha:a≤l.length) :
 ∃ r:CodL×Nat,(DrL nm r.1∧r.2≤l.length)∧Spc Tryz.prog F_draw_Codes_List [.ptr 0 1 0 0,vS nm] [(0,oC l a)] (cdlT r.1) [(0,oC l r.2)]:=by
 have h1:=c_draw_Codes_Range l a 1 3 hl ha (by omega) (by omega)
 have r1:=nx_range l a (3 - 1 + 1) (by omega)
 have b1:=nx_le l a (3 - 1 + 1) ha
 generalize nx l a (3 - 1 + 1) = x1 at h1 r1 b1
 obtain ⟨K,hK⟩:=Int.eq_ofNat_of_zero_le (show 0≤1 + x1.1 by omega)
 rw [hK] at h1
 have hK3:1≤K∧K≤3:=by omega
 refine spec_of_irX0 fn_draw_Codes_List mixm (fun r:CodL×Nat=>cdlT r.1) (fun r=>[(0,oC l r.2)]) (by simp) ?_
 unfold ir_draw_Codes_List
 refine sW ?_
 refine XE.mp (fun _ _=>C1.draw 0 l a _ h1 rfl rfl rfl) ?_
 refine sW ?_
 have hk0:(kidsL 0).map codT = [.agg [vS ⟨#[116,111,112]⟩,vI (-1)]]:=rfl
 have hkl:∀ i,(kidsL i).length = i + 1:=fun i=>by simp [kidsL]
 have hks:∀ i,kidsL (i + 1) = kidsL i ++ [kidC i]:=fun i=>by rw [kidsL,List.range_succ,List.map_append];rfl
 refine XE.loopF mixm [7] (fun i:Nat=>i≤K) (fun i=>[(7,vI i)]) (fun i=>[(0,oC l x1.2),(4096,.arr 2 [cdlT default] false),(8200,.arr 2 ((kidsL i).map codT) false),(8208,.arr 2 [.agg [vS nm,.asl 8200 (i + 1)]] false)]) (fun i=>K - i) 0 (by omega) (fun e ⟨_,hst⟩=>?_) fun T' i hi ih=>?_
 ·simp only [hk0]
  exact .oA [(0,some 0),(4096,some 4096),(8200,some 8200),(8208,some 8208)] []
 simp only [tZ,↓un_u,simprocAttr,decide_eq_true_eq,decide_eq_false_iff_not]
 refine XE.brN (fun h=>?_) (fun h=>?_)
 ·have hwi:=i64_succ (i:=i) (by omega)
  refine XE.mp (fun _ _=>C1.im (c_Itoa i (by omega)) (by rfl) (by rfl)) ?_
  simp only [tZ,↓un_u,simprocAttr,hwi]
  refine XE.sd (show 1 + 1≤9223372036854775807 by omega) (XE.sd ⟨hkl i,by omega⟩ (XE.sd (hkl i) (XE.sd (by kernel_rfl) ?_)))
  refine XE.next ih (i + 1) (by omega) (by omega) fun e ⟨_,hst⟩=>?_
  rw [app_dg,hks]
  exact .oA [(0,some 0),(4096,some 4096),(8200,some 8200),(8208,some 8208)] []
 ·have hiK:i = K:=by omega
  subst hiK
  have h2:=c_draw_Codes_One l x1.2 2 hl b1 (by omega)
  have b2:=nx_le l x1.2 2 b1
  generalize (nx l x1.2 2).2 = a2 at h2 b2
  generalize oneB l x1.2 2 = o at h2
  refine XE.mp (fun _ _=>C1.draw 0 l x1.2 _ h2 rfl rfl rfl) ?_
  refine sW ?_
  refine XE.brB (fun h3=>?_) (fun h3=>?_)
  ·refine XE.fin (⟨nm,kidsL i⟩,a2) ⟨⟨rfl,(kids_ok hnm hK3).1,by rw [hkl];omega⟩,b2⟩ fun e ⟨_,hst⟩=>?_
   have hkli:=hkl i
   refine ⟨hkl i,?_⟩
   exact .oA [(0,some 0)] [8200]
  ·refine XE.loopF mixm [8] (fun y:List Nat×Nat=>y.1.length≤i∧(∀ x∈y.1,x = 1∨x = 2)∧y.2≤l.length) (fun y=>[(8,vI y.1.length)]) (fun y=>[(0,oC l y.2),(4096,.arr 2 [cdlT default] false),(8200,.arr 2 ((lefL (kidsL i) 0 y.1).map codT) false),(8208,.arr 2 [.agg [vS nm,.asl 8200 (lefL (kidsL i) 0 y.1).length]] false)]) (fun y=>i - y.1.length) ([],a2) ⟨by simp,by simp,b2⟩ (fun e ⟨_,hst⟩=>?_) fun T2 y hy ih2=>?_
   ·have hkli:=hkl i
    simp only [lefL]
    refine .of [(0,some 0),(4096,some 4096),(8200,some 8200),(8208,some 8208)] [] rfl (by first | rfl | (rw [hst];rfl)) ?_ ?_
    all_goals (try simp only [tL,simprocAttr,List.map_append,List.map_cons,List.map_nil,List.cons_append,List.nil_append,hkl])
    all_goals (try (repeat' (first | exact ltXs_nil | (apply ltXs_map;intro _;exact ⟨rfl,rfl⟩) | (apply imXs_map;intro _;exact ⟨rfl,rfl⟩) | with_reducible apply imXs_append | with_reducible refine imXs_cons ⟨rfl,rfl⟩ ?_ | exact imXs_nil | with_reducible apply ltXs_append | with_reducible refine ltXs_cons ⟨rfl,rfl,?_⟩ ?_ | with_reducible apply And.intro | exact ltCs_im rfl | exact ltCs_im (by assumption) | (refine ⟨⟨?_,rfl,?_,rfl,?_⟩,trivial⟩ <;> first | (simp;done) | (apply imXs_map;intro _;exact ⟨rfl,rfl⟩)) | trivial | rfl | (rw [i64_succ (by omega)]) | omega)))
   obtain ⟨ns,a3⟩:=y
   obtain ⟨y1,y2,y3⟩:=hy
   dsimp only at y1 y2 y3
   have hll:=lefL_len ns (kidsL i) 0 y2
   rw [hkl] at hll
   simp only [tZ,↓un_u,simprocAttr,decide_eq_true_eq,decide_eq_false_iff_not]
   refine XE.brN (fun h4=>?_) (fun h4=>?_)
   ·have h5:=c_draw_Codes_Range l a3 1 2 hl y3 (by omega) (by omega)
    have r5:=nx_range l a3 (2 - 1 + 1) (by omega)
    have b5:=nx_le l a3 (2 - 1 + 1) y3
    generalize nx l a3 (2 - 1 + 1) = x5 at h5 r5 b5
    obtain ⟨M,hM⟩:=Int.eq_ofNat_of_zero_le (show 0≤1 + x5.1 by omega)
    rw [hM] at h5
    have hsn:=lefL_snoc ns (kidsL i) 0 M
    rw [Nat.zero_add] at hsn
    refine XE.mp (fun _ _=>C1.draw 0 l a3 _ h5 rfl rfl rfl) ?_
    refine sW ?_
    generalize lefL (kidsL i) 0 ns = cs at hll hsn ⊢
    refine XE.loopF mixm [9] (fun z:Nat×List Cod=>addN ns.length z.1 z.2 = addN ns.length M cs∧z.2.length + z.1 = cs.length + M) (fun z=>[(9,vI z.1)]) (fun z=>[(0,oC l x5.2),(4096,.arr 2 [cdlT default] false),(8200,.arr 2 (z.2.map codT) false),(8208,.arr 2 [.agg [vS nm,.asl 8200 z.2.length]] false)]) (fun z=>z.1) (M,cs) ⟨rfl,rfl⟩ (fun e ⟨_,hst⟩=>?_) fun T3 z hz ih3=>?_
    ·exact .oA [(0,some 0),(4096,some 4096),(8200,some 8200),(8208,some 8208)] []
    obtain ⟨k,ds⟩:=z
    obtain ⟨z1,z2⟩:=hz
    dsimp only at z1 z2
    simp only [tZ,↓un_u,simprocAttr,decide_eq_true_eq,decide_eq_false_iff_not]
    refine XE.brN (fun h6=>?_) (fun h6=>?_)
    ·have hwn:=i64_succ (i:=ns.length) (by omega)
     have hwk:=i64_pred (i:=k) (by omega) (by omega)
     have hw1:IntKind.i64.wrap (1 + (ns.length:Int)) = 1 + (ns.length:Int):=IntWalk.i64_in _ (by omega)
     refine XE.mp (fun _ _=>C1.im (c_Itoa ds.length (by omega)) (by rfl) (by rfl)) ?_
     simp only [tZ,↓un_u,simprocAttr,hwk,hw1]
     refine XE.sd (show 1 + 1≤9223372036854775807 by omega) (XE.sd (by omega) (XE.sd (by kernel_rfl) ?_))
     refine XE.next ih3 (k - 1,addL ds ns.length) ⟨?_,by dsimp only;rw [addL,List.length_append];simp;omega⟩ (by dsimp only;omega) fun e ⟨_,hst⟩=>?_
     ·dsimp only
      rw [← z1]
      obtain ⟨j,rfl⟩:∃ j,k = j + 1:=⟨k - 1,by omega⟩
      rfl
     ·rw [app_dg]
      have e1:addL ds ns.length = ds ++ [⟨⟨#[108,dgt ds.length]⟩,1 + (ns.length:Int)⟩]:=rfl
      rw [e1]
      exact .oA [(0,some 0),(4096,some 4096),(8200,some 8200),(8208,some 8208)] []
    ·have hk0:k = 0:=by omega
     subst hk0
     have hwn:=i64_succ (i:=ns.length) (by omega)
     rw [addN,← hsn] at z1
     simp only [tZ,↓un_u,simprocAttr,hwn]
     refine XE.next ih2 (ns ++ [M],x5.2) ⟨by simp;omega,fun x hx=>?_,b5⟩ (by simp;omega) fun e ⟨_,hst⟩=>?_
     ·rcases List.mem_append.1 hx with hx | hx
      ·exact y2 x hx
      ·rw [List.mem_singleton.1 hx];omega
     ·simp only [z1,List.length_append,List.length_cons,List.length_nil]
      rw [← z1]
      exact .oA [(0,some 0),(4096,some 4096),(8200,some 8200),(8208,some 8208)] []
   ·have hni:ns.length = i:=by omega
    have hok:=(kids_ok hnm hK3).2 ns hni y2
    refine XE.fin (⟨nm,lefL (kidsL i) 0 ns⟩,a3) ⟨⟨rfl,hok,by dsimp only;omega⟩,y3⟩ fun e ⟨_,hst⟩=>?_
    exact .oA [(0,some 0)] [8200]
end Go.Proofs
set_option linter.unusedSimpArgs false
set_option linter.unusedVariables false
namespace Go.Proofs
open Go Go.TL
set_option maxRecDepth 4000
set_option maxHeartbeats 4000000
theorem c_draw_Codes_Schema (l:List UInt8) (a:Nat) (hl:l.length≤400) (ha:a≤l.length) :
 ∃ r:Sch×Nat,(DrS r.1∧r.2≤l.length)∧Spc Tryz.prog F_draw_Codes_Schema [.ptr 0 1 0 0] [(0,oC l a)] (schT r.1) [(0,oC l r.2)]:=by
 obtain ⟨⟨A,a1⟩,⟨dA,ha1⟩,sA⟩:=c_draw_Codes_List nmOne (.inl rfl) l a hl ha
 obtain ⟨⟨B,a2⟩,⟨dB,ha2⟩,sB⟩:=c_draw_Codes_List nmTwo (.inr rfl) l a1 hl ha1
 dsimp only at dA ha1 sA dB ha2 sB
 have h1:=c_draw_Codes_One l a2 2 hl ha2 (by omega)
 have b1:=nx_le l a2 2 ha2
 generalize (nx l a2 2).2 = a3 at h1 b1
 generalize oneB l a2 2 = o at h1
 have h2:=c_draw_Codes_Range l a3 1 3 hl b1 (by omega) (by omega)
 have r2:=nx_range l a3 (3 - 1 + 1) (by omega)
 have b2:=nx_le l a3 (3 - 1 + 1) b1
 generalize nx l a3 (3 - 1 + 1) = x2 at h2 r2 b2
 obtain ⟨N,hN⟩:=Int.eq_ofNat_of_zero_le (show 0≤1 + x2.1 by omega)
 rw [hN] at h2
 refine spec_of_irX0 fn_draw_Codes_Schema mixm (fun r:Sch×Nat=>schT r.1) (fun r=>[(0,oC l r.2)]) (by simp) ?_
 unfold ir_draw_Codes_Schema
 refine sW ?_
 refine XE.mp (fun _ _=>C1.draw 0 l a _ sA rfl rfl rfl) ?_
 refine sW ?_
 refine XE.mp (fun _ _=>C1.draw 0 l a1 _ sB rfl rfl rfl) ?_
 refine sW ?_
 refine XE.mp (fun _ _=>C1.draw 0 l a2 _ h1 rfl rfl rfl) ?_
 refine sW ?_
 refine XE.brB (fun ho=>?_) (fun ho=>?_)
 ·refine XE.mp (fun _ _=>C1.draw 0 l a3 _ h2 rfl rfl rfl) ?_
  refine sW ?_
  refine XE.loopF mixm [4,15] (fun y:List Col×Nat=>y.1.length≤N∧(∀ i (h:i < y.1.length),DrM (3 + i) y.1[i])∧y.2≤l.length) (fun y=>[(4,vI ((N - y.1.length:Nat):Int))]) (fun y=>[(0,oC l y.2),(4096,.arr 2 [schT default] false),(8208,.arr 2 [cdlT A,cdlT B] false),(8220,.arr 7 (([whoC,sexC,jobC] ++ y.1).map colT) false),(8228,.arr 2 [.agg [.asl 8208 2,.asl 8220 (3 + y.1.length)]] false)]) (fun y=>N - y.1.length) ([],x2.2) ⟨by simp,fun i h=>by simp at h,b2⟩ (fun e ⟨_,hst⟩=>?_) fun T' y hy ih=>?_
  ·show Le _ _ ⟨[(4,vI N),(0,_),(2,_),(3,_)],[(0,oC l x2.2),(4096,.arr 2 [schT default] false),(8208,.arr 2 [cdlT A,cdlT B] false),(8220,.arr 7 [colT whoC,colT sexC,colT jobC] false),(8228,.arr 2 [.agg [.asl 8208 2,.asl 8220 3]] false)]⟩
   exact .oA [(0,some 0),(4096,some 4096),(8208,some 8208),(8220,some 8220),(8228,some 8228)] []
  obtain ⟨ms,a4⟩:=y
  obtain ⟨y1,y2,y3⟩:=hy
  dsimp only at y1 y2 y3
  simp only [tZ,↓un_u,simprocAttr,decide_eq_true_eq,decide_eq_false_iff_not]
  refine XE.brN (fun h4=>?_) (fun h4=>?_)
  ·have hlt:ms.length < N:=by omega
   have hI:=c_Itoa (3 + ms.length) (by omega)
   obtain ⟨⟨M,a5⟩,⟨dM,ha5⟩,sM⟩:=c_draw_Codes_Measure (3 + ms.length) l a4 hl y3
   dsimp only at dM ha5 sM
   have hwk:=i64_pred (i:=N - ms.length) (by omega) (by omega)
   refine XE.sd (by omega) ?_
   refine XE.mp (fun _ _=>C1.im hI (by rfl) (by rfl)) ?_
   simp only [tZ,↓un_u,simprocAttr,app_dg]
   refine XE.sd (show 1 + 1≤9223372036854775807 by omega) ?_
   refine XE.mp (fun _ _=>C1.draw 0 l a4 _ sM rfl rfl rfl) ?_
   simp only [tZ,↓un_u,simprocAttr,hwk]
   refine XE.sd (by omega) (XE.sd (by omega) (XE.sd (by kernel_rfl) ?_))
   refine XE.next ih (ms ++ [M],a5) ⟨by simp;omega,fun i h=>?_,ha5⟩ (by simp;omega) fun e ⟨_,hst⟩=>?_
   ·dsimp only at h ⊢
    by_cases hi:i < ms.length
    ·rw [List.getElem_append_left hi]
     exact y2 i hi
    ·have he:i = ms.length:=by rw [List.length_append] at h;simp at h;omega
     subst he
     rw [List.getElem_append_right (Nat.le_refl _)]
     simpa using dM
   ·have e1:N - (ms ++ [M]).length = N - ms.length - 1:=by rw [List.length_append];simp;omega
    simp only [e1]
    exact .oA [(0,some 0),(4096,some 4096),(8208,some 8208),(8220,some 8220),(8228,some 8228)] []
  ·have hnl:ms.length = N:=by omega
   refine XE.fin (⟨[A,B],[whoC,sexC,jobC] ++ ms⟩,a4) ⟨⟨⟨A,B,rfl,dA,dB⟩,⟨ms,.inr ⟨rfl,y2⟩,by omega,by omega⟩⟩,y3⟩ fun e ⟨_,hst⟩=>?_
   refine ⟨by omega,?_⟩
   exact .oA [(0,some 0)] [8208,8220]
 ·refine XE.mp (fun _ _=>C1.draw 0 l a3 _ h2 rfl rfl rfl) ?_
  refine sW ?_
  refine XE.loopF mixm [4,15] (fun y:List Col×Nat=>y.1.length≤N∧(∀ i (h:i < y.1.length),DrM (2 + i) y.1[i])∧y.2≤l.length) (fun y=>[(4,vI ((N - y.1.length:Nat):Int))]) (fun y=>[(0,oC l y.2),(4096,.arr 2 [schT default] false),(8208,.arr 2 [cdlT A,cdlT B] false),(8220,.arr 7 (([whoC,sexC] ++ y.1).map colT) false),(8228,.arr 2 [.agg [.asl 8208 2,.asl 8220 (2 + y.1.length)]] false)]) (fun y=>N - y.1.length) ([],x2.2) ⟨by simp,fun i h=>by simp at h,b2⟩ (fun e ⟨_,hst⟩=>?_) fun T' y hy ih=>?_
  ·show Le _ _ ⟨[(4,vI N),(0,_),(2,_),(3,_)],[(0,oC l x2.2),(4096,.arr 2 [schT default] false),(8208,.arr 2 [cdlT A,cdlT B] false),(8220,.arr 7 [colT whoC,colT sexC] false),(8228,.arr 2 [.agg [.asl 8208 2,.asl 8220 2]] false)]⟩
   exact .oA [(0,some 0),(4096,some 4096),(8208,some 8208),(8220,some 8220),(8228,some 8228)] []
  obtain ⟨ms,a4⟩:=y
  obtain ⟨y1,y2,y3⟩:=hy
  dsimp only at y1 y2 y3
  simp only [tZ,↓un_u,simprocAttr,decide_eq_true_eq,decide_eq_false_iff_not]
  refine XE.brN (fun h4=>?_) (fun h4=>?_)
  ·have hlt:ms.length < N:=by omega
   have hI:=c_Itoa (2 + ms.length) (by omega)
   obtain ⟨⟨M,a5⟩,⟨dM,ha5⟩,sM⟩:=c_draw_Codes_Measure (2 + ms.length) l a4 hl y3
   dsimp only at dM ha5 sM
   have hwk:=i64_pred (i:=N - ms.length) (by omega) (by omega)
   refine XE.sd (by omega) ?_
   refine XE.mp (fun _ _=>C1.im hI (by rfl) (by rfl)) ?_
   simp only [tZ,↓un_u,simprocAttr,app_dg]
   refine XE.sd (show 1 + 1≤9223372036854775807 by omega) ?_
   refine XE.mp (fun _ _=>C1.draw 0 l a4 _ sM rfl rfl rfl) ?_
   simp only [tZ,↓un_u,simprocAttr,hwk]
   refine XE.sd (by omega) (XE.sd (by omega) (XE.sd (by kernel_rfl) ?_))
   refine XE.next ih (ms ++ [M],a5) ⟨by simp;omega,fun i h=>?_,ha5⟩ (by simp;omega) fun e ⟨_,hst⟩=>?_
   ·dsimp only at h ⊢
    by_cases hi:i < ms.length
    ·rw [List.getElem_append_left hi]
     exact y2 i hi
    ·have he:i = ms.length:=by rw [List.length_append] at h;simp at h;omega
     subst he
     rw [List.getElem_append_right (Nat.le_refl _)]
     simpa using dM
   ·have e1:N - (ms ++ [M]).length = N - ms.length - 1:=by rw [List.length_append];simp;omega
    simp only [e1]
    exact .oA [(0,some 0),(4096,some 4096),(8208,some 8208),(8220,some 8220),(8228,some 8228)] []
  ·have hnl:ms.length = N:=by omega
   refine XE.fin (⟨[A,B],[whoC,sexC] ++ ms⟩,a4) ⟨⟨⟨A,B,rfl,dA,dB⟩,⟨ms,.inl ⟨rfl,y2⟩,by omega,by omega⟩⟩,y3⟩ fun e ⟨_,hst⟩=>?_
   refine ⟨by omega,?_⟩
   exact .oA [(0,some 0)] [8208,8220]
end Go.Proofs
