import Derived.Test.YtgdfndldfmjfhaaDoorBase
import Derived.Test.YtgdfndldfmjfhaaDoorQ29
import Derived.Test.YtgdfndldfmjfhaaDoorZzE
set_option linter.unusedSimpArgs false
set_option linter.unusedVariables false
namespace Go.Proofs
open Go Go.TL
set_option maxRecDepth 4000
def dgB (n:Int):ByteArray:=⟨(dgs n).toArray⟩
def d36:ByteArray:=⟨#[48,49,50,51,52,53,54,55,56,57,97,98,99,100,101,102,103,104,105,106,107,108,109,110,111,112,113,114,115,116,117,118,119,120,121,122]⟩
def d200:ByteArray:=⟨#[48,48,48,49,48,50,48,51,48,52,48,53,48,54,48,55,48,56,48,57,49,48,49,49,49,50,49,51,49,52,49,53,49,54,49,55,49,56,49,57,50,48,50,49,50,50,50,51,50,52,50,53,50,54,50,55,50,56,50,57,51,48,51,49,51,50,51,51,51,52,51,53,51,54,51,55,51,56,51,57,52,48,52,49,52,50,52,51,52,52,52,53,52,54,52,55,52,56,52,57,53,48,53,49,53,50,53,51,53,52,53,53,53,54,53,55,53,56,53,57,54,48,54,49,54,50,54,51,54,52,54,53,54,54,54,55,54,56,54,57,55,48,55,49,55,50,55,51,55,52,55,53,55,54,55,55,55,56,55,57,56,48,56,49,56,50,56,51,56,52,56,53,56,54,56,55,56,56,56,57,57,48,57,49,57,50,57,51,57,52,57,53,57,54,57,55,57,56,57,57]⟩
theorem bytes_ext2 {a b:ByteArray} (h:a.data.toList = b.data.toList):a = b:=by
 cases a;cases b
 exact congrArg ByteArray.mk (Array.ext' h)
theorem d36_at (n:Nat) (h:n < 10):d36.extract n (n + 1) = dgB n:=by
 have:((List.range 10).all fun n=>(d36.extract n (n + 1)).data.toList == dgs n) = true:=by kernel_rfl
 exact bytes_ext2 (eq_of_beq (List.all_eq_true.1 this n (List.mem_range.2 h)))
theorem d200_at (n:Nat) (h:10≤n∧n < 100):d200.extract (2 * n) (2 * n + 2) = dgB n:=by
 have:((List.range 100).all fun n=>decide (n < 10) || (d200.extract (2 * n) (2 * n + 2)).data.toList == dgs n) = true:=by kernel_rfl
 have h2:=List.all_eq_true.1 this n (List.mem_range.2 h.2)
 rw [decide_eq_false (by omega),Bool.false_or] at h2
 exact bytes_ext2 (eq_of_beq h2)
theorem c_small (n:Nat) (h:n < 100):Spc Tryd.prog F_internal_strconv_small [vI n] [] (vS (dgB n)) []:=by
 have h1:=i64_succ (i:=n) (by omega)
 have w1:IntKind.i64.wrap ((n:Int) * 2) = ((2 * n:Nat):Int):=by rw [IntWalk.i64_in _ (by omega)];omega
 have w2:IntKind.i64.wrap (((2 * n:Nat):Int) + 2) = ((2 * n + 2:Nat):Int):=by rw [IntWalk.i64_in _ (by omega)];omega
 have z1:d36.size = 36:=rfl
 have z2:d200.size = 200:=rfl
 refine spec_of_ir fn_internal_strconv_small mixm (by simp) fun e _ hst=>W_start ?_
 unfold ir_internal_strconv_small
 simp only [tl,tl2,tl4,↓un_u,isCallR,entX,argFr,ret,retI,retB,intT,unT,endR,ressR,resR,tupT,bslR,boxR,lenAll,↓reduceIte,Nat.reduceEqDiff,Nat.reduceAdd,Nat.reduceMul,Nat.reduceLT,Nat.reduceLeDiff,reduceCtorEq,Int.reduceLE,Int.reduceLT,ne_eq,Int.reduceEq,not_false_eq_true,decide_true,decide_false,Int.reduceToNat,tl3,Int.reduceBNe,Int.reduceBEq,rmK,rm1,not_true_eq_false,decide_eq_true_eq,decide_eq_false_iff_not,Bool.or_eq_true,Bool.or_eq_false_iff,Bool.and_eq_true,Bool.and_eq_false_iff,h1,w1,w2,Int.toNat_natCast]
 refine ⟨fun h2=>?_,fun h2=>?_⟩
 ·refine ⟨?_,?_⟩
  ·show (0≤(n:Int)∧(n:Int)≤((n + 1:Nat):Int)∧((n + 1:Nat):Int)≤(d36.size:Int))
   omega
  ·show EndOk [] (vS (d36.extract n (n + 1))) [] (vS (dgB n)) []
   rw [d36_at n (by omega)]
   refine .of [] [] rfl (by first | rfl | (rw [hst];rfl)) ?_ ?_
   all_goals (try exact clA)
 ·refine ⟨?_,?_⟩
  ·show (0≤((2 * n:Nat):Int)∧((2 * n:Nat):Int)≤((2 * n + 2:Nat):Int)∧((2 * n + 2:Nat):Int)≤(d200.size:Int))
   omega
  ·show EndOk [] (vS (d200.extract (2 * n) (2 * n + 2))) [] (vS (dgB n)) []
   rw [d200_at n (by omega)]
   refine .of [] [] rfl (by first | rfl | (rw [hst];rfl)) ?_ ?_
   all_goals (try exact clA)
theorem dgs_len (n:Int):(dgs n).length≤2:=by unfold dgs;split <;> simp
theorem dgB_list (n:Int):(dgB n).data.toList = dgs n:=rfl
theorem c_AppendUint (bs:List UInt8) (n:Nat) (h:n < 100) (hl:bs.length < 1000000000) :
 Spc Tryd.prog F_internal_strconv_AppendUint [.asl 0 bs.length,vU64 n,vI 10] [(0,.arr 1 (bs.map byteT) false)] (.asl 0 (bs ++ dgs n).length) [(0,.arr 1 ((bs ++ dgs n).map byteT) false)]:=by
 have hs:=c_small n h
 have hc:IntKind.i64.wrap (n:Int) = (n:Int):=IntWalk.i64_in _ (by omega)
 have hdl:=dgs_len n
 refine spec_of_ir fn_internal_strconv_AppendUint mixm (by simp) fun e _ hst=>W_start ?_
 unfold ir_internal_strconv_AppendUint
 simp only [tl,tl2,tl4,↓un_u,isCallR,entX,argFr,ret,retI,retB,intT,unT,endR,ressR,resR,tupT,bslR,boxR,lenAll,↓reduceIte,Nat.reduceEqDiff,Nat.reduceAdd,Nat.reduceMul,Nat.reduceLT,Nat.reduceLeDiff,reduceCtorEq,Int.reduceLE,Int.reduceLT,ne_eq,Int.reduceEq,not_false_eq_true,decide_true,decide_false,Int.reduceToNat,tl3,Int.reduceBNe,Int.reduceBEq,rmK,rm1,not_true_eq_false,decide_eq_true_eq,decide_eq_false_iff_not,Bool.or_eq_true,Bool.or_eq_false_iff,Bool.and_eq_true,Bool.and_eq_false_iff,hc]
 refine ⟨fun _=>?_,fun h2=>by omega⟩
 refine C1.im hs (by rfl) (by rfl) ?_
 simp only [tl,tl2,tl4,↓un_u,isCallR,entX,argFr,ret,retI,retB,intT,unT,endR,ressR,resR,tupT,bslR,boxR,lenAll,↓reduceIte,Nat.reduceEqDiff,Nat.reduceAdd,Nat.reduceMul,Nat.reduceLT,Nat.reduceLeDiff,reduceCtorEq,Int.reduceLE,Int.reduceLT,ne_eq,Int.reduceEq,not_false_eq_true,decide_true,decide_false,Int.reduceToNat,tl3,Int.reduceBNe,Int.reduceBEq,rmK,rm1,not_true_eq_false,dgB_list,List.length_append]
 refine ⟨by omega,?_⟩
 rw [← List.map_append]
 refine .of [(0,some 0)] [] rfl (by first | rfl | (rw [hst];rfl)) ?_ ?_
 all_goals (try exact clA)
theorem c_iAppendInt (bs:List UInt8) (n:Nat) (h:n < 100) (hl:bs.length < 1000000000) :
 Spc Tryd.prog F_internal_strconv_AppendInt [.asl 0 bs.length,vI n,vI 10] [(0,.arr 1 (bs.map byteT) false)] (.asl 0 (bs ++ dgs n).length) [(0,.arr 1 ((bs ++ dgs n).map byteT) false)]:=by
 have hu:=c_AppendUint bs n h hl
 have hw:IntKind.u64.wrap (n:Int) = (n:Int):=IntWalk.u64_in _ (by omega)
 refine spec_of_ir fn_internal_strconv_AppendInt mixm (by simp) fun e _ hst=>W_start ?_
 unfold ir_internal_strconv_AppendInt
 simp only [tl,tl2,tl4,↓un_u,isCallR,entX,argFr,ret,retI,retB,intT,unT,endR,ressR,resR,tupT,bslR,boxR,lenAll,↓reduceIte,Nat.reduceEqDiff,Nat.reduceAdd,Nat.reduceMul,Nat.reduceLT,Nat.reduceLeDiff,reduceCtorEq,Int.reduceLE,Int.reduceLT,ne_eq,Int.reduceEq,not_false_eq_true,decide_true,decide_false,Int.reduceToNat,tl3,Int.reduceBNe,Int.reduceBEq,rmK,rm1,not_true_eq_false,decide_eq_true_eq,decide_eq_false_iff_not,Bool.or_eq_true,Bool.or_eq_false_iff,Bool.and_eq_true,Bool.and_eq_false_iff,hw]
 refine ⟨fun h2=>by omega,fun _=>?_⟩
 refine C1.grow 0 1 hu (by rfl) (by apply imXs_map;intro _;exact ⟨rfl,rfl⟩) (by apply imXs_map;intro _;exact ⟨rfl,rfl⟩) (by apply noA_map;intro _;rfl) ?_ ?_
 ·all_goals (try exact clA)
 refine sW ?_
 refine .of [(0,some 0)] [] rfl (by first | rfl | (rw [hst];rfl)) ?_ ?_
 all_goals (try exact clA)
theorem c_strconv_AppendInt (bs:List UInt8) (n:Nat) (h:n < 100) (hl:bs.length < 1000000000) :
 Spc Tryd.prog F_strconv_AppendInt [.asl 0 bs.length,vI n,vI 10] [(0,.arr 1 (bs.map byteT) false)] (.asl 0 (bs ++ dgs n).length) [(0,.arr 1 ((bs ++ dgs n).map byteT) false)]:=by
 have hu:=c_iAppendInt bs n h hl
 refine spec_of_ir fn_strconv_AppendInt mixm (by simp) fun e _ hst=>W_start ?_
 unfold ir_strconv_AppendInt
 refine sW ?_
 refine C1.grow 0 1 hu (by rfl) (by apply imXs_map;intro _;exact ⟨rfl,rfl⟩) (by apply imXs_map;intro _;exact ⟨rfl,rfl⟩) (by apply noA_map;intro _;rfl) ?_ ?_
 ·all_goals (try exact clA)
 refine sW ?_
 refine .of [(0,some 0)] [] rfl (by first | rfl | (rw [hst];rfl)) ?_ ?_
 all_goals (try exact clA)
def txtB (l:List Int):ByteArray:=⟨(txtL l).toArray⟩
theorem txtL_len (l:List Int):(txtL l).length≤l.length * 3:=by
 unfold txtL
 induction l with
 | nil=>simp
 | cons k l ih=>
   have:=dgs_len k
   simp only [List.flatMap_cons,List.length_append,List.length_cons,List.length_nil] at *
   omega
theorem txtL_snoc {l:List Int} {i:Nat} (h:i < l.length):txtL (l.take (i + 1)) = txtL (l.take i) ++ dgs l[i] ++ [32]:=by
 unfold txtL
 rw [take_snoc h,List.flatMap_append]
 simp
theorem c_equations_text (l:List Int) (hl:l.length < 100000) (hk:∀ k∈l,0≤k∧k < 100):Spc Tryd.prog F_equations_text [vIs l] [] (vS (txtB l)) []:=by
 refine spec_of_ir fn_equations_text mixm (by simp) fun e _ hst=>W_start ?_
 unfold ir_equations_text
 refine sW ?_
 have hlen:∀ i,(txtL (l.take i)).length≤300000:=fun i=>by
  have:=txtL_len (l.take i)
  rw [List.length_take] at this
  omega
 refine W_loopF mixm (α:=Nat) [3,8] (fun i=>i≤l.length) (fun i=>[(3,.asl 1 (txtL (l.take i)).length),(8,vI i)]) (fun i=>[(1,.arr 1 ((txtL (l.take i)).map byteT) false)]) (fun i=>l.length - i) 0 (by omega) ?_ fun i hi=>?_
 ·simp only [List.take_zero,txtL,List.flatMap_nil,List.length_nil,List.map_nil]
  refine .of [(1,none)] [] rfl (by first | rfl | (rw [hst];rfl)) ?_ ?_
  all_goals (try exact clA)
 have hli:=hlen i
 have hli2:=hlen (i + 1)
 simp only [tl,tl2,tl4,↓un_u,isCallR,entX,argFr,ret,retI,retB,intT,unT,endR,ressR,resR,tupT,bslR,boxR,lenAll,↓reduceIte,Nat.reduceEqDiff,Nat.reduceAdd,Nat.reduceMul,Nat.reduceLT,Nat.reduceLeDiff,reduceCtorEq,Int.reduceLE,Int.reduceLT,ne_eq,Int.reduceEq,not_false_eq_true,decide_true,decide_false,Int.reduceToNat,tl3,Int.reduceBNe,Int.reduceBEq,rmK,rm1,not_true_eq_false,decide_eq_true_eq,decide_eq_false_iff_not]
 refine ⟨fun h=>?_,fun h=>?_⟩
 ·have hsn:=txtL_snoc (show i < l.length by omega)
  have hki:=hk _ (List.getElem_mem (show i < l.length by omega))
  have hi2:i < l.length:=by omega
  have hwi:=i64_succ (i:=i) (by omega)
  simp only [tl,tl2,tl4,↓un_u,isCallR,entX,argFr,ret,retI,retB,intT,unT,endR,ressR,resR,tupT,bslR,boxR,lenAll,↓reduceIte,Nat.reduceEqDiff,Nat.reduceAdd,Nat.reduceMul,Nat.reduceLT,Nat.reduceLeDiff,reduceCtorEq,Int.reduceLE,Int.reduceLT,ne_eq,Int.reduceEq,not_false_eq_true,decide_true,decide_false,Int.reduceToNat,tl3,Int.reduceBNe,Int.reduceBEq,rmK,rm1,not_true_eq_false,Int.toNat_natCast,getD_mapT hi2,hwi]
  obtain ⟨k,hkk⟩:=Int.eq_ofNat_of_zero_le hki.1
  rw [hkk] at hki hsn ⊢
  refine ⟨by omega,?_⟩
  refine C1.grow 1 1 (c_strconv_AppendInt (txtL (l.take i)) k (by omega) (by omega)) (by rfl) (by apply imXs_map;intro _;exact ⟨rfl,rfl⟩) (by apply imXs_map;intro _;exact ⟨rfl,rfl⟩) (by apply noA_map;intro _;rfl) ?_ ?_
  ·all_goals (try exact clA)
  have hwi:=i64_succ (i:=i) (by omega)
  have hl3:(txtL (l.take (i + 1))).length = (txtL (l.take i)).length + (dgs k).length + 1:=by
   rw [hsn];simp;omega
  simp only [tl,tl2,tl4,↓un_u,isCallR,entX,argFr,ret,retI,retB,intT,unT,endR,ressR,resR,tupT,bslR,boxR,lenAll,↓reduceIte,Nat.reduceEqDiff,Nat.reduceAdd,Nat.reduceMul,Nat.reduceLT,Nat.reduceLeDiff,reduceCtorEq,Int.reduceLE,Int.reduceLT,ne_eq,Int.reduceEq,not_false_eq_true,decide_true,decide_false,Int.reduceToNat,tl3,Int.reduceBNe,Int.reduceBEq,rmK,rm1,not_true_eq_false,hwi]
  refine ⟨by omega,i + 1,by omega,by omega,?_⟩
  rw [show (List.map byteT (txtL (l.take i) ++ dgs k) ++ [T.v (Value.int IntKind.u8 32)]) = (txtL (l.take (i + 1))).map byteT by rw [hsn,List.map_append (l₂:=[32])];rfl,hl3]
  refine .of [(1,some 1)] [] rfl (by first | rfl | (rw [hst];rfl)) ?_ ?_
  all_goals (try exact clA)
 ·have hi2:i = l.length:=by omega
  subst hi2
  rw [List.take_length]
  refine .of [] [] rfl (by first | rfl | (rw [hst];rfl)) ?_ ?_
  all_goals (try exact clA)
end Go.Proofs
