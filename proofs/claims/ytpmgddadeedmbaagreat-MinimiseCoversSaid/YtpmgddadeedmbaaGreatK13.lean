/- A part of the proof: ZzF ZzD ZzR. -/
import Derived.WalkKit
import Derived.Still
import Derived.MapKept
import GoSem.Builtin.Cap
import Derived.Laws.Externs
import GoSem.Extern.SlicesOverlaps
import Derived.Carry
import Derived.ProofKit
import Derived.OpenShut
import Derived.HandedShaped
import Derived.Lay
import Derived.LaidLaws
import Derived.MakeChecks
import Derived.SevenTiedAt
import Derived.Test.YtpmgddadeedmbaaGreatK12
namespace Go.TL
set_option linter.unusedSimpArgs false
theorem tZ:type_of% (And.intro @tl (And.intro @tl2 (And.intro @tl4 (And.intro @tl3 (And.intro @zl.eq_1 (And.intro @zl.eq_2 (And.intro @entX.eq_1 (And.intro @entX.eq_2 (And.intro @Ke.eq_1 (And.intro @Ke.eq_2 (And.intro @ret.eq_1 (And.intro @retI.eq_1 (And.intro @retB.eq_1 (And.intro @intT.eq_1 (And.intro @intT.eq_2 (And.intro @intT.eq_3 (And.intro @intT.eq_4 (And.intro @intT.eq_5 (And.intro @intT.eq_6 (And.intro @intT.eq_7 (And.intro @intT.eq_8 (And.intro @intT.eq_9 (And.intro @intT.eq_10 (And.intro @intT.eq_11 (And.intro @intT.eq_12 (And.intro @intT.eq_13 (And.intro @intT.eq_14 (And.intro @intT.eq_15 (And.intro @intT.eq_16 (And.intro @intT.eq_17 (And.intro @unT.eq_1 (And.intro @unT.eq_2 (And.intro @unT.eq_3 (And.intro @unT.eq_4 (And.intro @endR.eq_1 (And.intro @endR.eq_2 (And.intro @Wz.eq_1 (And.intro @Wz.eq_2 (And.intro @resR.eq_1 (And.intro @resR.eq_2 (And.intro @tupT.eq_1 (And.intro @tupT.eq_2 (And.intro @bslR.eq_1 (And.intro @boxR.eq_1 (And.intro @ZN.eq_1 (And.intro @ZN.eq_2 (And.intro @rmK.eq_1 (And.intro @rmK.eq_2 (And.intro @rm1.eq_1 (And.intro @rm1.eq_2 (And.intro @ne_eq.{1} (And.intro @not_false_eq_true (And.intro @decide_true (And.intro @decide_false (@not_true_eq_false))))))))))))))))))))))))))))))))))))))))))))))))))))))):=And.intro @tl (And.intro @tl2 (And.intro @tl4 (And.intro @tl3 (And.intro @zl.eq_1 (And.intro @zl.eq_2 (And.intro @entX.eq_1 (And.intro @entX.eq_2 (And.intro @Ke.eq_1 (And.intro @Ke.eq_2 (And.intro @ret.eq_1 (And.intro @retI.eq_1 (And.intro @retB.eq_1 (And.intro @intT.eq_1 (And.intro @intT.eq_2 (And.intro @intT.eq_3 (And.intro @intT.eq_4 (And.intro @intT.eq_5 (And.intro @intT.eq_6 (And.intro @intT.eq_7 (And.intro @intT.eq_8 (And.intro @intT.eq_9 (And.intro @intT.eq_10 (And.intro @intT.eq_11 (And.intro @intT.eq_12 (And.intro @intT.eq_13 (And.intro @intT.eq_14 (And.intro @intT.eq_15 (And.intro @intT.eq_16 (And.intro @intT.eq_17 (And.intro @unT.eq_1 (And.intro @unT.eq_2 (And.intro @unT.eq_3 (And.intro @unT.eq_4 (And.intro @endR.eq_1 (And.intro @endR.eq_2 (And.intro @Wz.eq_1 (And.intro @Wz.eq_2 (And.intro @resR.eq_1 (And.intro @resR.eq_2 (And.intro @tupT.eq_1 (And.intro @tupT.eq_2 (And.intro @bslR.eq_1 (And.intro @boxR.eq_1 (And.intro @ZN.eq_1 (And.intro @ZN.eq_2 (And.intro @rmK.eq_1 (And.intro @rmK.eq_2 (And.intro @rm1.eq_1 (And.intro @rm1.eq_2 (And.intro @ne_eq.{1} (And.intro @not_false_eq_true (And.intro @decide_true (And.intro @decide_false (@not_true_eq_false))))))))))))))))))))))))))))))))))))))))))))))))))))))
theorem tL:type_of% (And.intro @yc.eq_1 (And.intro @yc.eq_2 (And.intro @yc.eq_3 (And.intro @yc.eq_4 (And.intro @yc.eq_5 (And.intro @ltO2.eq_1 (And.intro @ltO2.eq_2 (And.intro @ltO2.eq_3 (And.intro @ltO1.eq_1 (And.intro @ltO1.eq_2 (And.intro @ltAs.eq_1 (And.intro @ltAs.eq_2 (And.intro @ltAs.eq_3 (And.intro @ltA.eq_1 (And.intro @ltA.eq_2 (And.intro @ltA.eq_3 (And.intro @ltA.eq_4 (And.intro @ltA.eq_5 (And.intro @ltC.eq_1 (And.intro @ltC.eq_2 (And.intro @ltC.eq_3 (And.intro @ltC0.eq_1 (And.intro @ltC0.eq_2 (And.intro @ltC0.eq_3 (And.intro @ltC0.eq_4 (And.intro @ltC0.eq_5 (And.intro @ltC0.eq_6 (And.intro @ltC0.eq_7 (And.intro @ltC0.eq_8 (And.intro @ltC0.eq_9 (And.intro @ltC0.eq_10 (And.intro @ltC0.eq_11 (And.intro @ltC0.eq_12 (And.intro @ltC0.eq_13 (And.intro @ltC0.eq_14 (And.intro @ltC0.eq_15 (And.intro @ltC0.eq_16 (And.intro @ltC0.eq_17 (And.intro @ltC0.eq_18 (And.intro @ltC0.eq_19 (And.intro @ltC0.eq_20 (And.intro @ltC0.eq_21 (And.intro @qj0.eq_1 (And.intro @qj0.eq_2 (And.intro @qj0.eq_3 (And.intro @ltCs.eq_1 (And.intro @ltCs.eq_2 (And.intro @ltCs.eq_3 (And.intro @ltT.eq_1 (And.intro @ltT.eq_2 (And.intro @ltT.eq_3 (And.intro @ltFr.eq_1 (And.intro @ltFr.eq_2 (And.intro @ltS.eq_1 (And.intro @ltS.eq_2 (And.intro @wrOk.eq_1 (And.intro @wrOk.eq_2 (And.intro @wrOk.eq_3 (And.intro @wrOk.eq_4 (And.intro @wrO.eq_1 (And.intro @wrO.eq_2 (And.intro @wrO.eq_3 (And.intro @Go.TL.get.eq_1 (And.intro @Go.TL.get.eq_2 (And.intro @za2.eq_1 (And.intro @za2.eq_2 (And.intro @rmK.eq_1 (And.intro @rmK.eq_2 (And.intro @rm1.eq_1 (And.intro @rm1.eq_2 (And.intro @Option.getD_some.{0} (And.intro @Option.isSome_some.{0} (And.intro @List.length_map.{0,0} (And.intro @List.length_append.{0} (And.intro @List.length_cons.{0} (And.intro @List.length_nil.{0} (And.intro @List.append_nil.{0} (And.intro @List.mem_singleton.{0} (And.intro @List.mem_cons.{0} (And.intro @List.not_mem_nil.{0} (And.intro @and_true (And.intro @true_and (And.intro @and_self (And.intro @imp_self (And.intro @forall_const.{0} (And.intro @false_implies (And.intro @implies_true.{0} (And.intro @true_implies (And.intro @or_false (And.intro @Bool.false_eq_true (And.intro @Bool.true_eq_false (And.intro @qw1 (And.intro @true_or (And.intro @or_true (And.intro @false_or (And.intro @false_and (@and_false))))))))))))))))))))))))))))))))))))))))))))))))))))))))))))))))))))))))))))))))))))))))))))))))):=And.intro @yc.eq_1 (And.intro @yc.eq_2 (And.intro @yc.eq_3 (And.intro @yc.eq_4 (And.intro @yc.eq_5 (And.intro @ltO2.eq_1 (And.intro @ltO2.eq_2 (And.intro @ltO2.eq_3 (And.intro @ltO1.eq_1 (And.intro @ltO1.eq_2 (And.intro @ltAs.eq_1 (And.intro @ltAs.eq_2 (And.intro @ltAs.eq_3 (And.intro @ltA.eq_1 (And.intro @ltA.eq_2 (And.intro @ltA.eq_3 (And.intro @ltA.eq_4 (And.intro @ltA.eq_5 (And.intro @ltC.eq_1 (And.intro @ltC.eq_2 (And.intro @ltC.eq_3 (And.intro @ltC0.eq_1 (And.intro @ltC0.eq_2 (And.intro @ltC0.eq_3 (And.intro @ltC0.eq_4 (And.intro @ltC0.eq_5 (And.intro @ltC0.eq_6 (And.intro @ltC0.eq_7 (And.intro @ltC0.eq_8 (And.intro @ltC0.eq_9 (And.intro @ltC0.eq_10 (And.intro @ltC0.eq_11 (And.intro @ltC0.eq_12 (And.intro @ltC0.eq_13 (And.intro @ltC0.eq_14 (And.intro @ltC0.eq_15 (And.intro @ltC0.eq_16 (And.intro @ltC0.eq_17 (And.intro @ltC0.eq_18 (And.intro @ltC0.eq_19 (And.intro @ltC0.eq_20 (And.intro @ltC0.eq_21 (And.intro @qj0.eq_1 (And.intro @qj0.eq_2 (And.intro @qj0.eq_3 (And.intro @ltCs.eq_1 (And.intro @ltCs.eq_2 (And.intro @ltCs.eq_3 (And.intro @ltT.eq_1 (And.intro @ltT.eq_2 (And.intro @ltT.eq_3 (And.intro @ltFr.eq_1 (And.intro @ltFr.eq_2 (And.intro @ltS.eq_1 (And.intro @ltS.eq_2 (And.intro @wrOk.eq_1 (And.intro @wrOk.eq_2 (And.intro @wrOk.eq_3 (And.intro @wrOk.eq_4 (And.intro @wrO.eq_1 (And.intro @wrO.eq_2 (And.intro @wrO.eq_3 (And.intro @Go.TL.get.eq_1 (And.intro @Go.TL.get.eq_2 (And.intro @za2.eq_1 (And.intro @za2.eq_2 (And.intro @rmK.eq_1 (And.intro @rmK.eq_2 (And.intro @rm1.eq_1 (And.intro @rm1.eq_2 (And.intro @Option.getD_some.{0} (And.intro @Option.isSome_some.{0} (And.intro @List.length_map.{0,0} (And.intro @List.length_append.{0} (And.intro @List.length_cons.{0} (And.intro @List.length_nil.{0} (And.intro @List.append_nil.{0} (And.intro @List.mem_singleton.{0} (And.intro @List.mem_cons.{0} (And.intro @List.not_mem_nil.{0} (And.intro @and_true (And.intro @true_and (And.intro @and_self (And.intro @imp_self (And.intro @forall_const.{0} (And.intro @false_implies (And.intro @implies_true.{0} (And.intro @true_implies (And.intro @or_false (And.intro @Bool.false_eq_true (And.intro @Bool.true_eq_false (And.intro @qw1 (And.intro @true_or (And.intro @or_true (And.intro @false_or (And.intro @false_and (@and_false))))))))))))))))))))))))))))))))))))))))))))))))))))))))))))))))))))))))))))))))))))))))))))))))
theorem tD:type_of% (And.intro @decide_eq_true_eq (And.intro @decide_eq_false_iff_not (And.intro @Bool.or_eq_true (And.intro @Bool.or_eq_false_iff (And.intro @Bool.and_eq_true (@Bool.and_eq_false_iff)))))):=And.intro @decide_eq_true_eq (And.intro @decide_eq_false_iff_not (And.intro @Bool.or_eq_true (And.intro @Bool.or_eq_false_iff (And.intro @Bool.and_eq_true (@Bool.and_eq_false_iff)))))
theorem Le.oA {e:Env} {st st':Sto} {fr fr':List (Nat×T)} (ρ:Ren) (B:List Nat) (hr:yF st' ρ = true:=by rfl) (hh:qE9 st' ρ e.st0 = true:=by first | rfl | (rw [hst];rfl)) (hs:yc st ρ B st':=by exact clA) (hf:ltFr st ρ B fr fr':=by exact clA):Le e ⟨fr,st⟩ ⟨fr',st'⟩:=.of ρ B hr hh hs hf
theorem ZT.oA {st st' st0:Sto} {x r:T} (ρ:Ren) (B:List Nat) (hr:yF st' ρ = true:=by rfl) (hh:qE9 st' ρ st0 = true:=by first | rfl | (rw [hst];rfl)) (hs:yc st ρ B st':=by exact clA) (hf:ltT st ρ B x r:=by exact clA):ZT st0 x st r st':=.of ρ B hr hh hs hf
end Go.TL
namespace Go.TL
open Go.RowKit Go.ChangeShapes
set_option linter.unusedVariables false
section
variable {H:Type} {enc:TypeId×Value→H}
end
end Go.TL
namespace Go.TL
open Go.RowKit Go.ChangeShapes
inductive Sr where
 | int (k:IntKind)
 | bool
 | str
 | sl (k b:Nat) (el:Sr)
 | st (fs:Sr)
 | fnil
 | fcons (n:Nat) (s:Sr) (r:Sr)
 | tie
def zz3 (s:Sr) (cs:List T):T:=match s with
 | .st _=>.agg cs
 | .tie=>.agg cs
 | _=>cs.headD .junk
def zp8 (E:List T→Prop):Sr→List T→Prop
 | .int k,ts=>∃ n,ts = [.v (.int k n)]∧(Lit.int k n).wf = true
 | .bool,ts=>∃ b,ts = [.v (.bool b)]
 | .str,ts=>∃ s:ByteArray,ts = [.v (.string s)]∧s.size≤140737488351232
 | .sl k b s,ts=>∃ xs:List (List T),ts = [.sl k (xs.map (zz3 s))]∧xs.length * b≤140737488351232∧xs.length≤9223372036854775807∧∀ x∈xs,x.length = k∧zp8 E s x
 | .st fs,ts=>zp8 E fs ts
 | .fnil,ts=>ts = []
 | .fcons n s r,ts=>∃ a b,ts = a ++ b∧a.length = n∧zp8 E s a∧zp8 E r b
 | .tie,ts=>E ts
def zL6 (P:Program) (sh:TypeId→Option Sr):Nat→List Field→Option Sr
 | off,[]=>some .fnil
 | off,f :: r=>if f.offset = off then match sh f.type,zL6 P sh (off + P.cellsOf f.type) r with
   | some s,some l=>some (.fcons (P.cellsOf f.type) s l)
   | _,_=>none
   else none
def zp9:Sr→Nat
 | .fcons n _ r=>n + zp9 r
 | _=>0
def shR (P:Program) (tR:TypeId):Nat→TypeId→Option Sr
 | 0,_=>none
 | n + 1,t=>if t = tR then some .tie else match P.underlying t with
   | some .bool=>some .bool
   | some (.int k)=>some (.int k)
   | some .string=>some .str
   | some (.slice e)=>(shR P tR n e).map fun s=>.sl (P.cellsOf e) (P.bytesOf e) s
   | some (.struct fs)=>match zL6 P (shR P tR n) 0 fs.toList with
     | some s=>if P.cellsOf t = zp9 s then some (.st s) else none
     | none=>none
   | _=>none
section
variable {H:Type} {enc:TypeId×Value→H} {P:Program} {w:World} {spare:Nat→Bool} {held:Bool} {tR:TypeId} {E:List T→Prop}
structure RecOk (P:Program) (tR:TypeId) (E:List T→Prop):Prop where
 flat:∀ ts,E ts→zR2 ts
 body:∃ fs m s,P.underlying tR = some (.struct fs)∧zL6 P (shR P tR m) 0 fs.toList = some s∧P.cellsOf tR = zp9 s∧∀ ts,zp8 E s ts→E ts
end
section
variable {H:Type} {enc:TypeId×Value→H} {P:Program} {tR:TypeId} {E:List T→Prop}
end
end Go.TL
