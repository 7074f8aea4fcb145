/- The log's small functions. Conditions: none. -/
import Derived.Test.YtpohfmcpfkbabaaGreatTy
set_option linter.unusedSimpArgs false
set_option linter.unusedVariables false
namespace Go.Ab.R
open Go Go.Proofs
set_option maxRecDepth 100000

def withinL (n : Int) : Bool := decide (0 ≤ n) && decide (n ≤ 1099511627776)
theorem within_E (n : Int) (s : Id) (M : Mem) : Fn env false 83 [.int .i64 n] s M = some (.bool (withinL n), M) := by
  rw [Fn_body Tryz.func83 (by decide) rfl rfl]
  by_cases h : 0 ≤ n
  · simp (maxDischargeDepth := 80) only [push_cast, Nat.reduceBEq, reduceIte, reduceCtorEq, Nat.reduceEqDiff, Nat.reduceAdd, Nat.reduceMul, Nat.reduceSub, Nat.reduceLeDiff, Nat.reduceLT, Nat.reducePow, Int.reduceToNat, Int.reduceLT, Int.reduceLE, Int.reduceEq, Int.reduceAdd, Int.reduceSub, Int.reduceNeg, h, withinL]
  · simp (maxDischargeDepth := 80) only [push_cast, Nat.reduceBEq, reduceIte, reduceCtorEq, Nat.reduceEqDiff, Nat.reduceAdd, Nat.reduceMul, Nat.reduceSub, Nat.reduceLeDiff, Nat.reduceLT, Nat.reducePow, Int.reduceToNat, Int.reduceLT, Int.reduceLE, Int.reduceEq, Int.reduceAdd, Int.reduceSub, Int.reduceNeg, h, withinL]

def dlen : Option (List UInt8) → Nat
  | none => 0
  | some l => l.length
theorem len_data (d : Option (List UInt8)) (M : Mem) : lenV Tryz.prog 33 M (dataV d) = some (.int .i64 (dlen d)) := by
  cases d <;> simp only [dataV, ln_nils, ln_psl, kd33, dlen] <;> rfl

def oddL (e : Ent) : Bool := decide (e.index < 1) || !withinL e.index || !withinL e.term || decide (e.kind < 0) || decide (7 < e.kind) || decide (4096 < (dlen e.data : Int))
theorem odd_E (e : Ent) (s : Id) (M : Mem) (hM : FreshM s M) : Fn env false 84 [.agg e.cells] s M = some (.bool (oddL e), M) := by
  rw [Fn_body Tryz.func84 (by decide) rfl rfl]
  by_cases c1 : e.index < 1
  · simp (maxDischargeDepth := 80) only [push_cast, Nat.reduceBEq, reduceIte, reduceCtorEq, Nat.reduceEqDiff, Nat.reduceAdd, Nat.reduceMul, Nat.reduceSub, Nat.reduceLeDiff, Nat.reduceLT, Nat.reducePow, Int.reduceToNat, Int.reduceLT, Int.reduceLE, Int.reduceEq, Int.reduceAdd, Int.reduceSub, Int.reduceNeg, Ent.cells_eq, one_data, c1, within_E, fresh_dn hM, fresh_at hM, oddL, Bool.true_or]
  cases c2 : withinL e.index with
  | false => simp (maxDischargeDepth := 80) only [push_cast, Nat.reduceBEq, reduceIte, reduceCtorEq, Nat.reduceEqDiff, Nat.reduceAdd, Nat.reduceMul, Nat.reduceSub, Nat.reduceLeDiff, Nat.reduceLT, Nat.reducePow, Int.reduceToNat, Int.reduceLT, Int.reduceLE, Int.reduceEq, Int.reduceAdd, Int.reduceSub, Int.reduceNeg, Ent.cells_eq, one_data, c1, c2, within_E, fresh_dn hM, fresh_at hM, oddL]
  | true =>
  cases c3 : withinL e.term with
  | false => simp (maxDischargeDepth := 80) only [push_cast, Nat.reduceBEq, reduceIte, reduceCtorEq, Nat.reduceEqDiff, Nat.reduceAdd, Nat.reduceMul, Nat.reduceSub, Nat.reduceLeDiff, Nat.reduceLT, Nat.reducePow, Int.reduceToNat, Int.reduceLT, Int.reduceLE, Int.reduceEq, Int.reduceAdd, Int.reduceSub, Int.reduceNeg, Ent.cells_eq, one_data, c1, c2, c3, within_E, fresh_dn hM, fresh_at hM, oddL]
  | true =>
  by_cases c4 : e.kind < 0
  · simp (maxDischargeDepth := 80) only [push_cast, Nat.reduceBEq, reduceIte, reduceCtorEq, Nat.reduceEqDiff, Nat.reduceAdd, Nat.reduceMul, Nat.reduceSub, Nat.reduceLeDiff, Nat.reduceLT, Nat.reducePow, Int.reduceToNat, Int.reduceLT, Int.reduceLE, Int.reduceEq, Int.reduceAdd, Int.reduceSub, Int.reduceNeg, Ent.cells_eq, one_data, c1, c2, c3, c4, within_E, fresh_dn hM, fresh_at hM, oddL]
  by_cases c5 : 7 < e.kind
  · simp (maxDischargeDepth := 80) only [push_cast, Nat.reduceBEq, reduceIte, reduceCtorEq, Nat.reduceEqDiff, Nat.reduceAdd, Nat.reduceMul, Nat.reduceSub, Nat.reduceLeDiff, Nat.reduceLT, Nat.reducePow, Int.reduceToNat, Int.reduceLT, Int.reduceLE, Int.reduceEq, Int.reduceAdd, Int.reduceSub, Int.reduceNeg, Ent.cells_eq, one_data, c1, c2, c3, c4, c5, within_E, fresh_dn hM, fresh_at hM, oddL]
  · simp (maxDischargeDepth := 80) only [push_cast, Nat.reduceBEq, reduceIte, reduceCtorEq, Nat.reduceEqDiff, Nat.reduceAdd, Nat.reduceMul, Nat.reduceSub, Nat.reduceLeDiff, Nat.reduceLT, Nat.reducePow, Int.reduceToNat, Int.reduceLT, Int.reduceLE, Int.reduceEq, Int.reduceAdd, Int.reduceSub, Int.reduceNeg, Ent.cells_eq, one_data, c1, c2, c3, c4, c5, within_E, len_data, fresh_dn hM, fresh_at hM, oddL]
end Go.Ab.R
