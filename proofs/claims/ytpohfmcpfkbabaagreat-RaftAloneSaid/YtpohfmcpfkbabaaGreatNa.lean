/- A leader that is alone: the middle, and what is committed. Conditions: none. -/
import Derived.Test.YtpohfmcpfkbabaaGreatNr
set_option linter.unusedSimpArgs false
set_option linter.unusedVariables false
namespace Go.Ab.R
open Go Go.Proofs
set_option maxRecDepth 100000
theorem sortI_one (n : Int) : sortI [n] = [n] := by simp [sortI]
theorem right1 : rightL [1] [] = true := by decide
theorem wins1 : winsL [1] [] [1] = true := by decide
theorem need1 : needL [1] [] = 1 := by decide

def at16 (n : Int) : List V := [.int .i64 0, .int .i64 n, .int .i64 0, .int .i64 0, .int .i64 0, .int .i64 0, .int .i64 0, .int .i64 0, .int .i64 0, .int .i64 0, .int .i64 0, .int .i64 0, .int .i64 0, .int .i64 0, .int .i64 0, .int .i64 0]

theorem middle1_E (n : Int) (s : Id) (M : Mem) (hM : FreshM s M) : Fn env false 160 [.agg [.psl [.int .i64 1] 1 false, .nils], .agg (at16 n)] s M = some (.int .i64 n, M) := by
  have hI1 : intsV (some [1]) = .psl [.int .i64 1] 1 false := rfl
  have hI2 : intsV none = .nils := rfl
  have r1 := fun s' M' (q1 : FreshM s' M') => right_E (intsV (some [1])) (intsV none) [1] [] s' M' q1 (RdI_ints M' (some [1]) (by simp [intsL])) (RdI_ints M' none (by simp [intsL]))
  have r2 := fun s' M' (q1 : FreshM s' M') => need_E (intsV (some [1])) (intsV none) [1] [] s' M' q1 (RdI_ints M' (some [1]) (by simp [intsL])) (RdI_ints M' none (by simp [intsL]))
  simp only [hI1, hI2] at r1 r2
  rw [Fn_body Tryz.func160 (by decide) rfl rfl]
  simp (maxDischargeDepth := 80) only [push_cast, Nat.reduceBEq, reduceIte, reduceCtorEq, Nat.reduceEqDiff, Nat.reduceAdd, Nat.reduceMul, Nat.reduceSub, Nat.reduceLeDiff, Nat.reduceLT, Nat.reducePow, Int.reduceToNat, Int.reduceLT, Int.reduceLE, Int.reduceEq, Int.reduceAdd, Int.reduceSub, Int.reduceNeg, r1, r2, right1, need1, run_lp, at16, F118, sortP, intsOf, intOf, sortI_one, mostLen, fresh_dn hM, fresh_at hM]

theorem members0_E {M : Mem} {p : Id} {d : Nd} (s : Id) (hM : FreshM s M) (h : M p = some (.cells d.cs)) (hpe : d.peers = .nilm ∨ ∃ im, d.peers = .mapr im ∧ M im = some (.map [])) :
    Fn env false 41 [.ptr p 0] s M = some (.nils, M) := by
  rw [Nd.cs_eq] at h
  rw [F41]
  rcases hpe with hd | ⟨im, hd, him⟩
  · rw [hd] at h
    simp only [membersP, h, List.getElem?_cons_succ, List.getElem?_cons_zero, entriesV]
  · rw [hd] at h
    simp only [membersP, h, him, List.getElem?_cons_succ, List.getElem?_cons_zero, entriesV]

theorem all0_E {M : Mem} {p : Id} {d : Nd} (s : Id) (hM : FreshM s M) (h : M p = some (.cells d.cs)) (hpe : d.peers = .nilm ∨ ∃ im, d.peers = .mapr im ∧ M im = some (.map [])) :
    Fn env false 94 [.ptr p 0] s M = some (.tup [], M) := by
  have r1 := fun s' (q1 : FreshM s' M) => members0_E s' q1 h hpe
  rw [Fn_body Tryz.func94 (by decide) rfl rfl]
  simp (maxDischargeDepth := 80) only [push_cast, Nat.reduceBEq, reduceIte, reduceCtorEq, Nat.reduceEqDiff, Nat.reduceAdd, Nat.reduceMul, Nat.reduceSub, Nat.reduceLeDiff, Nat.reduceLT, Nat.reducePow, Int.reduceToNat, Int.reduceLT, Int.reduceLE, Int.reduceEq, Int.reduceAdd, Int.reduceSub, Int.reduceNeg, r1, run_lp, fresh_dn hM, fresh_at hM]
theorem beats0_E {M : Mem} {p : Id} {d : Nd} (s : Id) (hM : FreshM s M) (h : M p = some (.cells d.cs)) (hpe : d.peers = .nilm ∨ ∃ im, d.peers = .mapr im ∧ M im = some (.map [])) :
    Fn env false 52 [.ptr p 0] s M = some (.tup [], M) := by
  have r1 := fun s' (q1 : FreshM s' M) => members0_E s' q1 h hpe
  rw [Fn_body Tryz.func52 (by decide) rfl rfl]
  simp (maxDischargeDepth := 80) only [push_cast, Nat.reduceBEq, reduceIte, reduceCtorEq, Nat.reduceEqDiff, Nat.reduceAdd, Nat.reduceMul, Nat.reduceSub, Nat.reduceLeDiff, Nat.reduceLT, Nat.reducePow, Int.reduceToNat, Int.reduceLT, Int.reduceLE, Int.reduceEq, Int.reduceAdd, Int.reduceSub, Int.reduceNeg, r1, run_lp, fresh_dn hM, fresh_at hM]
end Go.Ab.R
