/- Groups: may one be, who wins. Conditions: none. -/
import Derived.Test.YtpohfmcpfkbabaaGreatQu
set_option linter.unusedSimpArgs false
set_option linter.unusedVariables false
namespace Go.Ab.R
open Go Go.Proofs
set_option maxRecDepth 100000

theorem among_E (v : V) (s : Id) (M : Mem) (hM : FreshM s M) (h1 : v.one = true) (h2 : v.cells = [v]) :
    Fn env false 112 [v] s M = some (.fn (.func 165) [] [.ptr (0 :: 0 :: 0 :: s) 0], M.set (0 :: 0 :: 0 :: s) (.cells [v])) := by
  rw [Fn_body Tryz.func112 (by decide) rfl rfl]
  simp (maxDischargeDepth := 80) only [push_cast, Nat.reduceBEq, reduceIte, reduceCtorEq, Nat.reduceEqDiff, Nat.reduceAdd, Nat.reduceMul, Nat.reduceSub, Nat.reduceLeDiff, Nat.reduceLT, Nat.reducePow, Int.reduceToNat, Int.reduceLT, Int.reduceLE, Int.reduceEq, Int.reduceAdd, Int.reduceSub, Int.reduceNeg, h1, h2, fresh_dn hM, fresh_at hM]

def rightL (l l2 : List Int) : Bool := risesL l 0 && risesL l2 0 && decide (0 < (l.length : Int)) && decide ((countL l l2 : Int) = 0)

theorem right_E (v w : V) (l l2 : List Int) (s : Id) (M : Mem) (hM : FreshM s M) (hv : RdI M v l) (hw : RdI M w l2) :
    Fn env false 81 [.agg [v, w]] s M = some (.bool (rightL l l2), M) := by
  rw [Fn_body Tryz.func81 (by decide) rfl rfl]
  have r1 := fun s' M' (q1 : FreshM s' M') (q2 : Sub M M') => rises_E v l s' M' q1 (hv.mono q2)
  have r2 := fun s' M' (q1 : FreshM s' M') (q2 : Sub M M') => rises_E w l2 s' M' q1 (hw.mono q2)
  have r3 := fun s' M' (q1 : FreshM s' M') => among_E w s' M' q1 hw.one hw.cells
  have r4 := fun i s' M' (q1 : FreshM s' M') (q2 : Sub M M') (q3 : M' i = some (.cells [w])) => count_E v w l l2 i s' M' q1 (hv.mono q2) q3 (hw.mono q2)
  cases c1 : risesL l 0 with
  | false => simp (maxDischargeDepth := 80) only [push_cast, Nat.reduceBEq, reduceIte, reduceCtorEq, Nat.reduceEqDiff, Nat.reduceAdd, Nat.reduceMul, Nat.reduceSub, Nat.reduceLeDiff, Nat.reduceLT, Nat.reducePow, Int.reduceToNat, Int.reduceLT, Int.reduceLE, Int.reduceEq, Int.reduceAdd, Int.reduceSub, Int.reduceNeg, hv.one, hv.cells, hw.one, hw.cells, r1, c1, rightL, fresh_dn hM, fresh_at hM]
  | true =>
  cases c2 : risesL l2 0 with
  | false => simp (maxDischargeDepth := 80) only [push_cast, Nat.reduceBEq, reduceIte, reduceCtorEq, Nat.reduceEqDiff, Nat.reduceAdd, Nat.reduceMul, Nat.reduceSub, Nat.reduceLeDiff, Nat.reduceLT, Nat.reducePow, Int.reduceToNat, Int.reduceLT, Int.reduceLE, Int.reduceEq, Int.reduceAdd, Int.reduceSub, Int.reduceNeg, hv.one, hv.cells, hw.one, hw.cells, r1, r2, c1, c2, rightL, fresh_dn hM, fresh_at hM]
  | true =>
  by_cases c3 : 0 < (l.length : Int)
  · simp (maxDischargeDepth := 80) only [push_cast, Nat.reduceBEq, reduceIte, reduceCtorEq, Nat.reduceEqDiff, Nat.reduceAdd, Nat.reduceMul, Nat.reduceSub, Nat.reduceLeDiff, Nat.reduceLT, Nat.reducePow, Int.reduceToNat, Int.reduceLT, Int.reduceLE, Int.reduceEq, Int.reduceAdd, Int.reduceSub, Int.reduceNeg, hv.one, hv.cells, hw.one, hw.cells, hv.len, r1, r2, r3, r4, c1, c2, c3, rightL, fresh_dn hM, fresh_at hM]
  · simp (maxDischargeDepth := 80) only [push_cast, Nat.reduceBEq, reduceIte, reduceCtorEq, Nat.reduceEqDiff, Nat.reduceAdd, Nat.reduceMul, Nat.reduceSub, Nat.reduceLeDiff, Nat.reduceLT, Nat.reducePow, Int.reduceToNat, Int.reduceLT, Int.reduceLE, Int.reduceEq, Int.reduceAdd, Int.reduceSub, Int.reduceNeg, hv.one, hv.cells, hw.one, hw.cells, hv.len, r1, r2, c1, c2, c3, rightL, fresh_dn hM, fresh_at hM]

def needL (l l2 : List Int) : Int := if rightL l l2 then IntKind.wrap .i64 (IntKind.wrap .i64 ((l.length : Int).tdiv 2) + 1) else 0

theorem need_E (v w : V) (l l2 : List Int) (s : Id) (M : Mem) (hM : FreshM s M) (hv : RdI M v l) (hw : RdI M w l2) :
    Fn env false 113 [.agg [v, w]] s M = some (.int .i64 (needL l l2), M) := by
  rw [Fn_body Tryz.func113 (by decide) rfl rfl]
  have r1 := fun s' M' (q1 : FreshM s' M') (q2 : Sub M M') => right_E v w l l2 s' M' q1 (hv.mono q2) (hw.mono q2)
  cases c1 : rightL l l2 <;> simp (maxDischargeDepth := 80) only [push_cast, Nat.reduceBEq, reduceIte, reduceCtorEq, Nat.reduceEqDiff, Nat.reduceAdd, Nat.reduceMul, Nat.reduceSub, Nat.reduceLeDiff, Nat.reduceLT, Nat.reducePow, Int.reduceToNat, Int.reduceLT, Int.reduceLE, Int.reduceEq, Int.reduceAdd, Int.reduceSub, Int.reduceNeg, hv.one, hv.cells, hw.one, hw.cells, hv.len, r1, c1, needL, fresh_dn hM, fresh_at hM]

/-- l: voters, l2: learners, x: who said so -/
def winsL (l l2 x : List Int) : Bool := rightL l l2 && decide (needL l l2 ≤ (countL l x : Int))

theorem wins_E (v w u : V) (l l2 x : List Int) (s : Id) (M : Mem) (hM : FreshM s M) (hv : RdI M v l) (hw : RdI M w l2) (hu : RdI M u x) :
    Fn env false 51 [.agg [v, w], u] s M = some (.bool (winsL l l2 x), M) := by
  rw [Fn_body Tryz.func51 (by decide) rfl rfl]
  have r1 := fun s' M' (q1 : FreshM s' M') (q2 : Sub M M') => right_E v w l l2 s' M' q1 (hv.mono q2) (hw.mono q2)
  have r2 := fun s' M' (q1 : FreshM s' M') (q2 : Sub M M') => need_E v w l l2 s' M' q1 (hv.mono q2) (hw.mono q2)
  have r3 := fun s' M' (q1 : FreshM s' M') => among_E u s' M' q1 hu.one hu.cells
  have r4 := fun i s' M' (q1 : FreshM s' M') (q2 : Sub M M') (q3 : M' i = some (.cells [u])) => count_E v u l x i s' M' q1 (hv.mono q2) q3 (hu.mono q2)
  cases c1 : rightL l l2 with
  | false => simp (maxDischargeDepth := 80) only [push_cast, Nat.reduceBEq, reduceIte, reduceCtorEq, Nat.reduceEqDiff, Nat.reduceAdd, Nat.reduceMul, Nat.reduceSub, Nat.reduceLeDiff, Nat.reduceLT, Nat.reducePow, Int.reduceToNat, Int.reduceLT, Int.reduceLE, Int.reduceEq, Int.reduceAdd, Int.reduceSub, Int.reduceNeg, hv.one, hv.cells, hw.one, hw.cells, r1, c1, winsL, fresh_dn hM, fresh_at hM]
  | true => simp (maxDischargeDepth := 80) only [push_cast, Nat.reduceBEq, reduceIte, reduceCtorEq, Nat.reduceEqDiff, Nat.reduceAdd, Nat.reduceMul, Nat.reduceSub, Nat.reduceLeDiff, Nat.reduceLT, Nat.reducePow, Int.reduceToNat, Int.reduceLT, Int.reduceLE, Int.reduceEq, Int.reduceAdd, Int.reduceSub, Int.reduceNeg, hv.one, hv.cells, hw.one, hw.cells, r1, r2, r3, r4, c1, winsL, fresh_dn hM, fresh_at hM]

def withinR (n a b : Int) : Bool := decide (a ≤ n) && decide (n ≤ b)
theorem within80_E (n b : Int) (s : Id) (M : Mem) : Fn env false 80 [.int .i64 n, .int .i64 b] s M = some (.bool (withinR n 0 b), M) := by
  rw [Fn_body Tryz.func80 (by decide) rfl rfl]
  by_cases c : 0 ≤ n <;> simp (maxDischargeDepth := 80) only [push_cast, Nat.reduceBEq, reduceIte, reduceCtorEq, Nat.reduceEqDiff, Nat.reduceAdd, Nat.reduceMul, Nat.reduceSub, Nat.reduceLeDiff, Nat.reduceLT, Nat.reducePow, Int.reduceToNat, Int.reduceLT, Int.reduceLE, Int.reduceEq, Int.reduceAdd, Int.reduceSub, Int.reduceNeg, c, withinR]
theorem within82_E (n a b : Int) (s : Id) (M : Mem) : Fn env false 82 [.int .i64 n, .int .i64 a, .int .i64 b] s M = some (.bool (withinR n a b), M) := by
  rw [Fn_body Tryz.func82 (by decide) rfl rfl]
  by_cases c : a ≤ n <;> simp (maxDischargeDepth := 80) only [push_cast, Nat.reduceBEq, reduceIte, reduceCtorEq, Nat.reduceEqDiff, Nat.reduceAdd, Nat.reduceMul, Nat.reduceSub, Nat.reduceLeDiff, Nat.reduceLT, Nat.reducePow, Int.reduceToNat, Int.reduceLT, Int.reduceLE, Int.reduceEq, Int.reduceAdd, Int.reduceSub, Int.reduceNeg, c, withinR]
end Go.Ab.R
