/- A leader that is alone: Out and Read. Conditions: none. -/
import Derived.Test.YtpohfmcpfkbabaaGreatOu
set_option linter.unusedSimpArgs false
set_option linter.unusedVariables false
namespace Go.Ab.R
open Go Go.Proofs
set_option maxRecDepth 100000

theorem beqI (a b : Int) : (a == b) = decide (a = b) := rfl
theorem lo13 (r : Nat) (h : (r = 5) = False) : looseOf 13 r = [] := by simp [looseOf, h]
theorem out_E {M : Mem} {p ia : Id} {v : V} {g : Lg} {d : Nd} {e : Elc} (s : Id) (hM : FreshM s M) (h : NodeAt M p d e ia v g) (hok : NdOk d) (hsw : d.snew = false) :
    ∃ x : Mem × Bool × Int × Int, Fn env false 13 [.ptr p 0] s M = some (.agg [.bool x.2.1, .int .i64 x.2.2.1, .int .i64 x.2.2.2, .bool false, .int .i64 0, .int .i64 0, .nils, .nils, .nils, .int .i64 d.from_, d.msgs, d.rds], x.1) ∧
      x.1 p = some (.cells (Nd.cs { d with tt := e.term, tv := e.vote, from_ := 0, msgs := .nils, rds := .nils })) ∧ x.2.1 = !(decide (e.term = d.tt) && decide (e.vote = d.tv)) ∧ FrM s [p] M x.1 := by
  have hobj := h.obj
  have hel := h.el
  have e1 := eq_false h.ne1
  have e2 := eq_false (Ne.symm h.ne1)
  have r1 := fun s' M' (q1 : FreshM s' M') (q2 : M' d.ie = M d.ie) => hard_E s' q1 (q2.trans hel)
  have m1 := hok.m1; have m2 := hok.m2; have m3 := hok.e1; have m4 := hok.e2
  have hfin : ∀ i : Id, i ∉ [p] → (i = p) = False := fun i hx => eq_false (fun e => hx (by simp [e]))
  have hchk := chk13_5 (p := p) (t3 := 4 :: 0 :: 1 :: 0 :: s) (t4 := 5 :: 0 :: 0 :: 1 :: 1 :: 1 :: 0 :: s) (a := .int .i64 e.term) (b := .int .i64 e.vote) (x0 := .bool false) (x1 := .int .i64 0) (x2 := .int .i64 0) (x3 := .bool false)
    (x4 := .int .i64 0) (x5 := .int .i64 0) (x6 := .nils) (x7 := .nils) (x8 := .nils) (x9 := .int .i64 d.from_) (x10 := d.msgs) (x11 := d.rds) (ha := rfl) (hb := rfl)
  simp only [opsAt, Tryz.f13, regAt, reduceIte, Option.getD_some, reduceCtorEq, Nat.reduceEqDiff] at hchk
  simp only [Nd.cs_eq, hsw] at hobj
  simp only [Nd.cs_eq, hsw]
  by_cases c1 : e.term = d.tt
  · by_cases c2 : e.vote = d.tv
    · refine ⟨(?_, ?_, ?_, ?_), ?a, ?b, ?c, ?dd⟩
      case a =>
        rw [Fn_body Tryz.func13 (by decide) rfl rfl]
        simp (maxDischargeDepth := 80) only [push_cast, Nat.reduceBEq, reduceIte, reduceCtorEq, Nat.reduceEqDiff, Nat.reduceAdd, Nat.reduceMul, Nat.reduceSub, Nat.reduceLeDiff, Nat.reduceLT, Nat.reducePow, Int.reduceToNat, Int.reduceLT, Int.reduceLE, Int.reduceEq, Int.reduceAdd, Int.reduceSub, Int.reduceNeg, hobj, Off_dn (Off_of hM hobj), Off_ne (Off_of hM hobj), Off_ne' (Off_of hM hobj), hel, Off_dn (Off_of hM hel), Off_ne (Off_of hM hel), Off_ne' (Off_of hM hel), r1, lo13, beqI, e1, e2, m1, m2, m3, m4, c1, c2, fresh_dn hM, fresh_at hM]
        rfl
      case b => simp (maxDischargeDepth := 80) only [push_cast, Nat.reduceBEq, reduceIte, reduceCtorEq, Nat.reduceEqDiff, Nat.reduceAdd, Nat.reduceMul, Nat.reduceSub, Nat.reduceLeDiff, Nat.reduceLT, Nat.reducePow, Int.reduceToNat, Int.reduceLT, Int.reduceLE, Int.reduceEq, Int.reduceAdd, Int.reduceSub, Int.reduceNeg, hobj, Off_dn (Off_of hM hobj), Off_ne (Off_of hM hobj), Off_ne' (Off_of hM hobj), hel, Off_dn (Off_of hM hel), Off_ne (Off_of hM hel), Off_ne' (Off_of hM hel), e1, e2, c1, c2]
      case c => simp (maxDischargeDepth := 80) only [push_cast, Nat.reduceBEq, reduceIte, reduceCtorEq, Nat.reduceEqDiff, Nat.reduceAdd, Nat.reduceMul, Nat.reduceSub, Nat.reduceLeDiff, Nat.reduceLT, Nat.reducePow, Int.reduceToNat, Int.reduceLT, Int.reduceLE, Int.reduceEq, Int.reduceAdd, Int.reduceSub, Int.reduceNeg, c1, c2]
      case dd =>
        intro i hi hx
        simp (maxDischargeDepth := 80) only [push_cast, Nat.reduceBEq, reduceIte, reduceCtorEq, Nat.reduceEqDiff, Nat.reduceAdd, Nat.reduceMul, Nat.reduceSub, Nat.reduceLeDiff, Nat.reduceLT, Nat.reducePow, Int.reduceToNat, Int.reduceLT, Int.reduceLE, Int.reduceEq, Int.reduceAdd, Int.reduceSub, Int.reduceNeg, hfin i hx, Off_ne hi]
    · refine ⟨(?_, ?_, ?_, ?_), ?a, ?b, ?c, ?dd⟩
      case a =>
        rw [Fn_body Tryz.func13 (by decide) rfl rfl]
        simp (maxDischargeDepth := 80) only [push_cast, Nat.reduceBEq, reduceIte, reduceCtorEq, Nat.reduceEqDiff, Nat.reduceAdd, Nat.reduceMul, Nat.reduceSub, Nat.reduceLeDiff, Nat.reduceLT, Nat.reducePow, Int.reduceToNat, Int.reduceLT, Int.reduceLE, Int.reduceEq, Int.reduceAdd, Int.reduceSub, Int.reduceNeg, hobj, Off_dn (Off_of hM hobj), Off_ne (Off_of hM hobj), Off_ne' (Off_of hM hobj), hel, Off_dn (Off_of hM hel), Off_ne (Off_of hM hel), Off_ne' (Off_of hM hel), r1, lo13, beqI, e1, e2, m1, m2, m3, m4, c1, c2, hchk, fresh_dn hM, fresh_at hM]
        rfl
      case b => simp (maxDischargeDepth := 80) only [push_cast, Nat.reduceBEq, reduceIte, reduceCtorEq, Nat.reduceEqDiff, Nat.reduceAdd, Nat.reduceMul, Nat.reduceSub, Nat.reduceLeDiff, Nat.reduceLT, Nat.reducePow, Int.reduceToNat, Int.reduceLT, Int.reduceLE, Int.reduceEq, Int.reduceAdd, Int.reduceSub, Int.reduceNeg, hobj, Off_dn (Off_of hM hobj), Off_ne (Off_of hM hobj), Off_ne' (Off_of hM hobj), hel, Off_dn (Off_of hM hel), Off_ne (Off_of hM hel), Off_ne' (Off_of hM hel), e1, e2, c1, c2]
      case c => simp (maxDischargeDepth := 80) only [push_cast, Nat.reduceBEq, reduceIte, reduceCtorEq, Nat.reduceEqDiff, Nat.reduceAdd, Nat.reduceMul, Nat.reduceSub, Nat.reduceLeDiff, Nat.reduceLT, Nat.reducePow, Int.reduceToNat, Int.reduceLT, Int.reduceLE, Int.reduceEq, Int.reduceAdd, Int.reduceSub, Int.reduceNeg, c1, c2]
      case dd =>
        intro i hi hx
        simp (maxDischargeDepth := 80) only [push_cast, Nat.reduceBEq, reduceIte, reduceCtorEq, Nat.reduceEqDiff, Nat.reduceAdd, Nat.reduceMul, Nat.reduceSub, Nat.reduceLeDiff, Nat.reduceLT, Nat.reducePow, Int.reduceToNat, Int.reduceLT, Int.reduceLE, Int.reduceEq, Int.reduceAdd, Int.reduceSub, Int.reduceNeg, hfin i hx, Off_ne hi]
  · refine ⟨(?_, ?_, ?_, ?_), ?a, ?b, ?c, ?dd⟩
    case a =>
      rw [Fn_body Tryz.func13 (by decide) rfl rfl]
      simp (maxDischargeDepth := 80) only [push_cast, Nat.reduceBEq, reduceIte, reduceCtorEq, Nat.reduceEqDiff, Nat.reduceAdd, Nat.reduceMul, Nat.reduceSub, Nat.reduceLeDiff, Nat.reduceLT, Nat.reducePow, Int.reduceToNat, Int.reduceLT, Int.reduceLE, Int.reduceEq, Int.reduceAdd, Int.reduceSub, Int.reduceNeg, hobj, Off_dn (Off_of hM hobj), Off_ne (Off_of hM hobj), Off_ne' (Off_of hM hobj), hel, Off_dn (Off_of hM hel), Off_ne (Off_of hM hel), Off_ne' (Off_of hM hel), r1, lo13, beqI, e1, e2, m1, m2, m3, m4, c1, hchk, fresh_dn hM, fresh_at hM]
      rfl
    case b => simp (maxDischargeDepth := 80) only [push_cast, Nat.reduceBEq, reduceIte, reduceCtorEq, Nat.reduceEqDiff, Nat.reduceAdd, Nat.reduceMul, Nat.reduceSub, Nat.reduceLeDiff, Nat.reduceLT, Nat.reducePow, Int.reduceToNat, Int.reduceLT, Int.reduceLE, Int.reduceEq, Int.reduceAdd, Int.reduceSub, Int.reduceNeg, hobj, Off_dn (Off_of hM hobj), Off_ne (Off_of hM hobj), Off_ne' (Off_of hM hobj), hel, Off_dn (Off_of hM hel), Off_ne (Off_of hM hel), Off_ne' (Off_of hM hel), e1, e2, c1]
    case c => simp (maxDischargeDepth := 80) only [push_cast, Nat.reduceBEq, reduceIte, reduceCtorEq, Nat.reduceEqDiff, Nat.reduceAdd, Nat.reduceMul, Nat.reduceSub, Nat.reduceLeDiff, Nat.reduceLT, Nat.reducePow, Int.reduceToNat, Int.reduceLT, Int.reduceLE, Int.reduceEq, Int.reduceAdd, Int.reduceSub, Int.reduceNeg, c1]
    case dd =>
      intro i hi hx
      simp (maxDischargeDepth := 80) only [push_cast, Nat.reduceBEq, reduceIte, reduceCtorEq, Nat.reduceEqDiff, Nat.reduceAdd, Nat.reduceMul, Nat.reduceSub, Nat.reduceLeDiff, Nat.reduceLT, Nat.reducePow, Int.reduceToNat, Int.reduceLT, Int.reduceLE, Int.reduceEq, Int.reduceAdd, Int.reduceSub, Int.reduceNeg, hfin i hx, Off_ne hi]
end Go.Ab.R
