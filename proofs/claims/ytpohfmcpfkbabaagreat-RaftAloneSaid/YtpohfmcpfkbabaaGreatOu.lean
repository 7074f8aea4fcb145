/- A leader that is alone: reads, and what comes out. Conditions: none. -/
import Derived.Test.YtpohfmcpfkbabaaGreatNo
set_option linter.unusedSimpArgs false
set_option linter.unusedVariables false
namespace Go.Ab.R
open Go Go.Proofs
set_option maxRecDepth 100000

/-- the operations of a region -/
def regAt (r : Nat) : Code → Option (Array Oper)
  | .region k ops _ => if k = r then some ops else none
  | .seq a b => match regAt r a with
    | some o => some o
    | none => regAt r b
  | .cond _ a b => match regAt r a with
    | some o => some o
    | none => regAt r b
  | .block _ a => regAt r a
  | .loop a => regAt r a
  | _ => none
def opsAt (fn : Func) (r : Nat) : Array Oper := match fn.body with
  | some c => (regAt r c).getD #[]
  | none => #[]

theorem Os_run {E : Env} (cur : FuncId) (all : Array Oper) (l : List Oper) (i : Nat) (s : Id) (f : Tm) (M : Mem) : Os E cur all l i s f M = run E cur [.ops all l i s] f M := by
  rw [run_ops']
  cases h : Os E cur all l i s f M with
  | none => rfl
  | some x => rfl

theorem chk13_5 {p t3 t4 : Id} {a b x0 x1 x2 x3 x4 x5 x6 x7 x8 x9 x10 x11 : V} (s : Id) (f : Tm) (M : Mem) (h0 : f 0 = .ptr p 0) (h3 : f 3 = .ptr t3 0) (h4 : f 4 = .ptr t4 0) (m4 : M t4 = some (.cells [a, b]))
    (m3 : M t3 = some (.cells [x0, x1, x2, x3, x4, x5, x6, x7, x8, x9, x10, x11])) (e : (t4 = t3) = False) (ha : a.one = true) (hb : b.one = true) : Chk env 13 5 (opsAt Tryz.f13 5) s f M := by
  simp only [opsAt, Tryz.f13, regAt, reduceIte, Option.getD_some]
  intro q hq
  simp only [env, looseOf] at hq
  simp at hq
  rcases hq with rfl | rfl | rfl
  all_goals
    refine ⟨?_, ?_, ?_, ?_, ?a, ?b, ?c⟩
    case a =>
      rw [Os_run]
      simp (maxDischargeDepth := 80) only [push_cast, Nat.reduceBEq, reduceIte, reduceCtorEq, Nat.reduceEqDiff, Nat.reduceAdd, Nat.reduceMul, Nat.reduceSub, Nat.reduceLeDiff, Nat.reduceLT, Nat.reducePow, Int.reduceToNat, Int.reduceLT, Int.reduceLE, Int.reduceEq, Int.reduceAdd, Int.reduceSub, Int.reduceNeg, upTo, h0, h3, h4, m3, m4, e, ha, hb]
      rfl
    case b =>
      rw [Os_run]
      simp (maxDischargeDepth := 80) only [push_cast, Nat.reduceBEq, reduceIte, reduceCtorEq, Nat.reduceEqDiff, Nat.reduceAdd, Nat.reduceMul, Nat.reduceSub, Nat.reduceLeDiff, Nat.reduceLT, Nat.reducePow, Int.reduceToNat, Int.reduceLT, Int.reduceLE, Int.reduceEq, Int.reduceAdd, Int.reduceSub, Int.reduceNeg, upTo, h0, h3, h4, m3, m4, e, ha, hb]
      rfl
    case c =>
      simp only [loadAt, opV]
      simp (maxDischargeDepth := 80) only [push_cast, Nat.reduceBEq, reduceIte, reduceCtorEq, Nat.reduceEqDiff, Nat.reduceAdd, Nat.reduceMul, Nat.reduceSub, Nat.reduceLeDiff, Nat.reduceLT, Nat.reducePow, Int.reduceToNat, Int.reduceLT, Int.reduceLE, Int.reduceEq, Int.reduceAdd, Int.reduceSub, Int.reduceNeg, h0, h3, h4, m3, m4, e, ha, hb]

theorem com1_E {M : Mem} {p ia : Id} {v : V} {g : Lg} {d : Nd} {e : Elc} (s : Id) (hM : FreshM s M) (h : NodeAt M p d e ia v g) : Fn env false 15 [.ptr p 0] s M = some (.int .i64 g.com, M) := by
  have hobj := h.obj
  have r1 := fun s' (q1 : FreshM s' M) => com_E s' M q1 h.lg
  simp only [Nd.cs_eq] at hobj
  rw [Fn_body Tryz.func15 (by decide) rfl rfl]
  simp (maxDischargeDepth := 80) only [push_cast, Nat.reduceBEq, reduceIte, reduceCtorEq, Nat.reduceEqDiff, Nat.reduceAdd, Nat.reduceMul, Nat.reduceSub, Nat.reduceLeDiff, Nat.reduceLT, Nat.reducePow, Int.reduceToNat, Int.reduceLT, Int.reduceLE, Int.reduceEq, Int.reduceAdd, Int.reduceSub, Int.reduceNeg, hobj, Off_dn (Off_of hM hobj), Off_ne (Off_of hM hobj), Off_ne' (Off_of hM hobj), r1, fresh_dn hM, fresh_at hM]
theorem nget_E {M : Mem} {p ia : Id} {v : V} {g : Lg} {d : Nd} {e : Elc} (i n : Int) (s : Id) (hM : FreshM s M) (h : NodeAt M p d e ia v g) : Fn env true 14 [.ptr p 0, .int .i64 i, .int .i64 n] s M = some (copiedV (g.get i n), M) := by
  have hobj := h.obj
  have r1 := fun s' (q1 : FreshM s' M) => get_E i n s' M q1 h.lg
  simp only [Nd.cs_eq] at hobj
  rw [Fn_body Tryz.func14 (by decide) rfl rfl]
  simp (maxDischargeDepth := 80) only [push_cast, Nat.reduceBEq, reduceIte, reduceCtorEq, Nat.reduceEqDiff, Nat.reduceAdd, Nat.reduceMul, Nat.reduceSub, Nat.reduceLeDiff, Nat.reduceLT, Nat.reducePow, Int.reduceToNat, Int.reduceLT, Int.reduceLE, Int.reduceEq, Int.reduceAdd, Int.reduceSub, Int.reduceNeg, hobj, Off_dn (Off_of hM hobj), Off_ne (Off_of hM hobj), Off_ne' (Off_of hM hobj), r1, fz_copied, fresh_dn hM, fresh_at hM]
def ownL (g : Lg) (e : Elc) : Bool := g.has g.com && decide (g.termOf g.com = e.term) && decide (e.role = 3)
theorem own_E {M : Mem} {p ia : Id} {v : V} {g : Lg} {d : Nd} {e : Elc} (s : Id) (hM : FreshM s M) (h : NodeAt M p d e ia v g) : Fn env false 49 [.ptr p 0] s M = some (.bool (ownL g e), M) := by
  have hobj := h.obj
  have hel := h.el
  have r1 := fun s' M' (q1 : FreshM s' M') (q2 : Sub M M') => com_E s' M' q1 (h.lg.mono q2)
  have r2 := fun s' M' (q1 : FreshM s' M') (q2 : Sub M M') => term_E g.com s' M' q1 (h.lg.mono q2)
  have r3 := fun s' M' (q1 : FreshM s' M') (q2 : Sub M M') => role_E s' q1 (q2 _ _ hel)
  have r4 := fun s' M' (q1 : FreshM s' M') (q2 : Sub M M') => hard_E s' q1 (q2 _ _ hel)
  simp only [Nd.cs_eq] at hobj
  rw [Fn_body Tryz.func49 (by decide) rfl rfl]
  cases c1 : g.has g.com with
  | false => simp (maxDischargeDepth := 80) only [push_cast, Nat.reduceBEq, reduceIte, reduceCtorEq, Nat.reduceEqDiff, Nat.reduceAdd, Nat.reduceMul, Nat.reduceSub, Nat.reduceLeDiff, Nat.reduceLT, Nat.reducePow, Int.reduceToNat, Int.reduceLT, Int.reduceLE, Int.reduceEq, Int.reduceAdd, Int.reduceSub, Int.reduceNeg, hobj, Off_dn (Off_of hM hobj), Off_ne (Off_of hM hobj), Off_ne' (Off_of hM hobj), hel, Off_dn (Off_of hM hel), Off_ne (Off_of hM hel), Off_ne' (Off_of hM hel), r1, r2, r3, r4, c1, ownL, fresh_dn hM, fresh_at hM]
  | true =>
  by_cases c2 : g.termOf g.com = e.term
  · simp (maxDischargeDepth := 80) only [push_cast, Nat.reduceBEq, reduceIte, reduceCtorEq, Nat.reduceEqDiff, Nat.reduceAdd, Nat.reduceMul, Nat.reduceSub, Nat.reduceLeDiff, Nat.reduceLT, Nat.reducePow, Int.reduceToNat, Int.reduceLT, Int.reduceLE, Int.reduceEq, Int.reduceAdd, Int.reduceSub, Int.reduceNeg, hobj, Off_dn (Off_of hM hobj), Off_ne (Off_of hM hobj), Off_ne' (Off_of hM hobj), hel, Off_dn (Off_of hM hel), Off_ne (Off_of hM hel), Off_ne' (Off_of hM hel), r1, r2, r3, r4, c1, c2, ownL, fresh_dn hM, fresh_at hM]
  · simp (maxDischargeDepth := 80) only [push_cast, Nat.reduceBEq, reduceIte, reduceCtorEq, Nat.reduceEqDiff, Nat.reduceAdd, Nat.reduceMul, Nat.reduceSub, Nat.reduceLeDiff, Nat.reduceLT, Nat.reducePow, Int.reduceToNat, Int.reduceLT, Int.reduceLE, Int.reduceEq, Int.reduceAdd, Int.reduceSub, Int.reduceNeg, hobj, Off_dn (Off_of hM hobj), Off_ne (Off_of hM hobj), Off_ne' (Off_of hM hobj), hel, Off_dn (Off_of hM hel), Off_ne (Off_of hM hel), Off_ne' (Off_of hM hel), r1, r2, r3, r4, c1, c2, ownL, fresh_dn hM, fresh_at hM]
end Go.Ab.R
