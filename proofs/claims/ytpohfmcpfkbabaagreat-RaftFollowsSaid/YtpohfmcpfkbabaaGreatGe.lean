/- A leader that is alone: reads, and what comes out. Conditions: none. -/
import Derived.Test.YtpohfmcpfkbabaaGreatGd
set_option linter.unusedSimpArgs false
set_option linter.unusedVariables false
namespace Go.Ab.R
open Go Go.Proofs
set_option maxRecDepth 100000

/-- the operations of a region -/
def regAt (r : Nat) : Code → Option (Array Oper)
  | .region k ops _ => if k = r then some ops else none
  | .seq a b => match regAt r a with
    | some o => some o
    | none => regAt r b
  | .cond _ a b => match regAt r a with
    | some o => some o
    | none => regAt r b
  | .block _ a => regAt r a
  | .loop a => regAt r a
  | _ => none
def opsAt (fn : Func) (r : Nat) : Array Oper := match fn.body with
  | some c => (regAt r c).getD #[]
  | none => #[]

theorem Os_run {E : Env} (cur : FuncId) (all : Array Oper) (l : List Oper) (i : Nat) (s : Id) (f : Tm) (M : Mem) : Os E cur all l i s f M = run E cur [.ops all l i s] f M := by
  rw [run_ops']
  cases h : Os E cur all l i s f M with
  | none => rfl
  | some x => rfl

theorem chk13_5 {p t3 t4 : Id} {a b x0 x1 x2 x3 x4 x5 x6 x7 x8 x9 x10 x11 : V} (s : Id) (f : Tm) (M : Mem) (h0 : f 0 = .ptr p 0) (h3 : f 3 = .ptr t3 0) (h4 : f 4 = .ptr t4 0) (m4 : M t4 = some (.cells [a, b]))
    (m3 : M t3 = some (.cells [x0, x1, x2, x3, x4, x5, x6, x7, x8, x9, x10, x11])) (e : (t4 = t3) = False) (ha : a.one = true) (hb : b.one = true) : Chk env 13 5 (opsAt Tryz.f13 5) s f M := by
  simp only [opsAt, Tryz.f13, regAt, reduceIte, Option.getD_some]
  intro q hq
  simp only [env, looseOf] at hq
  simp at hq
  rcases hq with rfl | rfl | rfl
  all_goals
    refine ⟨?_, ?_, ?_, ?_, ?a, ?b, ?c⟩
    case a =>
      rw [Os_run]
      simp (maxDischargeDepth := 80) only [push_cast, Nat.reduceBEq, reduceIte, reduceCtorEq, Nat.reduceEqDiff, Nat.reduceAdd, Nat.reduceMul, Nat.reduceSub, Nat.reduceLeDiff, Nat.reduceLT, Nat.reducePow, Int.reduceToNat, Int.reduceLT, Int.reduceLE, Int.reduceEq, Int.reduceAdd, Int.reduceSub, Int.reduceNeg, upTo, h0, h3, h4, m3, m4, e, ha, hb]
      rfl
    case b =>
      rw [Os_run]
      simp (maxDischargeDepth := 80) only [push_cast, Nat.reduceBEq, reduceIte, reduceCtorEq, Nat.reduceEqDiff, Nat.reduceAdd, Nat.reduceMul, Nat.reduceSub, Nat.reduceLeDiff, Nat.reduceLT, Nat.reducePow, Int.reduceToNat, Int.reduceLT, Int.reduceLE, Int.reduceEq, Int.reduceAdd, Int.reduceSub, Int.reduceNeg, upTo, h0, h3, h4, m3, m4, e, ha, hb]
      rfl
    case c =>
      simp only [loadAt, opV]
      simp (maxDischargeDepth := 80) only [push_cast, Nat.reduceBEq, reduceIte, reduceCtorEq, Nat.reduceEqDiff, Nat.reduceAdd, Nat.reduceMul, Nat.reduceSub, Nat.reduceLeDiff, Nat.reduceLT, Nat.reducePow, Int.reduceToNat, Int.reduceLT, Int.reduceLE, Int.reduceEq, Int.reduceAdd, Int.reduceSub, Int.reduceNeg, h0, h3, h4, m3, m4, e, ha, hb]

theorem com1_E {M : Mem} {p ia : Id} {v : V} {g : Lg} {d : Nd} {e : Elc} (s : Id) (hM : FreshM s M) (h : NodeAt M p d e ia v g) : Fn env false 15 [.ptr p 0] s M = some (.int .i64 g.com, M) := by
  have hobj := h.obj
  have r1 := fun s' (q1 : FreshM s' M) => com_E s' M q1 h.lg
  simp only [Nd.cs_eq] at hobj
  rw [Fn_body Tryz.func15 (by decide) rfl rfl]
  simp (maxDischargeDepth := 80) only [push_cast, Nat.reduceBEq, reduceIte, reduceCtorEq, Nat.reduceEqDiff, Nat.reduceAdd, Nat.reduceMul, Nat.reduceSub, Nat.reduceLeDiff, Nat.reduceLT, Nat.reducePow, Int.reduceToNat, Int.reduceLT, Int.reduceLE, Int.reduceEq, Int.reduceAdd, Int.reduceSub, Int.reduceNeg, hobj, Off_dn (Off_of hM hobj), Off_ne (Off_of hM hobj), Off_ne' (Off_of hM hobj), r1, fresh_dn hM, fresh_at hM]
theorem nget_E {M : Mem} {p ia : Id} {v : V} {g : Lg} {d : Nd} {e : Elc} (i n : Int) (s : Id) (hM : FreshM s M) (h : NodeAt M p d e ia v g) : Fn env true 14 [.ptr p 0, .int .i64 i, .int .i64 n] s M = some (copiedV (g.get i n), M) := by
  have hobj := h.obj
  have r1 := fun s' (q1 : FreshM s' M) => get_E i n s' M q1 h.lg
  simp only [Nd.cs_eq] at hobj
  rw [Fn_body Tryz.func14 (by decide) rfl rfl]
  simp (maxDischargeDepth := 80) only [push_cast, Nat.reduceBEq, reduceIte, reduceCtorEq, Nat.reduceEqDiff, Nat.reduceAdd, Nat.reduceMul, Nat.reduceSub, Nat.reduceLeDiff, Nat.reduceLT, Nat.reducePow, Int.reduceToNat, Int.reduceLT, Int.reduceLE, Int.reduceEq, Int.reduceAdd, Int.reduceSub, Int.reduceNeg, hobj, Off_dn (Off_of hM hobj), Off_ne (Off_of hM hobj), Off_ne' (Off_of hM hobj), r1, fz_copied, fresh_dn hM, fresh_at hM]
def ownL (g : Lg) (e : Elc) : Bool := g.has g.com && decide (g.termOf g.com = e.term) && decide (e.role = 3)
theorem own_E {M : Mem} {p ia : Id} {v : V} {g : Lg} {d : Nd} {e : Elc} (s : Id) (hM : FreshM s M) (h : NodeAt M p d e ia v g) : Fn env false 49 [.ptr p 0] s M = some (.bool (ownL g e), M) := by
  have hobj := h.obj
  have hel := h.el
  have r1 := fun s' M' (q1 : FreshM s' M') (q2 : Sub M M') => com_E s' M' q1 (h.lg.mono q2)
  have r2 := fun s' M' (q1 : FreshM s' M') (q2 : Sub M M') => term_E g.com s' M' q1 (h.lg.mono q2)
  have r3 := fun s' M' (q1 : FreshM s' M') (q2 : Sub M M') => role_E s' q1 (q2 _ _ hel)
  have r4 := fun s' M' (q1 : FreshM s' M') (q2 : Sub M M') => hard_E s' q1 (q2 _ _ hel)
  simp only [Nd.cs_eq] at hobj
  rw [Fn_body Tryz.func49 (by decide) rfl rfl]
  cases c1 : g.has g.com with
  | false => simp (maxDischargeDepth := 80) only [push_cast, Nat.reduceBEq, reduceIte, reduceCtorEq, Nat.reduceEqDiff, Nat.reduceAdd, Nat.reduceMul, Nat.reduceSub, Nat.reduceLeDiff, Nat.reduceLT, Nat.reducePow, Int.reduceToNat, Int.reduceLT, Int.reduceLE, Int.reduceEq, Int.reduceAdd, Int.reduceSub, Int.reduceNeg, hobj, Off_dn (Off_of hM hobj), Off_ne (Off_of hM hobj), Off_ne' (Off_of hM hobj), hel, Off_dn (Off_of hM hel), Off_ne (Off_of hM hel), Off_ne' (Off_of hM hel), r1, r2, r3, r4, c1, ownL, fresh_dn hM, fresh_at hM]
  | true =>
  by_cases c2 : g.termOf g.com = e.term
  · simp (maxDischargeDepth := 80) only [push_cast, Nat.reduceBEq, reduceIte, reduceCtorEq, Nat.reduceEqDiff, Nat.reduceAdd, Nat.reduceMul, Nat.reduceSub, Nat.reduceLeDiff, Nat.reduceLT, Nat.reducePow, Int.reduceToNat, Int.reduceLT, Int.reduceLE, Int.reduceEq, Int.reduceAdd, Int.reduceSub, Int.reduceNeg, hobj, Off_dn (Off_of hM hobj), Off_ne (Off_of hM hobj), Off_ne' (Off_of hM hobj), hel, Off_dn (Off_of hM hel), Off_ne (Off_of hM hel), Off_ne' (Off_of hM hel), r1, r2, r3, r4, c1, c2, ownL, fresh_dn hM, fresh_at hM]
  · simp (maxDischargeDepth := 80) only [push_cast, Nat.reduceBEq, reduceIte, reduceCtorEq, Nat.reduceEqDiff, Nat.reduceAdd, Nat.reduceMul, Nat.reduceSub, Nat.reduceLeDiff, Nat.reduceLT, Nat.reducePow, Int.reduceToNat, Int.reduceLT, Int.reduceLE, Int.reduceEq, Int.reduceAdd, Int.reduceSub, Int.reduceNeg, hobj, Off_dn (Off_of hM hobj), Off_ne (Off_of hM hobj), Off_ne' (Off_of hM hobj), hel, Off_dn (Off_of hM hel), Off_ne (Off_of hM hel), Off_ne' (Off_of hM hel), r1, r2, r3, r4, c1, c2, ownL, fresh_dn hM, fresh_at hM]
end Go.Ab.R

/- A leader that is alone: Out and Read. Conditions: none. -/
namespace Go.Ab.R
open Go Go.Proofs
set_option maxRecDepth 100000

theorem beqI (a b : Int) : (a == b) = decide (a = b) := rfl
theorem lo13 (r : Nat) (h : (r = 5) = False) : looseOf 13 r = [] := by simp [looseOf, h]
theorem out_E {M : Mem} {p ia : Id} {v : V} {g : Lg} {d : Nd} {e : Elc} (s : Id) (hM : FreshM s M) (h : NodeAt M p d e ia v g) (hok : NdOk d) (hsw : d.snew = false) :
    ∃ x : Mem × Bool × Int × Int, Fn env false 13 [.ptr p 0] s M = some (.agg [.bool x.2.1, .int .i64 x.2.2.1, .int .i64 x.2.2.2, .bool false, .int .i64 0, .int .i64 0, .nils, .nils, .nils, .int .i64 d.from_, d.msgs, d.rds], x.1) ∧
      x.1 p = some (.cells (Nd.cs { d with tt := e.term, tv := e.vote, from_ := 0, msgs := .nils, rds := .nils })) ∧ x.2.1 = !(decide (e.term = d.tt) && decide (e.vote = d.tv)) ∧ FrM s [p] M x.1 := by
  have hobj := h.obj
  have hel := h.el
  have e1 := eq_false h.ne1
  have e2 := eq_false (Ne.symm h.ne1)
  have r1 := fun s' M' (q1 : FreshM s' M') (q2 : M' d.ie = M d.ie) => hard_E s' q1 (q2.trans hel)
  have m1 := hok.m1; have m2 := hok.m2; have m3 := hok.e1; have m4 := hok.e2
  have hfin : ∀ i : Id, i ∉ [p] → (i = p) = False := fun i hx => eq_false (fun e => hx (by simp [e]))
  have hchk := chk13_5 (p := p) (t3 := 4 :: 0 :: 1 :: 0 :: s) (t4 := 5 :: 0 :: 0 :: 1 :: 1 :: 1 :: 0 :: s) (a := .int .i64 e.term) (b := .int .i64 e.vote) (x0 := .bool false) (x1 := .int .i64 0) (x2 := .int .i64 0) (x3 := .bool false)
    (x4 := .int .i64 0) (x5 := .int .i64 0) (x6 := .nils) (x7 := .nils) (x8 := .nils) (x9 := .int .i64 d.from_) (x10 := d.msgs) (x11 := d.rds) (ha := rfl) (hb := rfl)
  simp only [opsAt, Tryz.f13, regAt, reduceIte, Option.getD_some, reduceCtorEq, Nat.reduceEqDiff] at hchk
  simp only [Nd.cs_eq, hsw] at hobj
  simp only [Nd.cs_eq, hsw]
  by_cases c1 : e.term = d.tt
  · by_cases c2 : e.vote = d.tv
    · refine ⟨(?_, ?_, ?_, ?_), ?a, ?b, ?c, ?dd⟩
      case a =>
        rw [Fn_body Tryz.func13 (by decide) rfl rfl]
        simp (maxDischargeDepth := 80) only [push_cast, Nat.reduceBEq, reduceIte, reduceCtorEq, Nat.reduceEqDiff, Nat.reduceAdd, Nat.reduceMul, Nat.reduceSub, Nat.reduceLeDiff, Nat.reduceLT, Nat.reducePow, Int.reduceToNat, Int.reduceLT, Int.reduceLE, Int.reduceEq, Int.reduceAdd, Int.reduceSub, Int.reduceNeg, hobj, Off_dn (Off_of hM hobj), Off_ne (Off_of hM hobj), Off_ne' (Off_of hM hobj), hel, Off_dn (Off_of hM hel), Off_ne (Off_of hM hel), Off_ne' (Off_of hM hel), r1, lo13, beqI, e1, e2, m1, m2, m3, m4, c1, c2, fresh_dn hM, fresh_at hM]
        rfl
      case b => simp (maxDischargeDepth := 80) only [push_cast, Nat.reduceBEq, reduceIte, reduceCtorEq, Nat.reduceEqDiff, Nat.reduceAdd, Nat.reduceMul, Nat.reduceSub, Nat.reduceLeDiff, Nat.reduceLT, Nat.reducePow, Int.reduceToNat, Int.reduceLT, Int.reduceLE, Int.reduceEq, Int.reduceAdd, Int.reduceSub, Int.reduceNeg, hobj, Off_dn (Off_of hM hobj), Off_ne (Off_of hM hobj), Off_ne' (Off_of hM hobj), hel, Off_dn (Off_of hM hel), Off_ne (Off_of hM hel), Off_ne' (Off_of hM hel), e1, e2, c1, c2]
      case c => simp (maxDischargeDepth := 80) only [push_cast, Nat.reduceBEq, reduceIte, reduceCtorEq, Nat.reduceEqDiff, Nat.reduceAdd, Nat.reduceMul, Nat.reduceSub, Nat.reduceLeDiff, Nat.reduceLT, Nat.reducePow, Int.reduceToNat, Int.reduceLT, Int.reduceLE, Int.reduceEq, Int.reduceAdd, Int.reduceSub, Int.reduceNeg, c1, c2]
      case dd =>
        intro i hi hx
        simp (maxDischargeDepth := 80) only [push_cast, Nat.reduceBEq, reduceIte, reduceCtorEq, Nat.reduceEqDiff, Nat.reduceAdd, Nat.reduceMul, Nat.reduceSub, Nat.reduceLeDiff, Nat.reduceLT, Nat.reducePow, Int.reduceToNat, Int.reduceLT, Int.reduceLE, Int.reduceEq, Int.reduceAdd, Int.reduceSub, Int.reduceNeg, hfin i hx, Off_ne hi]
    · refine ⟨(?_, ?_, ?_, ?_), ?a, ?b, ?c, ?dd⟩
      case a =>
        rw [Fn_body Tryz.func13 (by decide) rfl rfl]
        simp (maxDischargeDepth := 80) only [push_cast, Nat.reduceBEq, reduceIte, reduceCtorEq, Nat.reduceEqDiff, Nat.reduceAdd, Nat.reduceMul, Nat.reduceSub, Nat.reduceLeDiff, Nat.reduceLT, Nat.reducePow, Int.reduceToNat, Int.reduceLT, Int.reduceLE, Int.reduceEq, Int.reduceAdd, Int.reduceSub, Int.reduceNeg, hobj, Off_dn (Off_of hM hobj), Off_ne (Off_of hM hobj), Off_ne' (Off_of hM hobj), hel, Off_dn (Off_of hM hel), Off_ne (Off_of hM hel), Off_ne' (Off_of hM hel), r1, lo13, beqI, e1, e2, m1, m2, m3, m4, c1, c2, hchk, fresh_dn hM, fresh_at hM]
        rfl
      case b => simp (maxDischargeDepth := 80) only [push_cast, Nat.reduceBEq, reduceIte, reduceCtorEq, Nat.reduceEqDiff, Nat.reduceAdd, Nat.reduceMul, Nat.reduceSub, Nat.reduceLeDiff, Nat.reduceLT, Nat.reducePow, Int.reduceToNat, Int.reduceLT, Int.reduceLE, Int.reduceEq, Int.reduceAdd, Int.reduceSub, Int.reduceNeg, hobj, Off_dn (Off_of hM hobj), Off_ne (Off_of hM hobj), Off_ne' (Off_of hM hobj), hel, Off_dn (Off_of hM hel), Off_ne (Off_of hM hel), Off_ne' (Off_of hM hel), e1, e2, c1, c2]
      case c => simp (maxDischargeDepth := 80) only [push_cast, Nat.reduceBEq, reduceIte, reduceCtorEq, Nat.reduceEqDiff, Nat.reduceAdd, Nat.reduceMul, Nat.reduceSub, Nat.reduceLeDiff, Nat.reduceLT, Nat.reducePow, Int.reduceToNat, Int.reduceLT, Int.reduceLE, Int.reduceEq, Int.reduceAdd, Int.reduceSub, Int.reduceNeg, c1, c2]
      case dd =>
        intro i hi hx
        simp (maxDischargeDepth := 80) only [push_cast, Nat.reduceBEq, reduceIte, reduceCtorEq, Nat.reduceEqDiff, Nat.reduceAdd, Nat.reduceMul, Nat.reduceSub, Nat.reduceLeDiff, Nat.reduceLT, Nat.reducePow, Int.reduceToNat, Int.reduceLT, Int.reduceLE, Int.reduceEq, Int.reduceAdd, Int.reduceSub, Int.reduceNeg, hfin i hx, Off_ne hi]
  · refine ⟨(?_, ?_, ?_, ?_), ?a, ?b, ?c, ?dd⟩
    case a =>
      rw [Fn_body Tryz.func13 (by decide) rfl rfl]
      simp (maxDischargeDepth := 80) only [push_cast, Nat.reduceBEq, reduceIte, reduceCtorEq, Nat.reduceEqDiff, Nat.reduceAdd, Nat.reduceMul, Nat.reduceSub, Nat.reduceLeDiff, Nat.reduceLT, Nat.reducePow, Int.reduceToNat, Int.reduceLT, Int.reduceLE, Int.reduceEq, Int.reduceAdd, Int.reduceSub, Int.reduceNeg, hobj, Off_dn (Off_of hM hobj), Off_ne (Off_of hM hobj), Off_ne' (Off_of hM hobj), hel, Off_dn (Off_of hM hel), Off_ne (Off_of hM hel), Off_ne' (Off_of hM hel), r1, lo13, beqI, e1, e2, m1, m2, m3, m4, c1, hchk, fresh_dn hM, fresh_at hM]
      rfl
    case b => simp (maxDischargeDepth := 80) only [push_cast, Nat.reduceBEq, reduceIte, reduceCtorEq, Nat.reduceEqDiff, Nat.reduceAdd, Nat.reduceMul, Nat.reduceSub, Nat.reduceLeDiff, Nat.reduceLT, Nat.reducePow, Int.reduceToNat, Int.reduceLT, Int.reduceLE, Int.reduceEq, Int.reduceAdd, Int.reduceSub, Int.reduceNeg, hobj, Off_dn (Off_of hM hobj), Off_ne (Off_of hM hobj), Off_ne' (Off_of hM hobj), hel, Off_dn (Off_of hM hel), Off_ne (Off_of hM hel), Off_ne' (Off_of hM hel), e1, e2, c1]
    case c => simp (maxDischargeDepth := 80) only [push_cast, Nat.reduceBEq, reduceIte, reduceCtorEq, Nat.reduceEqDiff, Nat.reduceAdd, Nat.reduceMul, Nat.reduceSub, Nat.reduceLeDiff, Nat.reduceLT, Nat.reducePow, Int.reduceToNat, Int.reduceLT, Int.reduceLE, Int.reduceEq, Int.reduceAdd, Int.reduceSub, Int.reduceNeg, c1]
    case dd =>
      intro i hi hx
      simp (maxDischargeDepth := 80) only [push_cast, Nat.reduceBEq, reduceIte, reduceCtorEq, Nat.reduceEqDiff, Nat.reduceAdd, Nat.reduceMul, Nat.reduceSub, Nat.reduceLeDiff, Nat.reduceLT, Nat.reducePow, Int.reduceToNat, Int.reduceLT, Int.reduceLE, Int.reduceEq, Int.reduceAdd, Int.reduceSub, Int.reduceNeg, hfin i hx, Off_ne hi]
end Go.Ab.R

/- A leader that is alone: Read; its first tick. Conditions: none. -/
namespace Go.Ab.R
open Go Go.Proofs
set_option maxRecDepth 100000

theorem FrM.trans' {s : Id} {X Y : List Id} {M M' : Mem} (h : FrM s X M M') (hX : ∀ i, i ∉ Y → i ∉ X) : FrM s Y M M' := fun i hi hx => h i hi (hX i hx)
theorem read1_E {M : Mem} {p ia : Id} {v : V} {g : Lg} {d : Nd} {e : Elc} {im : Id} (token : Int) (s : Id) (hM : FreshM s M) (h : Lone M p d e ia v g im) (hr : d.rds = .nils) (ho : ownL g e = true) :
    ∃ x : Mem × Id, Fn env false 12 [.ptr p 0, .int .i64 token] s M = some (.int .i64 0, x.1) ∧
      x.1 p = some (.cells (Nd.cs { d with rds := .sl x.2 0 1 2 none })) ∧ x.1 x.2 = some (.cells [.int .i64 token, .int .i64 g.com]) ∧ FrM s [p] M x.1 ∧ Un s x.2 := by
  have hobj := h.at_.obj
  have hel := h.at_.el
  have e1 := eq_false h.at_.ne1
  have e2 := eq_false (Ne.symm h.at_.ne1)
  have hlo := h.at_.lg.obj
  have hI1 : intsV (some [1]) = .psl [.int .i64 1] 1 false := rfl
  have hI2 : intsV none = .nils := rfl
  have r1 := fun s' (q1 : FreshM s' M) => own_E s' q1 h.at_
  rw [ho] at r1
  have r2 := fun s' M' (q1 : FreshM s' M') (q2 : Sub M M') => com_E s' M' q1 (h.at_.lg.mono q2)
  have r3 := fun i c s' M' (q1 : FreshM s' M') (q4 : M' i = some (.cells [.int .i64 1])) => wins_E (intsV (some [1])) (intsV none) (.sl i 0 1 1 c) [1] [] [1] s' M' q1 (RdI_ints M' (some [1]) (by simp [intsL])) (RdI_ints M' none (by simp [intsL])) (rdI_one q4 c)
  have hfin : ∀ i : Id, i ∉ [p] → (i = p) = False := fun i hx => eq_false (fun e => hx (by simp [e]))
  have hdid := h.did; have hdgv := h.dgv; have hdgl := h.dgl; have hdre := h.dre
  simp only [hI1, hI2] at r3
  simp only [Nd.cs_eq, hdid, hdgv, hdgl, hI1, hI2, hr, hdre] at hobj
  simp only [Nd.cs_eq, hdid, hdgv, hdgl, hI1, hI2, hr, hdre]
  refine ⟨(?_, ?_), ?a, ?b, ?c, ?dd, ?e⟩
  case a =>
    rw [Fn_body Tryz.func12 (by decide) rfl rfl]
    simp (maxDischargeDepth := 80) only [push_cast, Nat.reduceBEq, reduceIte, reduceCtorEq, Nat.reduceEqDiff, Nat.reduceAdd, Nat.reduceMul, Nat.reduceSub, Nat.reduceLeDiff, Nat.reduceLT, Nat.reducePow, Int.reduceToNat, Int.reduceLT, Int.reduceLE, Int.reduceEq, Int.reduceAdd, Int.reduceSub, Int.reduceNeg, hobj, Off_dn (Off_of hM hobj), Off_ne (Off_of hM hobj), Off_ne' (Off_of hM hobj), hel, Off_dn (Off_of hM hel), Off_ne (Off_of hM hel), Off_ne' (Off_of hM hel), hlo, Off_dn (Off_of hM hlo), Off_ne (Off_of hM hlo), Off_ne' (Off_of hM hlo), r1, r2, r3, wins1, mostLen, e1, e2, fresh_dn hM, fresh_at hM]
    rfl
  case b =>
    simp (maxDischargeDepth := 80) only [push_cast, Nat.reduceBEq, reduceIte, reduceCtorEq, Nat.reduceEqDiff, Nat.reduceAdd, Nat.reduceMul, Nat.reduceSub, Nat.reduceLeDiff, Nat.reduceLT, Nat.reducePow, Int.reduceToNat, Int.reduceLT, Int.reduceLE, Int.reduceEq, Int.reduceAdd, Int.reduceSub, Int.reduceNeg, hobj, Off_dn (Off_of hM hobj), Off_ne (Off_of hM hobj), Off_ne' (Off_of hM hobj)]
    rfl
  case c => simp (maxDischargeDepth := 80) only [push_cast, Nat.reduceBEq, reduceIte, reduceCtorEq, Nat.reduceEqDiff, Nat.reduceAdd, Nat.reduceMul, Nat.reduceSub, Nat.reduceLeDiff, Nat.reduceLT, Nat.reducePow, Int.reduceToNat, Int.reduceLT, Int.reduceLE, Int.reduceEq, Int.reduceAdd, Int.reduceSub, Int.reduceNeg, hobj, Off_dn (Off_of hM hobj), Off_ne (Off_of hM hobj), Off_ne' (Off_of hM hobj)]
  case dd =>
    intro i hi hx
    simp (maxDischargeDepth := 80) only [push_cast, Nat.reduceBEq, reduceIte, reduceCtorEq, Nat.reduceEqDiff, Nat.reduceAdd, Nat.reduceMul, Nat.reduceSub, Nat.reduceLeDiff, Nat.reduceLT, Nat.reducePow, Int.reduceToNat, Int.reduceLT, Int.reduceLE, Int.reduceEq, Int.reduceAdd, Int.reduceSub, Int.reduceNeg, hfin i hx, Off_ne hi]
  case e => simp (maxDischargeDepth := 80) only [push_cast, Nat.reduceBEq, reduceIte, reduceCtorEq, Nat.reduceEqDiff, Nat.reduceAdd, Nat.reduceMul, Nat.reduceSub, Nat.reduceLeDiff, Nat.reduceLT, Nat.reducePow, Int.reduceToNat, Int.reduceLT, Int.reduceLE, Int.reduceEq, Int.reduceAdd, Int.reduceSub, Int.reduceNeg]

theorem nterm_E {M : Mem} {p ia : Id} {v : V} {g : Lg} {d : Nd} {e : Elc} (s : Id) (hM : FreshM s M) (h : NodeAt M p d e ia v g) : Fn env false 40 [.ptr p 0] s M = some (.int .i64 (g.termOf g.last), M) := by
  have hobj := h.obj
  have r1 := fun s' M' (q1 : FreshM s' M') (q2 : Sub M M') => last_E s' M' q1 (h.lg.mono q2)
  have r2 := fun s' M' (q1 : FreshM s' M') (q2 : Sub M M') => term_E g.last s' M' q1 (h.lg.mono q2)
  simp only [Nd.cs_eq] at hobj
  rw [Fn_body Tryz.func40 (by decide) rfl rfl]
  simp (maxDischargeDepth := 80) only [push_cast, Nat.reduceBEq, reduceIte, reduceCtorEq, Nat.reduceEqDiff, Nat.reduceAdd, Nat.reduceMul, Nat.reduceSub, Nat.reduceLeDiff, Nat.reduceLT, Nat.reducePow, Int.reduceToNat, Int.reduceLT, Int.reduceLE, Int.reduceEq, Int.reduceAdd, Int.reduceSub, Int.reduceNeg, hobj, Off_dn (Off_of hM hobj), Off_ne (Off_of hM hobj), Off_ne' (Off_of hM hobj), r1, r2, fresh_dn hM, fresh_at hM]

/-- it has become the leader: it enters an empty entry, and commits it -/
theorem voted1_E {M : Mem} {p ia : Id} {v : V} {g : Lg} {d : Nd} {e : Elc} (s : Id) (hM : FreshM s M) (h : NodeAt M p d e ia v g) (hk : ∀ x ∈ g.ents, x.kind ≠ 2) (hok : NdOk d) (hid : d.id = 1) (hsn : d.sn = snp1) (hms : d.msgs = .nils) (hsw : d.snew = false)
    (hr : e.role = 3) (hei : e.id = 1) (ha : g.addE [⟨g.last + 1, e.term, 0, none⟩] = 0) (hn : g.ents.length + 1 ≤ 2 ^ 35) (hc : g.com ≤ g.last) :
    ∃ x : Mem × Id × V × Id, Fn env false 37 [.ptr p 0, .bool false, .nils] s M = some (.tup [], x.1) ∧
      Lone x.1 p { d with gvs := some [1], gls := none, reads := .nils, round := 0, peers := .mapr x.2.2.2, from_ := if d.from_ = 0 ∨ g.last + 1 < d.from_ then g.last + 1 else d.from_ } { e with vv := intsV (some [1]), lv := .nils } x.2.1 x.2.2.1 (g.led ⟨g.last + 1, e.term, 0, none⟩) x.2.2.2 ∧
      FrM s [p, d.ie, d.il, ia] M x.1 ∧ (x.2.1 = ia ∨ Un s x.2.1) ∧ Un s x.2.2.2 := by
  have hobj := h.obj
  have hel := h.el
  have e1 := eq_false h.ne1
  have e2 := eq_false (Ne.symm h.ne1)
  have hoff : ∀ x ∈ [p, d.ie, d.il, ia], Off s x := by
    intro x hx
    simp only [List.mem_cons, List.not_mem_nil, or_false] at hx
    rcases hx with rfl | rfl | rfl | rfl
    · exact Off_of hM h.obj
    · exact Off_of hM h.el
    · exact Off_of hM h.lg.obj
    · exact Off_of hM h.lg.arr
  have u1 : Un s (1 :: 0 :: 1 :: 0 :: 1 :: 1 :: 1 :: 0 :: 1 :: 1 :: 0 :: s) := by simp (maxDischargeDepth := 80) only [push_cast, Nat.reduceBEq, reduceIte, reduceCtorEq, Nat.reduceEqDiff, Nat.reduceAdd, Nat.reduceMul, Nat.reduceSub, Nat.reduceLeDiff, Nat.reduceLT, Nat.reducePow, Int.reduceToNat, Int.reduceLT, Int.reduceLE, Int.reduceEq, Int.reduceAdd, Int.reduceSub, Int.reduceNeg]
  have u2 : Un s (1 :: 0 :: 1 :: 1 :: 0 :: 1 :: 1 :: 1 :: 0 :: 1 :: 1 :: 0 :: s) := by simp (maxDischargeDepth := 80) only [push_cast, Nat.reduceBEq, reduceIte, reduceCtorEq, Nat.reduceEqDiff, Nat.reduceAdd, Nat.reduceMul, Nat.reduceSub, Nat.reduceLeDiff, Nat.reduceLT, Nat.reducePow, Int.reduceToNat, Int.reduceLT, Int.reduceLE, Int.reduceEq, Int.reduceAdd, Int.reduceSub, Int.reduceNeg]
  have u3 : Un s (1 :: 0 :: 1 :: 1 :: 1 :: 0 :: 1 :: 1 :: 1 :: 0 :: 1 :: 1 :: 0 :: s) := by simp (maxDischargeDepth := 80) only [push_cast, Nat.reduceBEq, reduceIte, reduceCtorEq, Nat.reduceEqDiff, Nat.reduceAdd, Nat.reduceMul, Nat.reduceSub, Nat.reduceLeDiff, Nat.reduceLT, Nat.reducePow, Int.reduceToNat, Int.reduceLT, Int.reduceLE, Int.reduceEq, Int.reduceAdd, Int.reduceSub, Int.reduceNeg]
  have u4 : Un s (1 :: 1 :: 1 :: 1 :: 1 :: 0 :: 1 :: 1 :: 1 :: 0 :: 1 :: 1 :: 0 :: s) := by simp (maxDischargeDepth := 80) only [push_cast, Nat.reduceBEq, reduceIte, reduceCtorEq, Nat.reduceEqDiff, Nat.reduceAdd, Nat.reduceMul, Nat.reduceSub, Nat.reduceLeDiff, Nat.reduceLT, Nat.reducePow, Int.reduceToNat, Int.reduceLT, Int.reduceLE, Int.reduceEq, Int.reduceAdd, Int.reduceSub, Int.reduceNeg]
  have r1 := fun s' (q1 : FreshM s' M) => role_E s' q1 hel
  rw [hr] at r1
  -- the group found anew
  obtain ⟨y, g1, g2, g3, g4, g5, g6⟩ := regroupL_E (d := { d with peers := .nilm, reads := .nils, round := 0 }) (M := M.set p (.cells (Nd.cs { d with peers := .nilm, reads := .nils, round := 0 }))) (p := p) (ia := ia) (v := v) (g := g) (e := e)
    (fun g _ => g) (fun _ => True) (1 :: 0 :: 1 :: 0 :: 1 :: 1 :: 1 :: 0 :: 1 :: 1 :: 0 :: s) (by simp (maxDischargeDepth := 80) only [push_cast, Nat.reduceBEq, reduceIte, reduceCtorEq, Nat.reduceEqDiff, Nat.reduceAdd, Nat.reduceMul, Nat.reduceSub, Nat.reduceLeDiff, Nat.reduceLT, Nat.reducePow, Int.reduceToNat, Int.reduceLT, Int.reduceLE, Int.reduceEq, Int.reduceAdd, Int.reduceSub, Int.reduceNeg, hobj, Off_dn (Off_of hM hobj), Off_ne (Off_of hM hobj), Off_ne' (Off_of hM hobj), fresh_dn hM, fresh_at hM]) ⟨by simp (maxDischargeDepth := 80) only [push_cast, Nat.reduceBEq, reduceIte, reduceCtorEq, Nat.reduceEqDiff, Nat.reduceAdd, Nat.reduceMul, Nat.reduceSub, Nat.reduceLeDiff, Nat.reduceLT, Nat.reducePow, Int.reduceToNat, Int.reduceLT, Int.reduceLE, Int.reduceEq, Int.reduceAdd, Int.reduceSub, Int.reduceNeg], by simp (maxDischargeDepth := 80) only [push_cast, Nat.reduceBEq, reduceIte, reduceCtorEq, Nat.reduceEqDiff, Nat.reduceAdd, Nat.reduceMul, Nat.reduceSub, Nat.reduceLeDiff, Nat.reduceLT, Nat.reducePow, Int.reduceToNat, Int.reduceLT, Int.reduceLE, Int.reduceEq, Int.reduceAdd, Int.reduceSub, Int.reduceNeg, e2, hel], h.lg.frame (by simp (maxDischargeDepth := 80) only [push_cast, Nat.reduceBEq, reduceIte, reduceCtorEq, Nat.reduceEqDiff, Nat.reduceAdd, Nat.reduceMul, Nat.reduceSub, Nat.reduceLeDiff, Nat.reduceLT, Nat.reducePow, Int.reduceToNat, Int.reduceLT, Int.reduceLE, Int.reduceEq, Int.reduceAdd, Int.reduceSub, Int.reduceNeg, eq_false (Ne.symm h.ne2)]) (by simp (maxDischargeDepth := 80) only [push_cast, Nat.reduceBEq, reduceIte, reduceCtorEq, Nat.reduceEqDiff, Nat.reduceAdd, Nat.reduceMul, Nat.reduceSub, Nat.reduceLeDiff, Nat.reduceLT, Nat.reducePow, Int.reduceToNat, Int.reduceLT, Int.reduceLE, Int.reduceEq, Int.reduceAdd, Int.reduceSub, Int.reduceNeg, eq_false (Ne.symm h.ne5)])⟩
    ⟨rfl, rfl, rfl, rfl, hok.m1, hok.m2, hok.e1, hok.e2⟩ (chg0 _ hk) trivial hr (by rw [groupL_const]; show (d.sn.vs, d.sn.ls) = (some [d.id], none); rw [hsn, hid]; rfl) (by show rightL [d.id] [] = true; rw [hid]; exact right1) (.inl rfl)
  simp only [hid] at g2 g3
  have hfr1 : FrM s [p, d.ie] M y.1 := by
    intro i hi hx
    rw [g6 i (Off_dn hi u1) hx]
    have : ¬ i = p := fun e => hx (by simp [e])
    simp (maxDischargeDepth := 80) only [push_cast, Nat.reduceBEq, reduceIte, reduceCtorEq, Nat.reduceEqDiff, Nat.reduceAdd, Nat.reduceMul, Nat.reduceSub, Nat.reduceLeDiff, Nat.reduceLT, Nat.reducePow, Int.reduceToNat, Int.reduceLT, Int.reduceLE, Int.reduceEq, Int.reduceAdd, Int.reduceSub, Int.reduceNeg, this]
  have hil1 : y.1 d.il = M d.il := hfr1 _ (hoff _ (by simp)) (by simp [Ne.symm h.ne2, Ne.symm h.ne3])
  have hia1 : y.1 ia = M ia := hfr1 _ (hoff _ (by simp)) (by simp [Ne.symm h.ne5, Ne.symm h.ne4])
  have hL1 : Lone y.1 p { d with gvs := some [1], gls := none, reads := .nils, round := 0, peers := .mapr y.2 } { e with vv := intsV (some [1]), lv := .nils } ia v g y.2 :=
    ⟨⟨(by rw [g2, hid]), g3, h.lg.frame hil1 hia1⟩, hk, hid, rfl, rfl, hsn, rfl, hms, rfl, hsw, hei, rfl, rfl, hr, rfl, g4, ⟨rfl, rfl, rfl, rfl, hok.m1, hok.m2, hok.e1, hok.e2⟩⟩
  have hF1 : ∀ t, Un s t → Off (1 :: 0 :: 1 :: 0 :: 1 :: 1 :: 1 :: 0 :: 1 :: 1 :: 0 :: s) t → Off t (1 :: 0 :: 1 :: 0 :: 1 :: 1 :: 1 :: 0 :: 1 :: 1 :: 0 :: s) → FreshM t y.1 := fun t ht h1 h2 => by
    refine g6.fr ?_ h1 h2 ?_
    · simp (maxDischargeDepth := 80) only [push_cast, Nat.reduceBEq, reduceIte, reduceCtorEq, Nat.reduceEqDiff, Nat.reduceAdd, Nat.reduceMul, Nat.reduceSub, Nat.reduceLeDiff, Nat.reduceLT, Nat.reducePow, Int.reduceToNat, Int.reduceLT, Int.reduceLE, Int.reduceEq, Int.reduceAdd, Int.reduceSub, Int.reduceNeg, fresh_dn hM, ht, Off_dn (Off_of hM hobj) ht]
    · intro x hx
      exact Off_dn (hoff x (by simp only [List.mem_cons, List.not_mem_nil, or_false] at hx ⊢; rcases hx with rfl | rfl <;> simp)) ht
  obtain ⟨x, k1, k2, k3, k4, k5⟩ := enter1_E 0 none (1 :: 0 :: 1 :: 1 :: 0 :: 1 :: 1 :: 1 :: 0 :: 1 :: 1 :: 0 :: s) (hF1 _ u2 (by simp (maxDischargeDepth := 80) only [push_cast, Nat.reduceBEq, reduceIte, reduceCtorEq, Nat.reduceEqDiff, Nat.reduceAdd, Nat.reduceMul, Nat.reduceSub, Nat.reduceLeDiff, Nat.reduceLT, Nat.reducePow, Int.reduceToNat, Int.reduceLT, Int.reduceLE, Int.reduceEq, Int.reduceAdd, Int.reduceSub, Int.reduceNeg]) (by simp (maxDischargeDepth := 80) only [push_cast, Nat.reduceBEq, reduceIte, reduceCtorEq, Nat.reduceEqDiff, Nat.reduceAdd, Nat.reduceMul, Nat.reduceSub, Nat.reduceLeDiff, Nat.reduceLT, Nat.reducePow, Int.reduceToNat, Int.reduceLT, Int.reduceLE, Int.reduceEq, Int.reduceAdd, Int.reduceSub, Int.reduceNeg])) hL1 (by decide) ha hn
  have hoff1 : ∀ t, Un s t → ∀ i ∈ [p, d.ie, d.il, ia], Off t i := fun t ht i hi => Off_dn (hoff i hi) ht
  have hF3 : FreshM (1 :: 0 :: 1 :: 1 :: 1 :: 0 :: 1 :: 1 :: 1 :: 0 :: 1 :: 1 :: 0 :: s) x.1 := k3.fr (hF1 _ u3 (by simp (maxDischargeDepth := 80) only [push_cast, Nat.reduceBEq, reduceIte, reduceCtorEq, Nat.reduceEqDiff, Nat.reduceAdd, Nat.reduceMul, Nat.reduceSub, Nat.reduceLeDiff, Nat.reduceLT, Nat.reducePow, Int.reduceToNat, Int.reduceLT, Int.reduceLE, Int.reduceEq, Int.reduceAdd, Int.reduceSub, Int.reduceNeg]) (by simp (maxDischargeDepth := 80) only [push_cast, Nat.reduceBEq, reduceIte, reduceCtorEq, Nat.reduceEqDiff, Nat.reduceAdd, Nat.reduceMul, Nat.reduceSub, Nat.reduceLeDiff, Nat.reduceLT, Nat.reducePow, Int.reduceToNat, Int.reduceLT, Int.reduceLE, Int.reduceEq, Int.reduceAdd, Int.reduceSub, Int.reduceNeg])) (by simp (maxDischargeDepth := 80) only [push_cast, Nat.reduceBEq, reduceIte, reduceCtorEq, Nat.reduceEqDiff, Nat.reduceAdd, Nat.reduceMul, Nat.reduceSub, Nat.reduceLeDiff, Nat.reduceLT, Nat.reducePow, Int.reduceToNat, Int.reduceLT, Int.reduceLE, Int.reduceEq, Int.reduceAdd, Int.reduceSub, Int.reduceNeg]) (by simp (maxDischargeDepth := 80) only [push_cast, Nat.reduceBEq, reduceIte, reduceCtorEq, Nat.reduceEqDiff, Nat.reduceAdd, Nat.reduceMul, Nat.reduceSub, Nat.reduceLeDiff, Nat.reduceLT, Nat.reducePow, Int.reduceToNat, Int.reduceLT, Int.reduceLE, Int.reduceEq, Int.reduceAdd, Int.reduceSub, Int.reduceNeg]) (hoff1 _ u3)
  have hF4 : FreshM (1 :: 1 :: 1 :: 1 :: 1 :: 0 :: 1 :: 1 :: 1 :: 0 :: 1 :: 1 :: 0 :: s) x.1 := k3.fr (hF1 _ u4 (by simp (maxDischargeDepth := 80) only [push_cast, Nat.reduceBEq, reduceIte, reduceCtorEq, Nat.reduceEqDiff, Nat.reduceAdd, Nat.reduceMul, Nat.reduceSub, Nat.reduceLeDiff, Nat.reduceLT, Nat.reducePow, Int.reduceToNat, Int.reduceLT, Int.reduceLE, Int.reduceEq, Int.reduceAdd, Int.reduceSub, Int.reduceNeg]) (by simp (maxDischargeDepth := 80) only [push_cast, Nat.reduceBEq, reduceIte, reduceCtorEq, Nat.reduceEqDiff, Nat.reduceAdd, Nat.reduceMul, Nat.reduceSub, Nat.reduceLeDiff, Nat.reduceLT, Nat.reducePow, Int.reduceToNat, Int.reduceLT, Int.reduceLE, Int.reduceEq, Int.reduceAdd, Int.reduceSub, Int.reduceNeg])) (by simp (maxDischargeDepth := 80) only [push_cast, Nat.reduceBEq, reduceIte, reduceCtorEq, Nat.reduceEqDiff, Nat.reduceAdd, Nat.reduceMul, Nat.reduceSub, Nat.reduceLeDiff, Nat.reduceLT, Nat.reducePow, Int.reduceToNat, Int.reduceLT, Int.reduceLE, Int.reduceEq, Int.reduceAdd, Int.reduceSub, Int.reduceNeg]) (by simp (maxDischargeDepth := 80) only [push_cast, Nat.reduceBEq, reduceIte, reduceCtorEq, Nat.reduceEqDiff, Nat.reduceAdd, Nat.reduceMul, Nat.reduceSub, Nat.reduceLeDiff, Nat.reduceLT, Nat.reducePow, Int.reduceToNat, Int.reduceLT, Int.reduceLE, Int.reduceEq, Int.reduceAdd, Int.reduceSub, Int.reduceNeg]) (hoff1 _ u4)
  have hx0 := addL_term (g := g) ⟨g.last + 1, e.term, 0, none⟩
  obtain ⟨M3, m1, m2, m3⟩ := advance1_E _ hF3 k2 (by rw [addL_last]; exact hx0) (by rw [addL_last]; exact Int.lt_add_one_of_le hc) (by rw [addL_last]; exact addL_has _)
  rw [addL_last] at m2
  have hN := k2.at_
  have hF5 : FreshM (1 :: 1 :: 1 :: 1 :: 1 :: 0 :: 1 :: 1 :: 1 :: 0 :: 1 :: 1 :: 0 :: s) M3 := m3.fr hF4 (by simp (maxDischargeDepth := 80) only [push_cast, Nat.reduceBEq, reduceIte, reduceCtorEq, Nat.reduceEqDiff, Nat.reduceAdd, Nat.reduceMul, Nat.reduceSub, Nat.reduceLeDiff, Nat.reduceLT, Nat.reducePow, Int.reduceToNat, Int.reduceLT, Int.reduceLE, Int.reduceEq, Int.reduceAdd, Int.reduceSub, Int.reduceNeg]) (by simp (maxDischargeDepth := 80) only [push_cast, Nat.reduceBEq, reduceIte, reduceCtorEq, Nat.reduceEqDiff, Nat.reduceAdd, Nat.reduceMul, Nat.reduceSub, Nat.reduceLeDiff, Nat.reduceLT, Nat.reducePow, Int.reduceToNat, Int.reduceLT, Int.reduceLE, Int.reduceEq, Int.reduceAdd, Int.reduceSub, Int.reduceNeg]) (fun i hi => by
    simp only [List.mem_singleton] at hi; subst hi; exact Off_of hF4 hN.lg.obj)
  have q1 : M3 p = x.1 p := m3 p (Off_of hF3 hN.obj) (by simp only [List.mem_singleton]; exact hN.ne2)
  have q2 : M3 d.ie = x.1 d.ie := m3 d.ie (Off_of hF3 hN.el) (by simp only [List.mem_singleton]; exact hN.ne3)
  have q3 : M3 x.2.1 = x.1 x.2.1 := m3 _ (Off_of hF3 hN.lg.arr) (by simp only [List.mem_singleton]; exact Ne.symm hN.lg.ne)
  have q4 : M3 x.2.2.2 = x.1 x.2.2.2 := m3 _ (Off_of hF3 k2.pm) (by simp only [List.mem_singleton]; intro q; have := k2.pm; rw [q] at this; rw [hN.lg.obj] at this; cases this)
  have hL : Lone M3 p { d with gvs := some [1], gls := none, reads := .nils, round := 0, peers := .mapr x.2.2.2, from_ := if d.from_ = 0 ∨ g.last + 1 < d.from_ then g.last + 1 else d.from_ } { e with vv := intsV (some [1]), lv := .nils } x.2.1 x.2.2.1 (g.led ⟨g.last + 1, e.term, 0, none⟩) x.2.2.2 :=
    ⟨⟨q1.trans hN.obj, q2.trans hN.el, ⟨m2, hN.lg.shape, q3.trans hN.lg.arr, ⟨hN.lg.ok.ne, hN.lg.ok.idx, hN.lg.ok.lo, hN.lg.ok.hi, hN.lg.ok.few, hN.lg.ok.data⟩⟩⟩, k2.kinds, k2.did, k2.dgv, k2.dgl, k2.dsn, k2.dre, k2.dms, k2.dro, k2.dsw, k2.eid, k2.evv, k2.elv, k2.role, k2.peers, q4.trans k2.pm, k2.ok⟩
  have r3 := all0_E _ hF5 hL.at_.obj (.inr ⟨_, hL.peers, hL.pm⟩)
  have hdn : dataV none = .nils := rfl
  rw [hdn] at k1
  refine ⟨(M3, x.2.1, x.2.2.1, x.2.2.2), ?_, hL, ?_, ?_, List.IsSuffix.trans u2 k5⟩
  · simp only [Nd.cs_eq, hid] at hobj g1
    rw [Fn_body Tryz.func37 (by decide) rfl rfl]
    simp (maxDischargeDepth := 80) only [push_cast, Nat.reduceBEq, reduceIte, reduceCtorEq, Nat.reduceEqDiff, Nat.reduceAdd, Nat.reduceMul, Nat.reduceSub, Nat.reduceLeDiff, Nat.reduceLT, Nat.reducePow, Int.reduceToNat, Int.reduceLT, Int.reduceLE, Int.reduceEq, Int.reduceAdd, Int.reduceSub, Int.reduceNeg, hobj, Off_dn (Off_of hM hobj), Off_ne (Off_of hM hobj), Off_ne' (Off_of hM hobj), r1, g1, k1, m1, r3, run_lp, eq_false h.ne1, eq_false (Ne.symm h.ne1), fresh_dn hM, fresh_at hM]
  · refine (hfr1.trans' ?_).trans ((k3.wide u2 (fun i _ hx => hx)).trans (m3.wide u3 (fun i _ hx => ?_)))
    · intro i hx; simp only [List.mem_cons, List.not_mem_nil, or_false, not_or] at hx ⊢; exact ⟨hx.1, hx.2.1⟩
    · simp only [List.mem_cons, List.not_mem_nil, or_false, not_or] at hx ⊢
      exact hx.2.2.1
  · rcases k4 with q | q
    · exact .inl q
    · exact .inr (List.IsSuffix.trans u2 q)
end Go.Ab.R

/- Who is alone: its first tick, and how it begins. Conditions: none. -/
namespace Go.Ab.R
open Go Go.Proofs
set_option maxRecDepth 100000

theorem tick1_E {M : Mem} {p ia : Id} {v : V} {g : Lg} {d : Nd} {e : Elc} (draw : Int) (s : Id) (hM : FreshM s M) (h : NodeAt M p d e ia v g) (hk : ∀ x ∈ g.ents, x.kind ≠ 2) (hok : NdOk d) (hid : d.id = 1) (hsn : d.sn = snp1) (hms : d.msgs = .nils) (hsw : d.snew = false)
    (hei : e.id = 1) (hev : e.vv = intsV (some [1])) (hel' : e.lv = .nils) (hs1 : e.said.one = true) (hs2 : e.said.cells = [e.said]) (hr : e.role ≠ 3) (hwa : e.waited = 0) (hli : e.limit = 1) (hpa : e.pat = 1) (ht : e.term < 1099511627776) (ht0 : 0 ≤ e.term)
    (ha : g.addE [⟨g.last + 1, e.term + 1, 0, none⟩] = 0) (hn : g.ents.length + 1 ≤ 2 ^ 35) (hc : g.com ≤ g.last) :
    ∃ x : Mem × Id × V × Id × Id, Fn env false 10 [.ptr p 0, .int .i64 draw] s M = some (.tup [], x.1) ∧
      Lone x.1 p { d with gvs := some [1], gls := none, reads := .nils, round := 0, peers := .mapr x.2.2.2.1, from_ := if d.from_ = 0 ∨ g.last + 1 < d.from_ then g.last + 1 else d.from_ }
        { e with term := e.term + 1, vote := 1, role := 3, leader := 1, waited := 0, limit := 1, said := .mapr x.2.2.2.2, vv := intsV (some [1]), lv := .nils } x.2.1 x.2.2.1 (g.led ⟨g.last + 1, e.term + 1, 0, none⟩) x.2.2.2.1 ∧
      FrM s [p, d.ie, d.il, ia] M x.1 ∧ (x.2.1 = ia ∨ Un s x.2.1) := by
  have hobj := h.obj
  have hel := h.el
  have e1 := eq_false h.ne1
  have e2 := eq_false (Ne.symm h.ne1)
  have u1 : Un s (13 :: 0 :: 0 :: 1 :: 0 :: 0 :: s) := by simp (maxDischargeDepth := 80) only [push_cast, Nat.reduceBEq, reduceIte, reduceCtorEq, Nat.reduceEqDiff, Nat.reduceAdd, Nat.reduceMul, Nat.reduceSub, Nat.reduceLeDiff, Nat.reduceLT, Nat.reducePow, Int.reduceToNat, Int.reduceLT, Int.reduceLE, Int.reduceEq, Int.reduceAdd, Int.reduceSub, Int.reduceNeg]
  have u2 : Un s (14 :: 0 :: 0 :: 1 :: 0 :: 0 :: s) := by simp (maxDischargeDepth := 80) only [push_cast, Nat.reduceBEq, reduceIte, reduceCtorEq, Nat.reduceEqDiff, Nat.reduceAdd, Nat.reduceMul, Nat.reduceSub, Nat.reduceLeDiff, Nat.reduceLT, Nat.reducePow, Int.reduceToNat, Int.reduceLT, Int.reduceLE, Int.reduceEq, Int.reduceAdd, Int.reduceSub, Int.reduceNeg]
  have hr' : (e.role = 3) = False := eq_false hr
  have hI2 : intsV none = .nils := rfl
  have r1 := fun s' (q1 : FreshM s' M) => role_E s' q1 hel
  have r2 := fun s' (q1 : FreshM s' M) => last_E s' M q1 h.lg
  have r3 := fun s' (q1 : FreshM s' M) => nterm_E s' q1 h
  have hE : ElAt M d.ie e [1] [] := ⟨hel, fun M' => by rw [hev]; exact RdI_ints M' (some [1]) (by simp [intsL]), fun M' => by rw [hel']; exact RdI_ints M' none (by simp [intsL]), hs1, hs2⟩
  obtain ⟨y, g1, g2, g3⟩ := etick_E [1] [] draw g.last (g.termOf g.last) (13 :: 0 :: 0 :: 1 :: 0 :: 0 :: s) (fresh_dn hM u1) hE (by rw [hei]; exact wins1) (by rw [hei]; rfl) ht ht0 hr hwa hli hpa
  have hget : ∀ i, Off s i → i ∉ [d.ie] → y.1 i = M i := fun i hi hx => g3 i (Off_dn hi u1) hx
  have q1 : y.1 p = M p := hget p (Off_of hM hobj) (by simp [h.ne1])
  have q2 : y.1 d.il = M d.il := hget _ (Off_of hM h.lg.obj) (by simp [Ne.symm h.ne3])
  have q3 : y.1 ia = M ia := hget _ (Off_of hM h.lg.arr) (by simp [Ne.symm h.ne4])
  have hF2 : FreshM (14 :: 0 :: 0 :: 1 :: 0 :: 0 :: s) y.1 := g3.to hM u2 (by simp (maxDischargeDepth := 80) only [push_cast, Nat.reduceBEq, reduceIte, reduceCtorEq, Nat.reduceEqDiff, Nat.reduceAdd, Nat.reduceMul, Nat.reduceSub, Nat.reduceLeDiff, Nat.reduceLT, Nat.reducePow, Int.reduceToNat, Int.reduceLT, Int.reduceLE, Int.reduceEq, Int.reduceAdd, Int.reduceSub, Int.reduceNeg]) (by simp (maxDischargeDepth := 80) only [push_cast, Nat.reduceBEq, reduceIte, reduceCtorEq, Nat.reduceEqDiff, Nat.reduceAdd, Nat.reduceMul, Nat.reduceSub, Nat.reduceLeDiff, Nat.reduceLT, Nat.reducePow, Int.reduceToNat, Int.reduceLT, Int.reduceLE, Int.reduceEq, Int.reduceAdd, Int.reduceSub, Int.reduceNeg]) (fun i hi => by simp only [List.mem_singleton] at hi; subst hi; exact Off_of hM hel)
  rw [hei] at g2
  obtain ⟨x, k1, k2, k3, k4, k5⟩ := voted1_E (e := { e with id := 1, term := e.term + 1, vote := 1, role := 3, leader := 1, waited := 0, limit := 1, said := .mapr y.2 }) (14 :: 0 :: 0 :: 1 :: 0 :: 0 :: s) hF2 ⟨q1.trans hobj, g2, h.lg.frame q2 q3⟩ hk hok hid hsn hms hsw rfl rfl ha hn hc
  refine ⟨(x.1, x.2.1, x.2.2.1, x.2.2.2, y.2), ?_, ?_, ?_, ?_⟩
  · simp only [Nd.cs_eq] at hobj
    rw [Fn_body Tryz.func10 (by decide) rfl rfl]
    simp (maxDischargeDepth := 80) only [push_cast, Nat.reduceBEq, reduceIte, reduceCtorEq, Nat.reduceEqDiff, Nat.reduceAdd, Nat.reduceMul, Nat.reduceSub, Nat.reduceLeDiff, Nat.reduceLT, Nat.reducePow, Int.reduceToNat, Int.reduceLT, Int.reduceLE, Int.reduceEq, Int.reduceAdd, Int.reduceSub, Int.reduceNeg, hobj, Off_dn (Off_of hM hobj), Off_ne (Off_of hM hobj), Off_ne' (Off_of hM hobj), r1, r2, r3, hr', g1, k1, q1, fresh_dn hM, fresh_at hM]
  · rw [hei]
    exact k2
  · refine FrM.trans (FrM.wide g3 u1 (fun i hi hx => ?_)) (k3.wide u2 (fun i _ hx => hx))
    simp only [List.mem_cons, List.not_mem_nil, or_false, not_or] at hx ⊢
    exact hx.2.1
  · rcases k4 with q | q
    · exact .inl q
    · exact .inr (List.IsSuffix.trans u2 q)

def Lg.start (sn : Snp) (l : List Ent) : Lg := ⟨sn.index, ⟨sn.index, sn.term, 0, none⟩ :: l, sn.index, sn.index⟩
theorem start_ok {sn : Snp} (h : sn.right = true) : LgOk (Lg.start sn []) := by
  simp only [Snp.right, withinR, Bool.and_eq_true, decide_eq_true_eq] at h
  refine ⟨by simp [Lg.start], fun j hj => ?_, h.1.1.1.1, ?_, by simp [Lg.start], ?_⟩
  · have : j = 0 := by simpa [Lg.start] using hj
    subst this; simp [Lg.start]
  · simp only [Lg.start, List.length_singleton]; omega
  · intro e he
    simp only [Lg.start, List.mem_singleton] at he
    subst he; simp [dlen]

/-- how a node begins -/
theorem new_E (chg : Grp → Ent → Grp) (P : Grp → Prop) (id window pat : Int) (t vo : Int) (vv lv dv wl : V) (sn : Snp) (l : List Ent) (s : Id) (M : Mem) (hM : FreshM s M) (h : SnpAt M vv lv dv sn) (hwl : RdX M wl l) (hr : sn.right = true) (hw : 1 ≤ window ∧ window ≤ 64) (he : electOk id t vo pat (intsL sn.vs) (intsL sn.ls) = true)
    (ha : (Lg.start sn []).addE l = 0) (hn : l.length + 1 ≤ 2 ^ 35) (hc : ChgE chg P (Lg.start sn l).ents) (hP : P (sn.vs, sn.ls)) (gr : Grp) (hgr : groupL chg sn.index (sn.vs, sn.ls) ((Lg.start sn l).get (sn.index + 1) ((Lg.start sn l).last - sn.index)) = gr) (hri : rightL (intsL gr.1) (intsL gr.2) = true)
    (hs1 : (intsL gr.1).length < 2 ^ 40) (hs2 : (intsL gr.2).length < 2 ^ 40) :
    ∃ x : Mem × Id × Id × Id × Id × V × Id, Fn env false 9 [.int .i64 id, .agg [.int .i64 t, .int .i64 vo], .agg [.int .i64 sn.index, .int .i64 sn.term, vv, lv, dv], wl, .agg [.int .i64 pat, .int .i64 window]] s M = some (.tup [.ptr x.2.1 0, .int .i64 0], x.1) ∧
      NodeAt x.1 x.2.1 ⟨x.2.2.1, id, window, x.2.2.2.1, sn, gr.1, gr.2, .nilm, .nils, 0, t, vo, false, 0, .nils, .nils⟩ ⟨id, pat, t, vo, intsV gr.1, intsV gr.2, 0, 0, 0, pat, .mapr x.2.2.2.2.2.2⟩ x.2.2.2.2.1 x.2.2.2.2.2.1 (Lg.start sn l) ∧ FrM s [] M x.1 ∧ Un s x.2.1 ∧ Un s x.2.2.1 ∧ Un s x.2.2.2.1 ∧ Un s x.2.2.2.2.1 := by
  have u3 : Un s (2 :: 0 :: 1 :: 0 :: 1 :: 1 :: 1 :: 1 :: 1 :: 0 :: s) := by simp (maxDischargeDepth := 80) only [push_cast, Nat.reduceBEq, reduceIte, reduceCtorEq, Nat.reduceEqDiff, Nat.reduceAdd, Nat.reduceMul, Nat.reduceSub, Nat.reduceLeDiff, Nat.reduceLT, Nat.reducePow, Int.reduceToNat, Int.reduceLT, Int.reduceLE, Int.reduceEq, Int.reduceAdd, Int.reduceSub, Int.reduceNeg]
  have u4 : Un s (9 :: 0 :: 1 :: 1 :: 1 :: 1 :: 1 :: 1 :: 1 :: 0 :: s) := by simp (maxDischargeDepth := 80) only [push_cast, Nat.reduceBEq, reduceIte, reduceCtorEq, Nat.reduceEqDiff, Nat.reduceAdd, Nat.reduceMul, Nat.reduceSub, Nat.reduceLeDiff, Nat.reduceLT, Nat.reducePow, Int.reduceToNat, Int.reduceLT, Int.reduceLE, Int.reduceEq, Int.reduceAdd, Int.reduceSub, Int.reduceNeg]
  have u5 : Un s (1 :: 0 :: 1 :: 1 :: 1 :: 1 :: 1 :: 1 :: 1 :: 1 :: 0 :: s) := by simp (maxDischargeDepth := 80) only [push_cast, Nat.reduceBEq, reduceIte, reduceCtorEq, Nat.reduceEqDiff, Nat.reduceAdd, Nat.reduceMul, Nat.reduceSub, Nat.reduceLeDiff, Nat.reduceLT, Nat.reducePow, Int.reduceToNat, Int.reduceLT, Int.reduceLE, Int.reduceEq, Int.reduceAdd, Int.reduceSub, Int.reduceNeg]
  have hd := h.d
  subst hd
  have r1 := fun s' M' (q1 : FreshM s' M') (q2 : Sub M M') => right_snap_E vv lv (dataV sn.data) sn s' M' q1 (h.mono q2)
  have r2 := fun s' M' (q1 : FreshM s' M') (q2 : Sub M M') => electNew_E id t vo pat vv lv (intsL sn.vs) (intsL sn.ls) s' M' q1 ((h.v.mono q2).rd (by have := h.sv; omega)) ((h.l.mono q2).rd (by have := h.sl; omega))
  simp only [he, if_true] at r2
  have w1 : (window < 1) = False := eq_false (by omega)
  have w2 : (64 < window) = False := eq_false (by omega)
  have hr2 : (withinL sn.index && withinL sn.term) = true := by
    simp only [Snp.right, withinR, Bool.and_eq_true, decide_eq_true_eq] at hr
    simp only [withinL, Bool.and_eq_true, decide_eq_true_eq]
    omega
  have r3 := fun s' M' (q1 : FreshM s' M') => rlogNew_E sn.index sn.term s' M' q1
  simp only [hr2, if_true] at r3
  simp only [Elc.cs_eq] at r2
  obtain ⟨M3, hM3⟩ : ∃ M3 : Mem, (((((((((M.set (0 :: 0 :: 0 :: s) (AObj.cells [V.int IntKind.i64 t, V.int IntKind.i64 vo])).set (1 :: 0 :: 0 :: s) (AObj.cells [V.int IntKind.i64 sn.index, V.int IntKind.i64 sn.term, vv, lv, dataV sn.data])).set
      (2 :: 0 :: 0 :: s) (AObj.cells [V.int IntKind.i64 pat, V.int IntKind.i64 window])).set (0 :: 0 :: 0 :: 6 :: 0 :: 1 :: 1 :: 0 :: s) (AObj.cells [V.int IntKind.i64 t, V.int IntKind.i64 vo])).set (1 :: 0 :: 0 :: 6 :: 0 :: 1 :: 1 :: 0 :: s) (AObj.cells [vv, lv])).set
      (5 :: 0 :: 1 :: 1 :: 1 :: 0 :: 6 :: 0 :: 1 :: 1 :: 0 :: s) (AObj.map [])).set (7 :: 0 :: 1 :: 1 :: 1 :: 0 :: 6 :: 0 :: 1 :: 1 :: 0 :: s)
      (AObj.cells [V.int IntKind.i64 id, V.int IntKind.i64 pat, V.int IntKind.i64 t, V.int IntKind.i64 vo, vv, lv, V.int IntKind.i64 0, V.int IntKind.i64 0, V.int IntKind.i64 0, V.int IntKind.i64 pat, V.mapr (5 :: 0 :: 1 :: 1 :: 1 :: 0 :: 6 :: 0 :: 1 :: 1 :: 0 :: s)])).set
      (3 :: 0 :: 1 :: 1 :: 0 :: 4 :: 0 :: 1 :: 1 :: 1 :: 1 :: 0 :: s) (AObj.cells [V.int IntKind.i64 sn.index, V.int IntKind.i64 sn.term, V.int IntKind.i64 0, V.nils])).set (7 :: 0 :: 1 :: 1 :: 0 :: 4 :: 0 :: 1 :: 1 :: 1 :: 1 :: 0 :: s)
      (AObj.cells [V.sl (3 :: 0 :: 1 :: 1 :: 0 :: 4 :: 0 :: 1 :: 1 :: 1 :: 1 :: 0 :: s) 0 1 4 (some 1), V.int IntKind.i64 sn.index, V.int IntKind.i64 sn.index])) = M3 := ⟨_, rfl⟩
  have a1 : Sub M M3 := by rw [← hM3]; simp (maxDischargeDepth := 80) only [push_cast, Nat.reduceBEq, reduceIte, reduceCtorEq, Nat.reduceEqDiff, Nat.reduceAdd, Nat.reduceMul, Nat.reduceSub, Nat.reduceLeDiff, Nat.reduceLT, Nat.reducePow, Int.reduceToNat, Int.reduceLT, Int.reduceLE, Int.reduceEq, Int.reduceAdd, Int.reduceSub, Int.reduceNeg, fresh_dn hM, fresh_at hM]
  have a2 : M3 (7 :: 0 :: 1 :: 1 :: 0 :: 4 :: 0 :: 1 :: 1 :: 1 :: 1 :: 0 :: s) = some (AObj.cells [V.sl (3 :: 0 :: 1 :: 1 :: 0 :: 4 :: 0 :: 1 :: 1 :: 1 :: 1 :: 0 :: s) 0 1 4 (some 1), V.int IntKind.i64 sn.index, V.int IntKind.i64 sn.index]) := by rw [← hM3]; simp (maxDischargeDepth := 80) only [push_cast, Nat.reduceBEq, reduceIte, reduceCtorEq, Nat.reduceEqDiff, Nat.reduceAdd, Nat.reduceMul, Nat.reduceSub, Nat.reduceLeDiff, Nat.reduceLT, Nat.reducePow, Int.reduceToNat, Int.reduceLT, Int.reduceLE, Int.reduceEq, Int.reduceAdd, Int.reduceSub, Int.reduceNeg]
  have a3 : M3 (3 :: 0 :: 1 :: 1 :: 0 :: 4 :: 0 :: 1 :: 1 :: 1 :: 1 :: 0 :: s) = some (AObj.cells [V.int IntKind.i64 sn.index, V.int IntKind.i64 sn.term, V.int IntKind.i64 0, V.nils]) := by rw [← hM3]; simp (maxDischargeDepth := 80) only [push_cast, Nat.reduceBEq, reduceIte, reduceCtorEq, Nat.reduceEqDiff, Nat.reduceAdd, Nat.reduceMul, Nat.reduceSub, Nat.reduceLeDiff, Nat.reduceLT, Nat.reducePow, Int.reduceToNat, Int.reduceLT, Int.reduceLE, Int.reduceEq, Int.reduceAdd, Int.reduceSub, Int.reduceNeg]
  have a4 : M3 (7 :: 0 :: 1 :: 1 :: 1 :: 0 :: 6 :: 0 :: 1 :: 1 :: 0 :: s) = some (AObj.cells [V.int IntKind.i64 id, V.int IntKind.i64 pat, V.int IntKind.i64 t, V.int IntKind.i64 vo, vv, lv, V.int IntKind.i64 0, V.int IntKind.i64 0, V.int IntKind.i64 0, V.int IntKind.i64 pat, V.mapr (5 :: 0 :: 1 :: 1 :: 1 :: 0 :: 6 :: 0 :: 1 :: 1 :: 0 :: s)]) := by rw [← hM3]; simp (maxDischargeDepth := 80) only [push_cast, Nat.reduceBEq, reduceIte, reduceCtorEq, Nat.reduceEqDiff, Nat.reduceAdd, Nat.reduceMul, Nat.reduceSub, Nat.reduceLeDiff, Nat.reduceLT, Nat.reducePow, Int.reduceToNat, Int.reduceLT, Int.reduceLE, Int.reduceEq, Int.reduceAdd, Int.reduceSub, Int.reduceNeg]
  have a5 : M3 (0 :: 0 :: 0 :: s) = some (AObj.cells [V.int IntKind.i64 t, V.int IntKind.i64 vo]) := by rw [← hM3]; simp (maxDischargeDepth := 80) only [push_cast, Nat.reduceBEq, reduceIte, reduceCtorEq, Nat.reduceEqDiff, Nat.reduceAdd, Nat.reduceMul, Nat.reduceSub, Nat.reduceLeDiff, Nat.reduceLT, Nat.reducePow, Int.reduceToNat, Int.reduceLT, Int.reduceLE, Int.reduceEq, Int.reduceAdd, Int.reduceSub, Int.reduceNeg]
  have a6 : M3 (1 :: 0 :: 0 :: s) = some (AObj.cells [V.int IntKind.i64 sn.index, V.int IntKind.i64 sn.term, vv, lv, dataV sn.data]) := by rw [← hM3]; simp (maxDischargeDepth := 80) only [push_cast, Nat.reduceBEq, reduceIte, reduceCtorEq, Nat.reduceEqDiff, Nat.reduceAdd, Nat.reduceMul, Nat.reduceSub, Nat.reduceLeDiff, Nat.reduceLT, Nat.reducePow, Int.reduceToNat, Int.reduceLT, Int.reduceLE, Int.reduceEq, Int.reduceAdd, Int.reduceSub, Int.reduceNeg]
  have a7 : M3 (2 :: 0 :: 0 :: s) = some (AObj.cells [V.int IntKind.i64 pat, V.int IntKind.i64 window]) := by rw [← hM3]; simp (maxDischargeDepth := 80) only [push_cast, Nat.reduceBEq, reduceIte, reduceCtorEq, Nat.reduceEqDiff, Nat.reduceAdd, Nat.reduceMul, Nat.reduceSub, Nat.reduceLeDiff, Nat.reduceLT, Nat.reducePow, Int.reduceToNat, Int.reduceLT, Int.reduceLE, Int.reduceEq, Int.reduceAdd, Int.reduceSub, Int.reduceNeg]
  have a8 : FreshM (2 :: 0 :: 1 :: 0 :: 1 :: 1 :: 1 :: 1 :: 1 :: 0 :: s) M3 := by rw [← hM3]; simp (maxDischargeDepth := 80) only [push_cast, Nat.reduceBEq, reduceIte, reduceCtorEq, Nat.reduceEqDiff, Nat.reduceAdd, Nat.reduceMul, Nat.reduceSub, Nat.reduceLeDiff, Nat.reduceLT, Nat.reducePow, Int.reduceToNat, Int.reduceLT, Int.reduceLE, Int.reduceEq, Int.reduceAdd, Int.reduceSub, Int.reduceNeg, fresh_dn hM, fresh_at hM]
  have a9 : ∀ i, Off s i → M3 i = M i := fun i hi => by rw [← hM3]; simp (maxDischargeDepth := 80) only [push_cast, Nat.reduceBEq, reduceIte, reduceCtorEq, Nat.reduceEqDiff, Nat.reduceAdd, Nat.reduceMul, Nat.reduceSub, Nat.reduceLeDiff, Nat.reduceLT, Nat.reducePow, Int.reduceToNat, Int.reduceLT, Int.reduceLE, Int.reduceEq, Int.reduceAdd, Int.reduceSub, Int.reduceNeg, Off_ne hi]
  have hlg3 : LogAt M3 (7 :: 0 :: 1 :: 1 :: 0 :: 4 :: 0 :: 1 :: 1 :: 1 :: 1 :: 0 :: s) (3 :: 0 :: 1 :: 1 :: 0 :: 4 :: 0 :: 1 :: 1 :: 1 :: 1 :: 0 :: s) (V.sl (3 :: 0 :: 1 :: 1 :: 0 :: 4 :: 0 :: 1 :: 1 :: 1 :: 1 :: 0 :: s) 0 1 4 (some 1)) (Lg.start sn []) :=
    ⟨a2, ⟨some 1, rfl, .inr rfl⟩, a3, start_ok hr⟩
  obtain ⟨M4, h34, hpost⟩ := add_E (2 :: 0 :: 1 :: 0 :: 1 :: 1 :: 1 :: 1 :: 1 :: 0 :: s) a8 hlg3 (hwl.mono a1) (by simp only [Lg.start, List.length_singleton]; omega)
  rw [if_pos ha] at hpost
  obtain ⟨ia4, v4, hlg4, hfr4, hia4⟩ := hpost
  rw [ha] at h34
  have hst : (Lg.start sn []).addL l = Lg.start sn l := rfl
  rw [hst] at hlg4
  have b1 : ∀ i, Off s i → M4 i = M i := fun i hi => by
    rw [hfr4 i (Off_dn hi u3) (by
      simp only [List.mem_cons, List.not_mem_nil, or_false, not_or]
      exact ⟨fun q => hi (by rw [q]; exact (by simp (maxDischargeDepth := 80) only [push_cast, Nat.reduceBEq, reduceIte, reduceCtorEq, Nat.reduceEqDiff, Nat.reduceAdd, Nat.reduceMul, Nat.reduceSub, Nat.reduceLeDiff, Nat.reduceLT, Nat.reducePow, Int.reduceToNat, Int.reduceLT, Int.reduceLE, Int.reduceEq, Int.reduceAdd, Int.reduceSub, Int.reduceNeg] : Un s (7 :: 0 :: 1 :: 1 :: 0 :: 4 :: 0 :: 1 :: 1 :: 1 :: 1 :: 0 :: s))), fun q => hi (by rw [q]; exact (by simp (maxDischargeDepth := 80) only [push_cast, Nat.reduceBEq, reduceIte, reduceCtorEq, Nat.reduceEqDiff, Nat.reduceAdd, Nat.reduceMul, Nat.reduceSub, Nat.reduceLeDiff, Nat.reduceLT, Nat.reducePow, Int.reduceToNat, Int.reduceLT, Int.reduceLE, Int.reduceEq, Int.reduceAdd, Int.reduceSub, Int.reduceNeg] : Un s (3 :: 0 :: 1 :: 1 :: 0 :: 4 :: 0 :: 1 :: 1 :: 1 :: 1 :: 0 :: s)))⟩), a9 i hi]
  have b2 : Sub M M4 := fun i o q => (b1 i (Off_of hM q)).trans q
  have b4 : M4 (7 :: 0 :: 1 :: 1 :: 1 :: 0 :: 6 :: 0 :: 1 :: 1 :: 0 :: s) = _ := (hfr4 _ (by simp (maxDischargeDepth := 80) only [push_cast, Nat.reduceBEq, reduceIte, reduceCtorEq, Nat.reduceEqDiff, Nat.reduceAdd, Nat.reduceMul, Nat.reduceSub, Nat.reduceLeDiff, Nat.reduceLT, Nat.reducePow, Int.reduceToNat, Int.reduceLT, Int.reduceLE, Int.reduceEq, Int.reduceAdd, Int.reduceSub, Int.reduceNeg]) (by simp (maxDischargeDepth := 80) only [push_cast, Nat.reduceBEq, reduceIte, reduceCtorEq, Nat.reduceEqDiff, Nat.reduceAdd, Nat.reduceMul, Nat.reduceSub, Nat.reduceLeDiff, Nat.reduceLT, Nat.reducePow, Int.reduceToNat, Int.reduceLT, Int.reduceLE, Int.reduceEq, Int.reduceAdd, Int.reduceSub, Int.reduceNeg])).trans a4
  have b5 : M4 (0 :: 0 :: 0 :: s) = _ := (hfr4 _ (by simp (maxDischargeDepth := 80) only [push_cast, Nat.reduceBEq, reduceIte, reduceCtorEq, Nat.reduceEqDiff, Nat.reduceAdd, Nat.reduceMul, Nat.reduceSub, Nat.reduceLeDiff, Nat.reduceLT, Nat.reducePow, Int.reduceToNat, Int.reduceLT, Int.reduceLE, Int.reduceEq, Int.reduceAdd, Int.reduceSub, Int.reduceNeg]) (by simp (maxDischargeDepth := 80) only [push_cast, Nat.reduceBEq, reduceIte, reduceCtorEq, Nat.reduceEqDiff, Nat.reduceAdd, Nat.reduceMul, Nat.reduceSub, Nat.reduceLeDiff, Nat.reduceLT, Nat.reducePow, Int.reduceToNat, Int.reduceLT, Int.reduceLE, Int.reduceEq, Int.reduceAdd, Int.reduceSub, Int.reduceNeg])).trans a5
  have b6 : M4 (1 :: 0 :: 0 :: s) = _ := (hfr4 _ (by simp (maxDischargeDepth := 80) only [push_cast, Nat.reduceBEq, reduceIte, reduceCtorEq, Nat.reduceEqDiff, Nat.reduceAdd, Nat.reduceMul, Nat.reduceSub, Nat.reduceLeDiff, Nat.reduceLT, Nat.reducePow, Int.reduceToNat, Int.reduceLT, Int.reduceLE, Int.reduceEq, Int.reduceAdd, Int.reduceSub, Int.reduceNeg]) (by simp (maxDischargeDepth := 80) only [push_cast, Nat.reduceBEq, reduceIte, reduceCtorEq, Nat.reduceEqDiff, Nat.reduceAdd, Nat.reduceMul, Nat.reduceSub, Nat.reduceLeDiff, Nat.reduceLT, Nat.reducePow, Int.reduceToNat, Int.reduceLT, Int.reduceLE, Int.reduceEq, Int.reduceAdd, Int.reduceSub, Int.reduceNeg])).trans a6
  have b7 : M4 (2 :: 0 :: 0 :: s) = _ := (hfr4 _ (by simp (maxDischargeDepth := 80) only [push_cast, Nat.reduceBEq, reduceIte, reduceCtorEq, Nat.reduceEqDiff, Nat.reduceAdd, Nat.reduceMul, Nat.reduceSub, Nat.reduceLeDiff, Nat.reduceLT, Nat.reducePow, Int.reduceToNat, Int.reduceLT, Int.reduceLE, Int.reduceEq, Int.reduceAdd, Int.reduceSub, Int.reduceNeg]) (by simp (maxDischargeDepth := 80) only [push_cast, Nat.reduceBEq, reduceIte, reduceCtorEq, Nat.reduceEqDiff, Nat.reduceAdd, Nat.reduceMul, Nat.reduceSub, Nat.reduceLeDiff, Nat.reduceLT, Nat.reducePow, Int.reduceToNat, Int.reduceLT, Int.reduceLE, Int.reduceEq, Int.reduceAdd, Int.reduceSub, Int.reduceNeg])).trans a7
  have hfm : ∀ u, Un s u → Off (2 :: 0 :: 1 :: 0 :: 1 :: 1 :: 1 :: 1 :: 1 :: 0 :: s) u → Off u (2 :: 0 :: 1 :: 0 :: 1 :: 1 :: 1 :: 1 :: 1 :: 0 :: s) → FreshM u M3 → Off u (7 :: 0 :: 1 :: 1 :: 0 :: 4 :: 0 :: 1 :: 1 :: 1 :: 1 :: 0 :: s) → Off u (3 :: 0 :: 1 :: 1 :: 0 :: 4 :: 0 :: 1 :: 1 :: 1 :: 1 :: 0 :: s) → FreshM u M4 := fun u hu h1 h2 h3 h4 h5 =>
    hfr4.fr h3 h1 h2 (fun x hx => by simp only [List.mem_cons, List.not_mem_nil, or_false] at hx; rcases hx with rfl | rfl <;> assumption)
  have c1 : FreshM (9 :: 0 :: 1 :: 1 :: 1 :: 1 :: 1 :: 1 :: 1 :: 0 :: s) M4 := hfm _ u4 (by simp (maxDischargeDepth := 80) only [push_cast, Nat.reduceBEq, reduceIte, reduceCtorEq, Nat.reduceEqDiff, Nat.reduceAdd, Nat.reduceMul, Nat.reduceSub, Nat.reduceLeDiff, Nat.reduceLT, Nat.reducePow, Int.reduceToNat, Int.reduceLT, Int.reduceLE, Int.reduceEq, Int.reduceAdd, Int.reduceSub, Int.reduceNeg]) (by simp (maxDischargeDepth := 80) only [push_cast, Nat.reduceBEq, reduceIte, reduceCtorEq, Nat.reduceEqDiff, Nat.reduceAdd, Nat.reduceMul, Nat.reduceSub, Nat.reduceLeDiff, Nat.reduceLT, Nat.reducePow, Int.reduceToNat, Int.reduceLT, Int.reduceLE, Int.reduceEq, Int.reduceAdd, Int.reduceSub, Int.reduceNeg]) (by rw [← hM3]; simp (maxDischargeDepth := 80) only [push_cast, Nat.reduceBEq, reduceIte, reduceCtorEq, Nat.reduceEqDiff, Nat.reduceAdd, Nat.reduceMul, Nat.reduceSub, Nat.reduceLeDiff, Nat.reduceLT, Nat.reducePow, Int.reduceToNat, Int.reduceLT, Int.reduceLE, Int.reduceEq, Int.reduceAdd, Int.reduceSub, Int.reduceNeg, fresh_dn hM, fresh_at hM]) (by simp (maxDischargeDepth := 80) only [push_cast, Nat.reduceBEq, reduceIte, reduceCtorEq, Nat.reduceEqDiff, Nat.reduceAdd, Nat.reduceMul, Nat.reduceSub, Nat.reduceLeDiff, Nat.reduceLT, Nat.reducePow, Int.reduceToNat, Int.reduceLT, Int.reduceLE, Int.reduceEq, Int.reduceAdd, Int.reduceSub, Int.reduceNeg]) (by simp (maxDischargeDepth := 80) only [push_cast, Nat.reduceBEq, reduceIte, reduceCtorEq, Nat.reduceEqDiff, Nat.reduceAdd, Nat.reduceMul, Nat.reduceSub, Nat.reduceLeDiff, Nat.reduceLT, Nat.reducePow, Int.reduceToNat, Int.reduceLT, Int.reduceLE, Int.reduceEq, Int.reduceAdd, Int.reduceSub, Int.reduceNeg])
  have c2 : FreshM (1 :: 0 :: 1 :: 1 :: 1 :: 1 :: 1 :: 1 :: 1 :: 1 :: 0 :: s) M4 := hfm _ u5 (by simp (maxDischargeDepth := 80) only [push_cast, Nat.reduceBEq, reduceIte, reduceCtorEq, Nat.reduceEqDiff, Nat.reduceAdd, Nat.reduceMul, Nat.reduceSub, Nat.reduceLeDiff, Nat.reduceLT, Nat.reducePow, Int.reduceToNat, Int.reduceLT, Int.reduceLE, Int.reduceEq, Int.reduceAdd, Int.reduceSub, Int.reduceNeg]) (by simp (maxDischargeDepth := 80) only [push_cast, Nat.reduceBEq, reduceIte, reduceCtorEq, Nat.reduceEqDiff, Nat.reduceAdd, Nat.reduceMul, Nat.reduceSub, Nat.reduceLeDiff, Nat.reduceLT, Nat.reducePow, Int.reduceToNat, Int.reduceLT, Int.reduceLE, Int.reduceEq, Int.reduceAdd, Int.reduceSub, Int.reduceNeg]) (by rw [← hM3]; simp (maxDischargeDepth := 80) only [push_cast, Nat.reduceBEq, reduceIte, reduceCtorEq, Nat.reduceEqDiff, Nat.reduceAdd, Nat.reduceMul, Nat.reduceSub, Nat.reduceLeDiff, Nat.reduceLT, Nat.reducePow, Int.reduceToNat, Int.reduceLT, Int.reduceLE, Int.reduceEq, Int.reduceAdd, Int.reduceSub, Int.reduceNeg, fresh_dn hM, fresh_at hM]) (by simp (maxDischargeDepth := 80) only [push_cast, Nat.reduceBEq, reduceIte, reduceCtorEq, Nat.reduceEqDiff, Nat.reduceAdd, Nat.reduceMul, Nat.reduceSub, Nat.reduceLeDiff, Nat.reduceLT, Nat.reducePow, Int.reduceToNat, Int.reduceLT, Int.reduceLE, Int.reduceEq, Int.reduceAdd, Int.reduceSub, Int.reduceNeg]) (by simp (maxDischargeDepth := 80) only [push_cast, Nat.reduceBEq, reduceIte, reduceCtorEq, Nat.reduceEqDiff, Nat.reduceAdd, Nat.reduceMul, Nat.reduceSub, Nat.reduceLeDiff, Nat.reduceLT, Nat.reducePow, Int.reduceToNat, Int.reduceLT, Int.reduceLE, Int.reduceEq, Int.reduceAdd, Int.reduceSub, Int.reduceNeg])
  have c3 : FreshM (6 :: 0 :: 1 :: 1 :: 1 :: 1 :: 1 :: 1 :: 1 :: 0 :: s) M4 := hfm _ (by simp (maxDischargeDepth := 80) only [push_cast, Nat.reduceBEq, reduceIte, reduceCtorEq, Nat.reduceEqDiff, Nat.reduceAdd, Nat.reduceMul, Nat.reduceSub, Nat.reduceLeDiff, Nat.reduceLT, Nat.reducePow, Int.reduceToNat, Int.reduceLT, Int.reduceLE, Int.reduceEq, Int.reduceAdd, Int.reduceSub, Int.reduceNeg]) (by simp (maxDischargeDepth := 80) only [push_cast, Nat.reduceBEq, reduceIte, reduceCtorEq, Nat.reduceEqDiff, Nat.reduceAdd, Nat.reduceMul, Nat.reduceSub, Nat.reduceLeDiff, Nat.reduceLT, Nat.reducePow, Int.reduceToNat, Int.reduceLT, Int.reduceLE, Int.reduceEq, Int.reduceAdd, Int.reduceSub, Int.reduceNeg]) (by simp (maxDischargeDepth := 80) only [push_cast, Nat.reduceBEq, reduceIte, reduceCtorEq, Nat.reduceEqDiff, Nat.reduceAdd, Nat.reduceMul, Nat.reduceSub, Nat.reduceLeDiff, Nat.reduceLT, Nat.reducePow, Int.reduceToNat, Int.reduceLT, Int.reduceLE, Int.reduceEq, Int.reduceAdd, Int.reduceSub, Int.reduceNeg]) (by rw [← hM3]; simp (maxDischargeDepth := 80) only [push_cast, Nat.reduceBEq, reduceIte, reduceCtorEq, Nat.reduceEqDiff, Nat.reduceAdd, Nat.reduceMul, Nat.reduceSub, Nat.reduceLeDiff, Nat.reduceLT, Nat.reducePow, Int.reduceToNat, Int.reduceLT, Int.reduceLE, Int.reduceEq, Int.reduceAdd, Int.reduceSub, Int.reduceNeg, fresh_dn hM, fresh_at hM]) (by simp (maxDischargeDepth := 80) only [push_cast, Nat.reduceBEq, reduceIte, reduceCtorEq, Nat.reduceEqDiff, Nat.reduceAdd, Nat.reduceMul, Nat.reduceSub, Nat.reduceLeDiff, Nat.reduceLT, Nat.reducePow, Int.reduceToNat, Int.reduceLT, Int.reduceLE, Int.reduceEq, Int.reduceAdd, Int.reduceSub, Int.reduceNeg]) (by simp (maxDischargeDepth := 80) only [push_cast, Nat.reduceBEq, reduceIte, reduceCtorEq, Nat.reduceEqDiff, Nat.reduceAdd, Nat.reduceMul, Nat.reduceSub, Nat.reduceLeDiff, Nat.reduceLT, Nat.reducePow, Int.reduceToNat, Int.reduceLT, Int.reduceLE, Int.reduceEq, Int.reduceAdd, Int.reduceSub, Int.reduceNeg])
  have r35 := copied_snap_E vv lv (dataV sn.data) sn _ M4 c3 (h.mono b2)
  have hp5 : ∀ i o, M4 i = some o → (i = 9 :: 0 :: 1 :: 1 :: 1 :: 1 :: 1 :: 1 :: 1 :: 0 :: s) = False := fun i o q => eq_false (fun e => by rw [e, c1 _ (List.suffix_refl _)] at q; cases q)
  have hd0 : (⟨7 :: 0 :: 1 :: 1 :: 1 :: 0 :: 6 :: 0 :: 1 :: 1 :: 0 :: s, id, window, 7 :: 0 :: 1 :: 1 :: 0 :: 4 :: 0 :: 1 :: 1 :: 1 :: 1 :: 0 :: s, sn, none, none, .nilm, .nils, 0, t, vo, false, 0, .nils, .nils⟩ : Nd).cs = [.ptr (7 :: 0 :: 1 :: 1 :: 1 :: 0 :: 6 :: 0 :: 1 :: 1 :: 0 :: s) 0, .int .i64 id, .int .i64 window, .ptr (7 :: 0 :: 1 :: 1 :: 0 :: 4 :: 0 :: 1 :: 1 :: 1 :: 1 :: 0 :: s) 0, .int .i64 sn.index, .int .i64 sn.term, intsV sn.vs, intsV sn.ls, dataV sn.data, .nils, .nils, .nilm, .nils, .int .i64 0, .int .i64 t, .int .i64 vo,
    .bool false, .int .i64 0, .int .i64 0, .bool false, .int .i64 0, .int .i64 0, .nils, .nils, .nils, .int .i64 0, .nils, .nils] := rfl
  have hel := hp5 _ _ b4
  have hel2 := hp5 _ _ hlg4.obj
  have hel3 := hp5 _ _ hlg4.arr
  have hNA : NodeAt (M4.set (9 :: 0 :: 1 :: 1 :: 1 :: 1 :: 1 :: 1 :: 1 :: 0 :: s) (.cells (⟨7 :: 0 :: 1 :: 1 :: 1 :: 0 :: 6 :: 0 :: 1 :: 1 :: 0 :: s, id, window, 7 :: 0 :: 1 :: 1 :: 0 :: 4 :: 0 :: 1 :: 1 :: 1 :: 1 :: 0 :: s, sn, none, none, .nilm, .nils, 0, t, vo, false, 0, .nils, .nils⟩ : Nd).cs)) (9 :: 0 :: 1 :: 1 :: 1 :: 1 :: 1 :: 1 :: 1 :: 0 :: s)
      ⟨7 :: 0 :: 1 :: 1 :: 1 :: 0 :: 6 :: 0 :: 1 :: 1 :: 0 :: s, id, window, 7 :: 0 :: 1 :: 1 :: 0 :: 4 :: 0 :: 1 :: 1 :: 1 :: 1 :: 0 :: s, sn, none, none, .nilm, .nils, 0, t, vo, false, 0, .nils, .nils⟩ ⟨id, pat, t, vo, vv, lv, 0, 0, 0, pat, .mapr (5 :: 0 :: 1 :: 1 :: 1 :: 0 :: 6 :: 0 :: 1 :: 1 :: 0 :: s)⟩ ia4 v4 (Lg.start sn l) :=
    ⟨by simp (maxDischargeDepth := 80) only [push_cast, Nat.reduceBEq, reduceIte, reduceCtorEq, Nat.reduceEqDiff, Nat.reduceAdd, Nat.reduceMul, Nat.reduceSub, Nat.reduceLeDiff, Nat.reduceLT, Nat.reducePow, Int.reduceToNat, Int.reduceLT, Int.reduceLE, Int.reduceEq, Int.reduceAdd, Int.reduceSub, Int.reduceNeg], by simp (maxDischargeDepth := 80) only [push_cast, Nat.reduceBEq, reduceIte, reduceCtorEq, Nat.reduceEqDiff, Nat.reduceAdd, Nat.reduceMul, Nat.reduceSub, Nat.reduceLeDiff, Nat.reduceLT, Nat.reducePow, Int.reduceToNat, Int.reduceLT, Int.reduceLE, Int.reduceEq, Int.reduceAdd, Int.reduceSub, Int.reduceNeg, b4, hel, Elc.cs_eq], hlg4.frame (by simp (maxDischargeDepth := 80) only [push_cast, Nat.reduceBEq, reduceIte, reduceCtorEq, Nat.reduceEqDiff, Nat.reduceAdd, Nat.reduceMul, Nat.reduceSub, Nat.reduceLeDiff, Nat.reduceLT, Nat.reducePow, Int.reduceToNat, Int.reduceLT, Int.reduceLE, Int.reduceEq, Int.reduceAdd, Int.reduceSub, Int.reduceNeg, hel2]) (by simp (maxDischargeDepth := 80) only [push_cast, Nat.reduceBEq, reduceIte, reduceCtorEq, Nat.reduceEqDiff, Nat.reduceAdd, Nat.reduceMul, Nat.reduceSub, Nat.reduceLeDiff, Nat.reduceLT, Nat.reducePow, Int.reduceToNat, Int.reduceLT, Int.reduceLE, Int.reduceEq, Int.reduceAdd, Int.reduceSub, Int.reduceNeg, hel3])⟩
  obtain ⟨M6, g1, g2, g3, g4⟩ := regroupF_E chg P (1 :: 0 :: 1 :: 1 :: 1 :: 1 :: 1 :: 1 :: 1 :: 1 :: 0 :: s) (by simp (maxDischargeDepth := 80) only [push_cast, Nat.reduceBEq, reduceIte, reduceCtorEq, Nat.reduceEqDiff, Nat.reduceAdd, Nat.reduceMul, Nat.reduceSub, Nat.reduceLeDiff, Nat.reduceLT, Nat.reducePow, Int.reduceToNat, Int.reduceLT, Int.reduceLE, Int.reduceEq, Int.reduceAdd, Int.reduceSub, Int.reduceNeg, fresh_dn c2]) hNA ⟨rfl, rfl, rfl, rfl, rfl, rfl, rfl, rfl⟩ hc hP (show (0 : Int) ≠ 3 by decide) gr hgr hri hs1 hs2
  have hu4a : ia4 = 3 :: 0 :: 1 :: 1 :: 0 :: 4 :: 0 :: 1 :: 1 :: 1 :: 1 :: 0 :: s ∨ Un (2 :: 0 :: 1 :: 0 :: 1 :: 1 :: 1 :: 1 :: 1 :: 0 :: s) ia4 := hia4
  refine ⟨(M6, 9 :: 0 :: 1 :: 1 :: 1 :: 1 :: 1 :: 1 :: 1 :: 0 :: s, 7 :: 0 :: 1 :: 1 :: 1 :: 0 :: 6 :: 0 :: 1 :: 1 :: 0 :: s, 7 :: 0 :: 1 :: 1 :: 0 :: 4 :: 0 :: 1 :: 1 :: 1 :: 1 :: 0 :: s, ia4, v4, 5 :: 0 :: 1 :: 1 :: 1 :: 0 :: 6 :: 0 :: 1 :: 1 :: 0 :: s), ?_, ⟨g2, g3, ?_⟩, ?_, u4, by simp (maxDischargeDepth := 80) only [push_cast, Nat.reduceBEq, reduceIte, reduceCtorEq, Nat.reduceEqDiff, Nat.reduceAdd, Nat.reduceMul, Nat.reduceSub, Nat.reduceLeDiff, Nat.reduceLT, Nat.reducePow, Int.reduceToNat, Int.reduceLT, Int.reduceLE, Int.reduceEq, Int.reduceAdd, Int.reduceSub, Int.reduceNeg], by simp (maxDischargeDepth := 80) only [push_cast, Nat.reduceBEq, reduceIte, reduceCtorEq, Nat.reduceEqDiff, Nat.reduceAdd, Nat.reduceMul, Nat.reduceSub, Nat.reduceLeDiff, Nat.reduceLT, Nat.reducePow, Int.reduceToNat, Int.reduceLT, Int.reduceLE, Int.reduceEq, Int.reduceAdd, Int.reduceSub, Int.reduceNeg], ?_⟩
  · simp only [hd0] at g1
    rw [Fn_body Tryz.func9 (by decide) rfl rfl]
    simp (maxDischargeDepth := 80) only [push_cast, Nat.reduceBEq, reduceIte, reduceCtorEq, Nat.reduceEqDiff, Nat.reduceAdd, Nat.reduceMul, Nat.reduceSub, Nat.reduceLeDiff, Nat.reduceLT, Nat.reducePow, Int.reduceToNat, Int.reduceLT, Int.reduceLE, Int.reduceEq, Int.reduceAdd, Int.reduceSub, Int.reduceNeg, h.v.one, h.v.cells, h.l.one, h.l.cells, one_data, data_cells, intsV_one, intsV_cells, Snp.cs_eq, r1, r2, r3, hr, w1, w2, hM3, h34, b4, b5, b6, b7, r35, g1, fresh_dn hM, fresh_at hM]
  · have hx := hNA.lg
    exact hx.frame (g4 _ (Off_of (by simp (maxDischargeDepth := 80) only [push_cast, Nat.reduceBEq, reduceIte, reduceCtorEq, Nat.reduceEqDiff, Nat.reduceAdd, Nat.reduceMul, Nat.reduceSub, Nat.reduceLeDiff, Nat.reduceLT, Nat.reducePow, Int.reduceToNat, Int.reduceLT, Int.reduceLE, Int.reduceEq, Int.reduceAdd, Int.reduceSub, Int.reduceNeg, fresh_dn c2]) hx.obj) (by simp [Ne.symm hNA.ne2, Ne.symm hNA.ne3])) (g4 _ (Off_of (by simp (maxDischargeDepth := 80) only [push_cast, Nat.reduceBEq, reduceIte, reduceCtorEq, Nat.reduceEqDiff, Nat.reduceAdd, Nat.reduceMul, Nat.reduceSub, Nat.reduceLeDiff, Nat.reduceLT, Nat.reducePow, Int.reduceToNat, Int.reduceLT, Int.reduceLE, Int.reduceEq, Int.reduceAdd, Int.reduceSub, Int.reduceNeg, fresh_dn c2]) hx.arr) (by simp [Ne.symm hNA.ne5, Ne.symm hNA.ne4]))
  · intro i hi _
    have n1 : ¬ i = 9 :: 0 :: 1 :: 1 :: 1 :: 1 :: 1 :: 1 :: 1 :: 0 :: s := fun e => hi (e ▸ u4)
    have n2 : ¬ i = 7 :: 0 :: 1 :: 1 :: 1 :: 0 :: 6 :: 0 :: 1 :: 1 :: 0 :: s := fun e => hi (e ▸ (by simp (maxDischargeDepth := 80) only [push_cast, Nat.reduceBEq, reduceIte, reduceCtorEq, Nat.reduceEqDiff, Nat.reduceAdd, Nat.reduceMul, Nat.reduceSub, Nat.reduceLeDiff, Nat.reduceLT, Nat.reducePow, Int.reduceToNat, Int.reduceLT, Int.reduceLE, Int.reduceEq, Int.reduceAdd, Int.reduceSub, Int.reduceNeg] : Un s (7 :: 0 :: 1 :: 1 :: 1 :: 0 :: 6 :: 0 :: 1 :: 1 :: 0 :: s)))
    show M6 i = M i
    rw [g4 i (Off_dn hi u5) (by simp [n1, n2])]
    simp (maxDischargeDepth := 80) only [push_cast, Nat.reduceBEq, reduceIte, reduceCtorEq, Nat.reduceEqDiff, Nat.reduceAdd, Nat.reduceMul, Nat.reduceSub, Nat.reduceLeDiff, Nat.reduceLT, Nat.reducePow, Int.reduceToNat, Int.reduceLT, Int.reduceLE, Int.reduceEq, Int.reduceAdd, Int.reduceSub, Int.reduceNeg, n1, b1 i hi]
  · show Un s ia4
    rcases hia4 with q | q
    · rw [q]; simp (maxDischargeDepth := 80) only [push_cast, Nat.reduceBEq, reduceIte, reduceCtorEq, Nat.reduceEqDiff, Nat.reduceAdd, Nat.reduceMul, Nat.reduceSub, Nat.reduceLeDiff, Nat.reduceLT, Nat.reducePow, Int.reduceToNat, Int.reduceLT, Int.reduceLE, Int.reduceEq, Int.reduceAdd, Int.reduceSub, Int.reduceNeg]
    · exact List.IsSuffix.trans u3 q
end Go.Ab.R
