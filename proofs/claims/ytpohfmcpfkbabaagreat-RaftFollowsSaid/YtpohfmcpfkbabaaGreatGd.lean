/- The node finds its group anew. Conditions: none. -/
import Derived.Test.YtpohfmcpfkbabaaGreatGc
set_option linter.unusedSimpArgs false
set_option linter.unusedVariables false
namespace Go.Ab.R
open Go Go.Proofs
set_option maxRecDepth 100000

structure NdOk (d : Nd) : Prop where
  p1 : d.peers.one = true
  p2 : d.peers.cells = [d.peers]
  r1 : d.reads.one = true
  r2 : d.reads.cells = [d.reads]
  m1 : d.msgs.one = true
  m2 : d.msgs.cells = [d.msgs]
  e1 : d.rds.one = true
  e2 : d.rds.cells = [d.rds]

structure NodeAt (M : Mem) (p : Id) (d : Nd) (e : Elc) (ia : Id) (v : V) (g : Lg) : Prop where
  obj : M p = some (.cells d.cs)
  el : M d.ie = some (.cells e.cs)
  lg : LogAt M d.il ia v g

theorem NodeAt.ne1 {M p d e ia v g} (h : NodeAt M p d e ia v g) : p ≠ d.ie := by
  intro q
  have := h.el
  rw [← q, h.obj] at this
  simp only [Option.some.injEq, AObj.cells.injEq] at this
  have := congrArg List.length this
  simp [Nd.cs, Elc.cs] at this
theorem NodeAt.ne2 {M p d e ia v g} (h : NodeAt M p d e ia v g) : p ≠ d.il := by
  intro q
  have := h.lg.obj
  rw [← q, h.obj] at this
  simp only [Option.some.injEq, AObj.cells.injEq] at this
  have := congrArg List.length this
  simp [Nd.cs] at this
theorem NodeAt.ne3 {M p d e ia v g} (h : NodeAt M p d e ia v g) : d.ie ≠ d.il := by
  intro q
  have := h.lg.obj
  rw [← q, h.el] at this
  simp only [Option.some.injEq, AObj.cells.injEq] at this
  have := congrArg List.length this
  simp [Elc.cs] at this
theorem LogAt.ne {M il ia v g} (h : LogAt M il ia v g) : il ≠ ia := by
  rintro rfl
  have := h.obj.symm.trans h.arr
  simp only [Option.some.injEq, AObj.cells.injEq] at this
  have := congrArg List.length this
  rw [flatE_len] at this; simp at this; omega
theorem NodeAt.ne4 {M p d e ia v g} (h : NodeAt M p d e ia v g) : d.ie ≠ ia := by
  intro q
  have := h.lg.arr
  rw [← q, h.el] at this
  simp only [Option.some.injEq, AObj.cells.injEq] at this
  have := congrArg List.length this
  rw [flatE_len] at this
  simp [Elc.cs] at this; omega
theorem NodeAt.ne5 {M p d e ia v g} (h : NodeAt M p d e ia v g) : p ≠ ia := by
  intro q
  have := h.lg.arr
  rw [← q, h.obj] at this
  simp only [Option.some.injEq, AObj.cells.injEq] at this
  have hne := h.lg.ok.ne
  cases hg : g.ents with
  | nil => rw [hg] at hne; simp at hne
  | cons x l => rw [hg, flatE_cons] at this; simp [Nd.cs, Ent.cells] at this

theorem LogAt.frame {M M' il ia v g} (h : LogAt M il ia v g) (h1 : M' il = M il) (h2 : M' ia = M ia) : LogAt M' il ia v g := ⟨h1.trans h.obj, h.shape, h2.trans h.arr, h.ok⟩

theorem regroupF_E {M : Mem} {p ia : Id} {v : V} {g : Lg} {d : Nd} {e : Elc} (chg : Grp → Ent → Grp) (P : Grp → Prop) (s : Id) (hM : FreshM s M) (h : NodeAt M p d e ia v g) (hok : NdOk d)
    (hc : ChgE chg P g.ents) (hP : P (d.sn.vs, d.sn.ls)) (hr : e.role ≠ 3) (gr : Grp) (hgr : groupL chg d.sn.index (d.sn.vs, d.sn.ls) (g.get (g.base + 1) (g.last - g.base)) = gr) (hri : rightL (intsL gr.1) (intsL gr.2) = true)
    (hs1 : (intsL gr.1).length < 2 ^ 40) (hs2 : (intsL gr.2).length < 2 ^ 40) :
    ∃ M', Fn env false 36 [.ptr p 0] s M = some (.tup [], M') ∧ M' p = some (.cells (Nd.cs { d with gvs := gr.1, gls := gr.2, peers := .nilm })) ∧ M' d.ie = some (.cells (Elc.cs { e with vv := intsV gr.1, lv := intsV gr.2 })) ∧ FrM s [p, d.ie] M M' := by
  have hlo := h.lg.ok.lo
  have hhi := h.lg.ok.hi
  have hne := h.lg.ok.ne
  have hl : g.last = g.base + g.ents.length - 1 := rfl
  have hobj := h.obj
  have hel := h.el
  have e1 := eq_false h.ne1
  have e2 := eq_false (Ne.symm h.ne1)
  have hr' : (e.role = 3) = False := eq_false hr
  have r1 := fun s' M' (q1 : FreshM s' M') (q2 : Sub M M') => last_E s' M' q1 (h.lg.mono q2)
  have r2 := fun s' M' (q1 : FreshM s' M') (q2 : Sub M M') => groupAt_E (i := g.last) chg P s' q1 (q2 _ _ h.obj) (h.lg.mono q2) hc hP (by omega) (by omega)
  rw [hgr] at r2
  have r3 := fun s' M' (q1 : FreshM s' M') (q2 : M' d.ie = some (.cells e.cs)) => join_E (intsV gr.1) (intsV gr.2) (intsL gr.1) (intsL gr.2) s' q1 q2 (RdI_ints M' gr.1 (by omega)) (RdI_ints M' gr.2 (by omega))
  have r4 := fun s' M' (q1 : FreshM s' M') (q2 : M' d.ie = some (.cells (Elc.cs { e with vv := intsV gr.1, lv := intsV gr.2 }))) => role_E s' q1 q2
  simp only [Elc.cs_eq, Nd.cs_eq] at hobj hel r3 r4
  simp only [Elc.cs_eq, Nd.cs_eq]
  refine ⟨?_, ?a, ?b, ?c, ?dd⟩
  case a =>
    rw [Fn_body Tryz.func36 (by decide) rfl rfl]
    simp (maxDischargeDepth := 80) only [push_cast, Nat.reduceBEq, reduceIte, reduceCtorEq, Nat.reduceEqDiff, Nat.reduceAdd, Nat.reduceMul, Nat.reduceSub, Nat.reduceLeDiff, Nat.reduceLT, Nat.reducePow, Int.reduceToNat, Int.reduceLT, Int.reduceLE, Int.reduceEq, Int.reduceAdd, Int.reduceSub, Int.reduceNeg, hobj, Off_dn (Off_of hM hobj), Off_ne (Off_of hM hobj), Off_ne' (Off_of hM hobj), hel, Off_dn (Off_of hM hel), Off_ne (Off_of hM hel), Off_ne' (Off_of hM hel), r1, r2, r3, r4, hri, hr', e1, e2, intsV_one, intsV_cells, fresh_dn hM, fresh_at hM]
    rfl
  case b => simp (maxDischargeDepth := 80) only [push_cast, Nat.reduceBEq, reduceIte, reduceCtorEq, Nat.reduceEqDiff, Nat.reduceAdd, Nat.reduceMul, Nat.reduceSub, Nat.reduceLeDiff, Nat.reduceLT, Nat.reducePow, Int.reduceToNat, Int.reduceLT, Int.reduceLE, Int.reduceEq, Int.reduceAdd, Int.reduceSub, Int.reduceNeg, hobj, Off_dn (Off_of hM hobj), Off_ne (Off_of hM hobj), Off_ne' (Off_of hM hobj), hel, Off_dn (Off_of hM hel), Off_ne (Off_of hM hel), Off_ne' (Off_of hM hel), e1, e2, fresh_dn hM, fresh_at hM]
  case c => simp (maxDischargeDepth := 80) only [push_cast, Nat.reduceBEq, reduceIte, reduceCtorEq, Nat.reduceEqDiff, Nat.reduceAdd, Nat.reduceMul, Nat.reduceSub, Nat.reduceLeDiff, Nat.reduceLT, Nat.reducePow, Int.reduceToNat, Int.reduceLT, Int.reduceLE, Int.reduceEq, Int.reduceAdd, Int.reduceSub, Int.reduceNeg, hobj, Off_dn (Off_of hM hobj), Off_ne (Off_of hM hobj), Off_ne' (Off_of hM hobj), hel, Off_dn (Off_of hM hel), Off_ne (Off_of hM hel), Off_ne' (Off_of hM hel), e1, e2, fresh_dn hM, fresh_at hM]
  case dd =>
    intro i hi hx
    have h1 : (i = p) = False := eq_false (fun e => hx (by simp [e]))
    have h2 : (i = d.ie) = False := eq_false (fun e => hx (by simp [e]))
    simp (maxDischargeDepth := 80) only [push_cast, Nat.reduceBEq, reduceIte, reduceCtorEq, Nat.reduceEqDiff, Nat.reduceAdd, Nat.reduceMul, Nat.reduceSub, Nat.reduceLeDiff, Nat.reduceLT, Nat.reducePow, Int.reduceToNat, Int.reduceLT, Int.reduceLE, Int.reduceEq, Int.reduceAdd, Int.reduceSub, Int.reduceNeg, h1, h2, Off_ne hi]

/-- a leader that is alone -/
theorem regroupL_E {M : Mem} {p ia : Id} {v : V} {g : Lg} {d : Nd} {e : Elc} (chg : Grp → Ent → Grp) (P : Grp → Prop) (s : Id) (hM : FreshM s M) (h : NodeAt M p d e ia v g) (hok : NdOk d)
    (hc : ChgE chg P g.ents) (hP : P (d.sn.vs, d.sn.ls)) (hr : e.role = 3) (hgr : groupL chg d.sn.index (d.sn.vs, d.sn.ls) (g.get (g.base + 1) (g.last - g.base)) = (some [d.id], none)) (hri : rightL [d.id] [] = true)
    (hpe : d.peers = .nilm ∨ ∃ im, d.peers = .mapr im ∧ M im = some (.map [])) :
    ∃ x : Mem × Id, Fn env false 36 [.ptr p 0] s M = some (.tup [], x.1) ∧ x.1 p = some (.cells (Nd.cs { d with gvs := some [d.id], gls := none, peers := .mapr x.2 })) ∧ x.1 d.ie = some (.cells (Elc.cs { e with vv := intsV (some [d.id]), lv := .nils })) ∧ x.1 x.2 = some (.map []) ∧ Un s x.2 ∧ FrM s [p, d.ie] M x.1 := by
  have hlo := h.lg.ok.lo
  have hhi := h.lg.ok.hi
  have hne := h.lg.ok.ne
  have hl : g.last = g.base + g.ents.length - 1 := rfl
  have hobj := h.obj
  have hel := h.el
  have e1 := eq_false h.ne1
  have e2 := eq_false (Ne.symm h.ne1)
  have r1 := fun s' M' (q1 : FreshM s' M') (q2 : Sub M M') => last_E s' M' q1 (h.lg.mono q2)
  have r2 := fun s' M' (q1 : FreshM s' M') (q2 : Sub M M') => groupAt_E (i := g.last) chg P s' q1 (q2 _ _ h.obj) (h.lg.mono q2) hc hP (by omega) (by omega)
  rw [hgr] at r2
  have r3 := fun s' M' (q1 : FreshM s' M') (q2 : M' d.ie = some (.cells e.cs)) => join_E (intsV (some [d.id])) (intsV none) [d.id] [] s' q1 q2 (RdI_ints M' (some [d.id]) (by simp [intsL])) (RdI_ints M' none (by simp [intsL]))
  have r4 := fun s' M' (q1 : FreshM s' M') (q2 : M' d.ie = some (.cells (Elc.cs { e with vv := intsV (some [d.id]), lv := intsV none }))) => role_E s' q1 q2
  have hI1 : intsV (some [d.id]) = .psl [.int .i64 d.id] 1 false := rfl
  have hI2 : intsV none = .nils := rfl
  simp only [Elc.cs_eq, Nd.cs_eq, hI1, hI2, hr] at hobj hel r2 r3 r4
  simp only [Elc.cs_eq, Nd.cs_eq, hr]
  have hfin : ∀ (M1 : Mem) (i : Id), i ∉ [p, d.ie] → (i = p) = False ∧ (i = d.ie) = False := fun _ i hx => ⟨eq_false (fun e => hx (by simp [e])), eq_false (fun e => hx (by simp [e]))⟩
  rcases hpe with hd | ⟨im, hd, him⟩
  · rw [hd] at hobj
    refine ⟨(?_, ?_), ?a, ?b, ?c, ?e, ?f, ?dd⟩
    case a =>
      rw [Fn_body Tryz.func36 (by decide) rfl rfl]
      simp (maxDischargeDepth := 80) only [push_cast, Nat.reduceBEq, reduceIte, reduceCtorEq, Nat.reduceEqDiff, Nat.reduceAdd, Nat.reduceMul, Nat.reduceSub, Nat.reduceLeDiff, Nat.reduceLT, Nat.reducePow, Int.reduceToNat, Int.reduceLT, Int.reduceLE, Int.reduceEq, Int.reduceAdd, Int.reduceSub, Int.reduceNeg, hobj, Off_dn (Off_of hM hobj), Off_ne (Off_of hM hobj), Off_ne' (Off_of hM hobj), hel, Off_dn (Off_of hM hel), Off_ne (Off_of hM hel), Off_ne' (Off_of hM hel), r1, r2, r3, r4, hri, e1, e2, intsV_one, intsV_cells, run_lp, fresh_dn hM, fresh_at hM]
      rfl
    case b => simp (maxDischargeDepth := 80) only [push_cast, Nat.reduceBEq, reduceIte, reduceCtorEq, Nat.reduceEqDiff, Nat.reduceAdd, Nat.reduceMul, Nat.reduceSub, Nat.reduceLeDiff, Nat.reduceLT, Nat.reducePow, Int.reduceToNat, Int.reduceLT, Int.reduceLE, Int.reduceEq, Int.reduceAdd, Int.reduceSub, Int.reduceNeg, hobj, Off_dn (Off_of hM hobj), Off_ne (Off_of hM hobj), Off_ne' (Off_of hM hobj), hel, Off_dn (Off_of hM hel), Off_ne (Off_of hM hel), Off_ne' (Off_of hM hel), e1, e2, fresh_dn hM, fresh_at hM]; rfl
    case c => simp (maxDischargeDepth := 80) only [push_cast, Nat.reduceBEq, reduceIte, reduceCtorEq, Nat.reduceEqDiff, Nat.reduceAdd, Nat.reduceMul, Nat.reduceSub, Nat.reduceLeDiff, Nat.reduceLT, Nat.reducePow, Int.reduceToNat, Int.reduceLT, Int.reduceLE, Int.reduceEq, Int.reduceAdd, Int.reduceSub, Int.reduceNeg, hobj, Off_dn (Off_of hM hobj), Off_ne (Off_of hM hobj), Off_ne' (Off_of hM hobj), hel, Off_dn (Off_of hM hel), Off_ne (Off_of hM hel), Off_ne' (Off_of hM hel), e1, e2, hI1, fresh_dn hM, fresh_at hM]
    case e => simp (maxDischargeDepth := 80) only [push_cast, Nat.reduceBEq, reduceIte, reduceCtorEq, Nat.reduceEqDiff, Nat.reduceAdd, Nat.reduceMul, Nat.reduceSub, Nat.reduceLeDiff, Nat.reduceLT, Nat.reducePow, Int.reduceToNat, Int.reduceLT, Int.reduceLE, Int.reduceEq, Int.reduceAdd, Int.reduceSub, Int.reduceNeg, hobj, Off_dn (Off_of hM hobj), Off_ne (Off_of hM hobj), Off_ne' (Off_of hM hobj), hel, Off_dn (Off_of hM hel), Off_ne (Off_of hM hel), Off_ne' (Off_of hM hel), e1, e2, fresh_dn hM, fresh_at hM]
    case f => simp (maxDischargeDepth := 80) only [push_cast, Nat.reduceBEq, reduceIte, reduceCtorEq, Nat.reduceEqDiff, Nat.reduceAdd, Nat.reduceMul, Nat.reduceSub, Nat.reduceLeDiff, Nat.reduceLT, Nat.reducePow, Int.reduceToNat, Int.reduceLT, Int.reduceLE, Int.reduceEq, Int.reduceAdd, Int.reduceSub, Int.reduceNeg]
    case dd =>
      intro i hi hx
      obtain ⟨h1, h2⟩ := hfin M i hx
      simp (maxDischargeDepth := 80) only [push_cast, Nat.reduceBEq, reduceIte, reduceCtorEq, Nat.reduceEqDiff, Nat.reduceAdd, Nat.reduceMul, Nat.reduceSub, Nat.reduceLeDiff, Nat.reduceLT, Nat.reducePow, Int.reduceToNat, Int.reduceLT, Int.reduceLE, Int.reduceEq, Int.reduceAdd, Int.reduceSub, Int.reduceNeg, h1, h2, Off_ne hi]
  · rw [hd] at hobj
    have e3 : (im = p) = False := eq_false (fun e => by rw [e, hobj] at him; cases him)
    have e4 : (im = d.ie) = False := eq_false (fun e => by rw [e, hel] at him; cases him)
    refine ⟨(?_, ?_), ?a, ?b, ?c, ?e, ?f, ?dd⟩
    case a =>
      rw [Fn_body Tryz.func36 (by decide) rfl rfl]
      simp (maxDischargeDepth := 80) only [push_cast, Nat.reduceBEq, reduceIte, reduceCtorEq, Nat.reduceEqDiff, Nat.reduceAdd, Nat.reduceMul, Nat.reduceSub, Nat.reduceLeDiff, Nat.reduceLT, Nat.reducePow, Int.reduceToNat, Int.reduceLT, Int.reduceLE, Int.reduceEq, Int.reduceAdd, Int.reduceSub, Int.reduceNeg, hobj, Off_dn (Off_of hM hobj), Off_ne (Off_of hM hobj), Off_ne' (Off_of hM hobj), hel, Off_dn (Off_of hM hel), Off_ne (Off_of hM hel), Off_ne' (Off_of hM hel), him, Off_dn (Off_of hM him), Off_ne (Off_of hM him), Off_ne' (Off_of hM him), r1, r2, r3, r4, hri, e1, e2, e3, e4, intsV_one, intsV_cells, run_lp, fresh_dn hM, fresh_at hM]
      rfl
    case b => simp (maxDischargeDepth := 80) only [push_cast, Nat.reduceBEq, reduceIte, reduceCtorEq, Nat.reduceEqDiff, Nat.reduceAdd, Nat.reduceMul, Nat.reduceSub, Nat.reduceLeDiff, Nat.reduceLT, Nat.reducePow, Int.reduceToNat, Int.reduceLT, Int.reduceLE, Int.reduceEq, Int.reduceAdd, Int.reduceSub, Int.reduceNeg, hobj, Off_dn (Off_of hM hobj), Off_ne (Off_of hM hobj), Off_ne' (Off_of hM hobj), hel, Off_dn (Off_of hM hel), Off_ne (Off_of hM hel), Off_ne' (Off_of hM hel), e1, e2, fresh_dn hM, fresh_at hM]; rfl
    case c => simp (maxDischargeDepth := 80) only [push_cast, Nat.reduceBEq, reduceIte, reduceCtorEq, Nat.reduceEqDiff, Nat.reduceAdd, Nat.reduceMul, Nat.reduceSub, Nat.reduceLeDiff, Nat.reduceLT, Nat.reducePow, Int.reduceToNat, Int.reduceLT, Int.reduceLE, Int.reduceEq, Int.reduceAdd, Int.reduceSub, Int.reduceNeg, hobj, Off_dn (Off_of hM hobj), Off_ne (Off_of hM hobj), Off_ne' (Off_of hM hobj), hel, Off_dn (Off_of hM hel), Off_ne (Off_of hM hel), Off_ne' (Off_of hM hel), e1, e2, hI1, fresh_dn hM, fresh_at hM]
    case e => simp (maxDischargeDepth := 80) only [push_cast, Nat.reduceBEq, reduceIte, reduceCtorEq, Nat.reduceEqDiff, Nat.reduceAdd, Nat.reduceMul, Nat.reduceSub, Nat.reduceLeDiff, Nat.reduceLT, Nat.reducePow, Int.reduceToNat, Int.reduceLT, Int.reduceLE, Int.reduceEq, Int.reduceAdd, Int.reduceSub, Int.reduceNeg, hobj, Off_dn (Off_of hM hobj), Off_ne (Off_of hM hobj), Off_ne' (Off_of hM hobj), hel, Off_dn (Off_of hM hel), Off_ne (Off_of hM hel), Off_ne' (Off_of hM hel), e1, e2, fresh_dn hM, fresh_at hM]
    case f => simp (maxDischargeDepth := 80) only [push_cast, Nat.reduceBEq, reduceIte, reduceCtorEq, Nat.reduceEqDiff, Nat.reduceAdd, Nat.reduceMul, Nat.reduceSub, Nat.reduceLeDiff, Nat.reduceLT, Nat.reducePow, Int.reduceToNat, Int.reduceLT, Int.reduceLE, Int.reduceEq, Int.reduceAdd, Int.reduceSub, Int.reduceNeg]
    case dd =>
      intro i hi hx
      obtain ⟨h1, h2⟩ := hfin M i hx
      simp (maxDischargeDepth := 80) only [push_cast, Nat.reduceBEq, reduceIte, reduceCtorEq, Nat.reduceEqDiff, Nat.reduceAdd, Nat.reduceMul, Nat.reduceSub, Nat.reduceLeDiff, Nat.reduceLT, Nat.reducePow, Int.reduceToNat, Int.reduceLT, Int.reduceLE, Int.reduceEq, Int.reduceAdd, Int.reduceSub, Int.reduceNeg, h1, h2, Off_ne hi]
end Go.Ab.R

/- A leader that is alone: the middle, and what is committed. Conditions: none. -/
namespace Go.Ab.R
open Go Go.Proofs
set_option maxRecDepth 100000
theorem sortI_one (n : Int) : sortI [n] = [n] := by simp [sortI]
theorem right1 : rightL [1] [] = true := by decide
theorem wins1 : winsL [1] [] [1] = true := by decide
theorem need1 : needL [1] [] = 1 := by decide

def at16 (n : Int) : List V := [.int .i64 0, .int .i64 n, .int .i64 0, .int .i64 0, .int .i64 0, .int .i64 0, .int .i64 0, .int .i64 0, .int .i64 0, .int .i64 0, .int .i64 0, .int .i64 0, .int .i64 0, .int .i64 0, .int .i64 0, .int .i64 0]

theorem middle1_E (n : Int) (s : Id) (M : Mem) (hM : FreshM s M) : Fn env false 160 [.agg [.psl [.int .i64 1] 1 false, .nils], .agg (at16 n)] s M = some (.int .i64 n, M) := by
  have hI1 : intsV (some [1]) = .psl [.int .i64 1] 1 false := rfl
  have hI2 : intsV none = .nils := rfl
  have r1 := fun s' M' (q1 : FreshM s' M') => right_E (intsV (some [1])) (intsV none) [1] [] s' M' q1 (RdI_ints M' (some [1]) (by simp [intsL])) (RdI_ints M' none (by simp [intsL]))
  have r2 := fun s' M' (q1 : FreshM s' M') => need_E (intsV (some [1])) (intsV none) [1] [] s' M' q1 (RdI_ints M' (some [1]) (by simp [intsL])) (RdI_ints M' none (by simp [intsL]))
  simp only [hI1, hI2] at r1 r2
  rw [Fn_body Tryz.func160 (by decide) rfl rfl]
  simp (maxDischargeDepth := 80) only [push_cast, Nat.reduceBEq, reduceIte, reduceCtorEq, Nat.reduceEqDiff, Nat.reduceAdd, Nat.reduceMul, Nat.reduceSub, Nat.reduceLeDiff, Nat.reduceLT, Nat.reducePow, Int.reduceToNat, Int.reduceLT, Int.reduceLE, Int.reduceEq, Int.reduceAdd, Int.reduceSub, Int.reduceNeg, r1, r2, right1, need1, run_lp, at16, F118, sortP, intsOf, intOf, sortI_one, mostLen, fresh_dn hM, fresh_at hM]

theorem members0_E {M : Mem} {p : Id} {d : Nd} (s : Id) (hM : FreshM s M) (h : M p = some (.cells d.cs)) (hpe : d.peers = .nilm ∨ ∃ im, d.peers = .mapr im ∧ M im = some (.map [])) :
    Fn env false 41 [.ptr p 0] s M = some (.nils, M) := by
  rw [Nd.cs_eq] at h
  rw [F41]
  rcases hpe with hd | ⟨im, hd, him⟩
  · rw [hd] at h
    simp only [membersP, h, List.getElem?_cons_succ, List.getElem?_cons_zero, entriesV]
  · rw [hd] at h
    simp only [membersP, h, him, List.getElem?_cons_succ, List.getElem?_cons_zero, entriesV]

theorem all0_E {M : Mem} {p : Id} {d : Nd} (s : Id) (hM : FreshM s M) (h : M p = some (.cells d.cs)) (hpe : d.peers = .nilm ∨ ∃ im, d.peers = .mapr im ∧ M im = some (.map [])) :
    Fn env false 94 [.ptr p 0] s M = some (.tup [], M) := by
  have r1 := fun s' (q1 : FreshM s' M) => members0_E s' q1 h hpe
  rw [Fn_body Tryz.func94 (by decide) rfl rfl]
  simp (maxDischargeDepth := 80) only [push_cast, Nat.reduceBEq, reduceIte, reduceCtorEq, Nat.reduceEqDiff, Nat.reduceAdd, Nat.reduceMul, Nat.reduceSub, Nat.reduceLeDiff, Nat.reduceLT, Nat.reducePow, Int.reduceToNat, Int.reduceLT, Int.reduceLE, Int.reduceEq, Int.reduceAdd, Int.reduceSub, Int.reduceNeg, r1, run_lp, fresh_dn hM, fresh_at hM]
theorem beats0_E {M : Mem} {p : Id} {d : Nd} (s : Id) (hM : FreshM s M) (h : M p = some (.cells d.cs)) (hpe : d.peers = .nilm ∨ ∃ im, d.peers = .mapr im ∧ M im = some (.map [])) :
    Fn env false 52 [.ptr p 0] s M = some (.tup [], M) := by
  have r1 := fun s' (q1 : FreshM s' M) => members0_E s' q1 h hpe
  rw [Fn_body Tryz.func52 (by decide) rfl rfl]
  simp (maxDischargeDepth := 80) only [push_cast, Nat.reduceBEq, reduceIte, reduceCtorEq, Nat.reduceEqDiff, Nat.reduceAdd, Nat.reduceMul, Nat.reduceSub, Nat.reduceLeDiff, Nat.reduceLT, Nat.reducePow, Int.reduceToNat, Int.reduceLT, Int.reduceLE, Int.reduceEq, Int.reduceAdd, Int.reduceSub, Int.reduceNeg, r1, run_lp, fresh_dn hM, fresh_at hM]
end Go.Ab.R

/- A leader that is alone: what it enters is committed. Conditions: none. -/
namespace Go.Ab.R
open Go Go.Proofs
set_option maxRecDepth 100000

def snp1 : Snp := ⟨0, 0, some [1], none, none⟩
structure Lone (M : Mem) (p : Id) (d : Nd) (e : Elc) (ia : Id) (v : V) (g : Lg) (im : Id) : Prop where
  at_ : NodeAt M p d e ia v g
  kinds : ∀ x ∈ g.ents, x.kind ≠ 2
  did : d.id = 1
  dgv : d.gvs = some [1]
  dgl : d.gls = none
  dsn : d.sn = snp1
  dre : d.reads = .nils
  dms : d.msgs = .nils
  dro : d.round = 0
  dsw : d.snew = false
  eid : e.id = 1
  evv : e.vv = intsV (some [1])
  elv : e.lv = .nils
  role : e.role = 3
  peers : d.peers = .mapr im
  pm : M im = some (.map [])
  ok : NdOk d


theorem advance1_E {M : Mem} {p ia : Id} {v : V} {g : Lg} {d : Nd} {e : Elc} {im : Id} (s : Id) (hM : FreshM s M) (h : Lone M p d e ia v g im) (ht : g.termOf g.last = e.term) (hc : g.com < g.last) (hhas : g.has g.last = true) :
    ∃ M', Fn env false 93 [.ptr p 0] s M = some (.tup [], M') ∧ M' d.il = some (.cells [v, .int .i64 g.last, .int .i64 g.app]) ∧ FrM s [d.il] M M' := by
  have hobj := h.at_.obj
  have hel := h.at_.el
  have hlg := h.at_.lg
  have e1 := eq_false h.at_.ne2
  have e2 := eq_false (Ne.symm h.at_.ne2)
  have e3 := eq_false h.at_.ne3
  have e4 := eq_false (Ne.symm h.at_.ne3)
  have hI1 : intsV (some [1]) = .psl [.int .i64 1] 1 false := rfl
  have hI2 : intsV none = .nils := rfl
  have r1 := fun s' M' (q1 : FreshM s' M') (q2 : Sub M M') => last_E s' M' q1 (hlg.mono q2)
  have r2 := fun n s' M' (q1 : FreshM s' M') => middle1_E n s' M' q1
  have r3 := fun s' M' (q1 : FreshM s' M') (q2 : Sub M M') => term_E g.last s' M' q1 (hlg.mono q2)
  have r4 := fun s' M' (q1 : FreshM s' M') (q2 : Sub M M') => hard_E s' q1 (q2 _ _ hel)
  have r5 := fun s' M' (q1 : FreshM s' M') (q2 : Sub M M') => com_E s' M' q1 (hlg.mono q2)
  have r6 := fun s' M' (q1 : FreshM s' M') (q2 : Sub M M') => commit_E g.last s' M' q1 (hlg.mono q2)
  have hd := h.peers
  have him := h.pm
  have r7 : ∀ s' M', FreshM s' M' → M' p = M p → M' im = M im → Fn env false 52 [.ptr p 0] s' M' = some (.tup [], M') := fun s' M' q1 q2 q3 => beats0_E s' q1 (q2.trans hobj) (.inr ⟨im, hd, q3.trans him⟩)
  have c1 : ¬ (g.last < g.com ∨ g.last < g.last) := by omega
  have c2 : ¬ (g.last ≤ g.com) := by omega
  simp only [if_neg c1] at r6
  simp only [at16] at r2
  have hlo := hlg.obj
  have hdid := h.did; have hdgv := h.dgv; have hdgl := h.dgl
  have hfin : ∀ i : Id, i ∉ [d.il] → (i = d.il) = False := fun i hx => eq_false (fun e => hx (by simp [e]))
  simp only [Nd.cs_eq, hdid, hdgv, hdgl, hI1, hI2, hd] at hobj
  have e5 : (im = d.il) = False := eq_false (fun e => by rw [e, hlo] at him; cases him)
  have hk93 := run_hook93
  simp only [advCode, Tryz.f93] at hk93
  refine ⟨?_, ?a, ?b, ?c⟩
  case a =>
    rw [Fn_body Tryz.func93 (by decide) rfl rfl]
    simp (maxDischargeDepth := 80) only [push_cast, Nat.reduceBEq, reduceIte, reduceCtorEq, Nat.reduceEqDiff, Nat.reduceAdd, Nat.reduceMul, Nat.reduceSub, Nat.reduceLeDiff, Nat.reduceLT, Nat.reducePow, Int.reduceToNat, Int.reduceLT, Int.reduceLE, Int.reduceEq, Int.reduceAdd, Int.reduceSub, Int.reduceNeg, hobj, Off_dn (Off_of hM hobj), Off_ne (Off_of hM hobj), Off_ne' (Off_of hM hobj), hel, Off_dn (Off_of hM hel), Off_ne (Off_of hM hel), Off_ne' (Off_of hM hel), hlo, Off_dn (Off_of hM hlo), Off_ne (Off_of hM hlo), Off_ne' (Off_of hM hlo), him, Off_dn (Off_of hM him), Off_ne (Off_of hM him), Off_ne' (Off_of hM him), hk93, advP, r1, at16, r2, r3, r4, r5, r6, r7, e1, e2, e3, e4, e5, ht, hhas, c2, fresh_dn hM, fresh_at hM]
    rfl
  case b => simp (maxDischargeDepth := 80) only [push_cast, Nat.reduceBEq, reduceIte, reduceCtorEq, Nat.reduceEqDiff, Nat.reduceAdd, Nat.reduceMul, Nat.reduceSub, Nat.reduceLeDiff, Nat.reduceLT, Nat.reducePow, Int.reduceToNat, Int.reduceLT, Int.reduceLE, Int.reduceEq, Int.reduceAdd, Int.reduceSub, Int.reduceNeg]
  case c =>
    intro i hi hx
    simp (maxDischargeDepth := 80) only [push_cast, Nat.reduceBEq, reduceIte, reduceCtorEq, Nat.reduceEqDiff, Nat.reduceAdd, Nat.reduceMul, Nat.reduceSub, Nat.reduceLeDiff, Nat.reduceLT, Nat.reducePow, Int.reduceToNat, Int.reduceLT, Int.reduceLE, Int.reduceEq, Int.reduceAdd, Int.reduceSub, Int.reduceNeg, hfin i hx, Off_ne hi]
end Go.Ab.R

/- A leader that is alone: an entry put in. Conditions: none. -/
namespace Go.Ab.R
open Go Go.Proofs
set_option maxRecDepth 100000

theorem groupL_const (si : Int) (g : Grp) (l : List Ent) : groupL (fun g _ => g) si g l = g := by
  induction l generalizing g with
  | nil => rfl
  | cons x l ih => rw [groupL]; split <;> exact ih _

theorem fresh1_E {M : Mem} {p ia : Id} {v : V} {g : Lg} {d : Nd} {e : Elc} {im : Id} (i : Int) (s : Id) (hM : FreshM s M) (h : NodeAt M p d e ia v g) (hk : ∀ x ∈ g.ents, x.kind ≠ 2) (hok : NdOk d) (hid : d.id = 1) (hsn : d.sn = snp1) (hr : e.role = 3)
    (hpe : d.peers = .mapr im) (hpm : M im = some (.map [])) :
    ∃ x : Mem × Id, Fn env false 159 [.ptr p 0, .int .i64 i] s M = some (.tup [], x.1) ∧
      x.1 p = some (.cells (Nd.cs { d with gvs := some [1], gls := none, peers := .mapr x.2, from_ := if d.from_ = 0 ∨ i < d.from_ then i else d.from_ })) ∧ x.1 d.ie = some (.cells (Elc.cs { e with vv := intsV (some [1]), lv := .nils })) ∧ x.1 x.2 = some (.map []) ∧ Un s x.2 ∧ FrM s [p, d.ie] M x.1 := by
  have hobj := h.obj
  have hel := h.el
  have hlo := h.lg.obj
  have hla := h.lg.arr
  have e1 := eq_false h.ne1
  have e2 := eq_false (Ne.symm h.ne1)
  have e3 := eq_false h.ne2
  have e4 := eq_false (Ne.symm h.ne2)
  have e5 := eq_false h.ne5
  have e6 := eq_false (Ne.symm h.ne5)
  have e7 : (im = p) = False := eq_false (fun e => by rw [e, hobj] at hpm; cases hpm)
  have rg : ∀ fr : Int, ∀ s' M', (FreshM s' M' ∧ M' p = some (.cells (Nd.cs { d with from_ := fr })) ∧ M' d.ie = M d.ie ∧ M' d.il = M d.il ∧ M' ia = M ia ∧ M' im = M im) →
      ∃ x : Mem × Id, Fn env false 36 [.ptr p 0] s' M' = some (.tup [], x.1) ∧ x.1 p = some (.cells (Nd.cs { d with from_ := fr, gvs := some [1], gls := none, peers := .mapr x.2 })) ∧ x.1 d.ie = some (.cells (Elc.cs { e with vv := intsV (some [1]), lv := .nils })) ∧ x.1 x.2 = some (.map []) ∧ Un s' x.2 ∧ FrM s' [p, d.ie] M' x.1 := by
    rintro fr s' M' ⟨q1, q2, q3, q4, q5, q6⟩
    have := regroupL_E (d := { d with from_ := fr }) (fun g _ => g) (fun _ => True) s' q1 ⟨q2, q3.trans hel, h.lg.frame q4 q5⟩ ⟨hok.p1, hok.p2, hok.r1, hok.r2, hok.m1, hok.m2, hok.e1, hok.e2⟩ (chg0 _ hk) trivial hr (by rw [groupL_const]; show (d.sn.vs, d.sn.ls) = (some [d.id], none); rw [hsn, hid]; rfl) (by show rightL [d.id] [] = true; rw [hid]; exact right1)
      (.inr ⟨im, hpe, q6.trans hpm⟩)
    simp only [hid] at this
    simpa only [hid] using this
  obtain ⟨ie, id, window, il, sn, gvs, gls, peers, reads, round, tt, tv, snew, from_, msgs, rds⟩ := d
  simp only at hid hsn hpe hel hlo e1 e2 e3 e4
  subst hid hsn hpe
  have hu : Un s (1 :: 1 :: 0 :: s) := by simp (maxDischargeDepth := 80) only [push_cast, Nat.reduceBEq, reduceIte, reduceCtorEq, Nat.reduceEqDiff, Nat.reduceAdd, Nat.reduceMul, Nat.reduceSub, Nat.reduceLeDiff, Nat.reduceLT, Nat.reducePow, Int.reduceToNat, Int.reduceLT, Int.reduceLE, Int.reduceEq, Int.reduceAdd, Int.reduceSub, Int.reduceNeg]
  by_cases c0 : from_ = 0 ∨ i < from_
  · simp only [if_pos c0]
    obtain ⟨x, g1, g2, g3, g4, g5, g6⟩ := rg i (1 :: 1 :: 0 :: s) (M.set p (.cells (Nd.cs ⟨ie, 1, window, il, snp1, gvs, gls, .mapr im, reads, round, tt, tv, snew, i, msgs, rds⟩))) (by
        refine ⟨?_, ?_, ?_, ?_, ?_, ?_⟩ <;> simp (maxDischargeDepth := 80) only [push_cast, Nat.reduceBEq, reduceIte, reduceCtorEq, Nat.reduceEqDiff, Nat.reduceAdd, Nat.reduceMul, Nat.reduceSub, Nat.reduceLeDiff, Nat.reduceLT, Nat.reducePow, Int.reduceToNat, Int.reduceLT, Int.reduceLE, Int.reduceEq, Int.reduceAdd, Int.reduceSub, Int.reduceNeg, hobj, Off_dn (Off_of hM hobj), Off_ne (Off_of hM hobj), Off_ne' (Off_of hM hobj), e1, e2, e3, e4, e5, e6, e7, fresh_dn hM, fresh_at hM])
    simp only [Nd.cs_eq] at hobj g1 g2
    simp only [Nd.cs_eq]
    refine ⟨x, ?_, g2, g3, g4, List.IsSuffix.trans hu g5, ?_⟩
    · rw [Fn_body Tryz.func159 (by decide) rfl rfl]
      by_cases q : from_ = 0
      · simp (maxDischargeDepth := 80) only [push_cast, Nat.reduceBEq, reduceIte, reduceCtorEq, Nat.reduceEqDiff, Nat.reduceAdd, Nat.reduceMul, Nat.reduceSub, Nat.reduceLeDiff, Nat.reduceLT, Nat.reducePow, Int.reduceToNat, Int.reduceLT, Int.reduceLE, Int.reduceEq, Int.reduceAdd, Int.reduceSub, Int.reduceNeg, hobj, Off_dn (Off_of hM hobj), Off_ne (Off_of hM hobj), Off_ne' (Off_of hM hobj), hel, Off_dn (Off_of hM hel), Off_ne (Off_of hM hel), Off_ne' (Off_of hM hel), hlo, Off_dn (Off_of hM hlo), Off_ne (Off_of hM hlo), Off_ne' (Off_of hM hlo), hla, Off_dn (Off_of hM hla), Off_ne (Off_of hM hla), Off_ne' (Off_of hM hla), hpm, Off_dn (Off_of hM hpm), Off_ne (Off_of hM hpm), Off_ne' (Off_of hM hpm), g1, q, e1, e2, e3, e4, e5, e6, e7, fresh_dn hM, fresh_at hM]
      · have q' := c0.resolve_left q
        simp (maxDischargeDepth := 80) only [push_cast, Nat.reduceBEq, reduceIte, reduceCtorEq, Nat.reduceEqDiff, Nat.reduceAdd, Nat.reduceMul, Nat.reduceSub, Nat.reduceLeDiff, Nat.reduceLT, Nat.reducePow, Int.reduceToNat, Int.reduceLT, Int.reduceLE, Int.reduceEq, Int.reduceAdd, Int.reduceSub, Int.reduceNeg, hobj, Off_dn (Off_of hM hobj), Off_ne (Off_of hM hobj), Off_ne' (Off_of hM hobj), hel, Off_dn (Off_of hM hel), Off_ne (Off_of hM hel), Off_ne' (Off_of hM hel), hlo, Off_dn (Off_of hM hlo), Off_ne (Off_of hM hlo), Off_ne' (Off_of hM hlo), hla, Off_dn (Off_of hM hla), Off_ne (Off_of hM hla), Off_ne' (Off_of hM hla), hpm, Off_dn (Off_of hM hpm), Off_ne (Off_of hM hpm), Off_ne' (Off_of hM hpm), g1, q, q', e1, e2, e3, e4, e5, e6, e7, fresh_dn hM, fresh_at hM]
    · intro j hj hx
      rw [g6 j (Off_dn hj hu) hx]
      have hjp : ¬ j = p := fun e => hx (by simp [e])
      simp (maxDischargeDepth := 80) only [push_cast, Nat.reduceBEq, reduceIte, reduceCtorEq, Nat.reduceEqDiff, Nat.reduceAdd, Nat.reduceMul, Nat.reduceSub, Nat.reduceLeDiff, Nat.reduceLT, Nat.reducePow, Int.reduceToNat, Int.reduceLT, Int.reduceLE, Int.reduceEq, Int.reduceAdd, Int.reduceSub, Int.reduceNeg, hjp]
  · simp only [if_neg c0]
    have q1 : (from_ = 0) = False := eq_false (fun q => c0 (.inl q))
    have q2 : (i < from_) = False := eq_false (fun q => c0 (.inr q))
    obtain ⟨x, g1, g2, g3, g4, g5, g6⟩ := rg from_ (1 :: 1 :: 0 :: s) M ⟨fresh_dn hM hu, hobj, rfl, rfl, rfl, rfl⟩
    simp only [Nd.cs_eq] at hobj g1 g2
    simp only [Nd.cs_eq]
    refine ⟨x, ?_, g2, g3, g4, List.IsSuffix.trans hu g5, ?_⟩
    · rw [Fn_body Tryz.func159 (by decide) rfl rfl]
      simp (maxDischargeDepth := 80) only [push_cast, Nat.reduceBEq, reduceIte, reduceCtorEq, Nat.reduceEqDiff, Nat.reduceAdd, Nat.reduceMul, Nat.reduceSub, Nat.reduceLeDiff, Nat.reduceLT, Nat.reducePow, Int.reduceToNat, Int.reduceLT, Int.reduceLE, Int.reduceEq, Int.reduceAdd, Int.reduceSub, Int.reduceNeg, hobj, Off_dn (Off_of hM hobj), Off_ne (Off_of hM hobj), Off_ne' (Off_of hM hobj), hel, Off_dn (Off_of hM hel), Off_ne (Off_of hM hel), Off_ne' (Off_of hM hel), hlo, Off_dn (Off_of hM hlo), Off_ne (Off_of hM hlo), Off_ne' (Off_of hM hlo), hla, Off_dn (Off_of hM hla), Off_ne (Off_of hM hla), Off_ne' (Off_of hM hla), hpm, Off_dn (Off_of hM hpm), Off_ne (Off_of hM hpm), Off_ne' (Off_of hM hpm), g1, q1, q2, e1, e2, e3, e4, e5, e6, e7, fresh_dn hM, fresh_at hM]
    · intro j hj hx
      exact g6 j (Off_dn hj hu) hx

/-- an entry put in by a leader that is alone -/
theorem enter1_E {M : Mem} {p ia : Id} {v : V} {g : Lg} {d : Nd} {e : Elc} {im : Id} (kind : Int) (data : Option (List UInt8)) (s : Id) (hM : FreshM s M) (h : Lone M p d e ia v g im) (hk : kind ≠ 2)
    (ha : g.addE [⟨g.last + 1, e.term, kind, data⟩] = 0) (hn : g.ents.length + 1 ≤ 2 ^ 35) :
    ∃ x : Mem × Id × V × Id, Fn env false 92 [.ptr p 0, .int .i64 kind, dataV data] s M = some (.tup [.int .i64 (g.last + 1), .int .i64 0], x.1) ∧
      Lone x.1 p { d with peers := .mapr x.2.2.2, from_ := if d.from_ = 0 ∨ g.last + 1 < d.from_ then g.last + 1 else d.from_ } e x.2.1 x.2.2.1 (g.addL [⟨g.last + 1, e.term, kind, data⟩]) x.2.2.2 ∧
      FrM s [p, d.ie, d.il, ia] M x.1 ∧ (x.2.1 = ia ∨ Un s x.2.1) ∧ Un s x.2.2.2 := by
  have hobj := h.at_.obj
  have hel := h.at_.el
  have hlg := h.at_.lg
  have hlo := hlg.obj
  have hla := hlg.arr
  have hpm := h.pm
  have hb := hlg.ok.lo
  have hhi := hlg.ok.hi
  have hl : g.last = g.base + g.ents.length - 1 := rfl
  have w1 : IntKind.wrap .i64 (g.last + 1) = g.last + 1 := wrap_id (by omega) (by omega)
  have e1 := eq_false h.at_.ne1
  have e2 := eq_false (Ne.symm h.at_.ne1)
  have e3 := eq_false h.at_.ne2
  have e4 := eq_false (Ne.symm h.at_.ne2)
  have e5 := eq_false h.at_.ne5
  have e6 := eq_false (Ne.symm h.at_.ne5)
  have e7 := eq_false h.at_.ne3
  have e8 := eq_false (Ne.symm h.at_.ne3)
  have e9 := eq_false h.at_.ne4
  have e10 := eq_false (Ne.symm h.at_.ne4)
  have r1 := fun s' M' (q1 : FreshM s' M') (q2 : Sub M M') => last_E s' M' q1 (hlg.mono q2)
  have r4 := fun s' M' (q1 : FreshM s' M') (q2 : Sub M M') => hard_E s' q1 (q2 _ _ hel)
  simp only [Nd.cs_eq] at hobj
  generalize hx0 : (⟨g.last + 1, e.term, kind, data⟩ : Ent) = x0 at ha
  have hxc : x0.cells = [.int .i64 (g.last + 1), .int .i64 e.term, .int .i64 kind, dataV data] := by rw [← hx0]; rfl
  have hu1 : Un s (14 :: 0 :: 1 :: 1 :: 0 :: s) := by simp (maxDischargeDepth := 80) only [push_cast, Nat.reduceBEq, reduceIte, reduceCtorEq, Nat.reduceEqDiff, Nat.reduceAdd, Nat.reduceMul, Nat.reduceSub, Nat.reduceLeDiff, Nat.reduceLT, Nat.reducePow, Int.reduceToNat, Int.reduceLT, Int.reduceLE, Int.reduceEq, Int.reduceAdd, Int.reduceSub, Int.reduceNeg]
  have hu2 : Un s (15 :: 0 :: 1 :: 1 :: 0 :: s) := by simp (maxDischargeDepth := 80) only [push_cast, Nat.reduceBEq, reduceIte, reduceCtorEq, Nat.reduceEqDiff, Nat.reduceAdd, Nat.reduceMul, Nat.reduceSub, Nat.reduceLeDiff, Nat.reduceLT, Nat.reducePow, Int.reduceToNat, Int.reduceLT, Int.reduceLE, Int.reduceEq, Int.reduceAdd, Int.reduceSub, Int.reduceNeg]
  have hsub1 : Sub M (M.set (14 :: 0 :: 1 :: 1 :: 0 :: s) (.cells x0.cells)) := by simp (maxDischargeDepth := 80) only [push_cast, Nat.reduceBEq, reduceIte, reduceCtorEq, Nat.reduceEqDiff, Nat.reduceAdd, Nat.reduceMul, Nat.reduceSub, Nat.reduceLeDiff, Nat.reduceLT, Nat.reducePow, Int.reduceToNat, Int.reduceLT, Int.reduceLE, Int.reduceEq, Int.reduceAdd, Int.reduceSub, Int.reduceNeg, fresh_dn hM, fresh_at hM]
  have hF1 : FreshM (15 :: 0 :: 1 :: 1 :: 0 :: s) (M.set (14 :: 0 :: 1 :: 1 :: 0 :: s) (.cells x0.cells)) := by simp (maxDischargeDepth := 80) only [push_cast, Nat.reduceBEq, reduceIte, reduceCtorEq, Nat.reduceEqDiff, Nat.reduceAdd, Nat.reduceMul, Nat.reduceSub, Nat.reduceLeDiff, Nat.reduceLT, Nat.reducePow, Int.reduceToNat, Int.reduceLT, Int.reduceLE, Int.reduceEq, Int.reduceAdd, Int.reduceSub, Int.reduceNeg, fresh_dn hM, fresh_at hM]
  have hrd : EntsV (M.set (14 :: 0 :: 1 :: 1 :: 0 :: s) (.cells x0.cells)) (.sl (14 :: 0 :: 1 :: 1 :: 0 :: s) 0 1 4 (some 1)) [x0] :=
    .sl _ 0 (some 1) x0.cells [x0] (by simp (maxDischargeDepth := 80) only [push_cast, Nat.reduceBEq, reduceIte, reduceCtorEq, Nat.reduceEqDiff, Nat.reduceAdd, Nat.reduceMul, Nat.reduceSub, Nat.reduceLeDiff, Nat.reduceLT, Nat.reducePow, Int.reduceToNat, Int.reduceLT, Int.reduceLE, Int.reduceEq, Int.reduceAdd, Int.reduceSub, Int.reduceNeg]) (by simp [cells_len]) (by simp only [List.length_singleton, Nat.one_mul, List.drop_zero, flatE_cons, flatE_nil, List.append_nil]; exact List.take_of_length_le (by rw [cells_len]; omega)) (fun c hc => by cases hc; simp)
  obtain ⟨M2, h34, hpost⟩ := add_E (15 :: 0 :: 1 :: 1 :: 0 :: s) hF1 (hlg.mono hsub1) hrd.rd hn
  rw [if_pos ha] at hpost
  obtain ⟨ia2, v2, hlg2, hfr2, hia2⟩ := hpost
  rw [ha] at h34
  have hget2 : ∀ i, Off s i → i ∉ [d.il, ia] → M2 i = M i := fun i hi hx => by
    rw [hfr2 i (Off_dn hi hu2) hx]
    simp (maxDischargeDepth := 80) only [push_cast, Nat.reduceBEq, reduceIte, reduceCtorEq, Nat.reduceEqDiff, Nat.reduceAdd, Nat.reduceMul, Nat.reduceSub, Nat.reduceLeDiff, Nat.reduceLT, Nat.reducePow, Int.reduceToNat, Int.reduceLT, Int.reduceLE, Int.reduceEq, Int.reduceAdd, Int.reduceSub, Int.reduceNeg, Off_ne hi]
  have hF2 : ∀ t, Un s t → Off (15 :: 0 :: 1 :: 1 :: 0 :: s) t → Off t (15 :: 0 :: 1 :: 1 :: 0 :: s) → Off t (14 :: 0 :: 1 :: 1 :: 0 :: s) → FreshM t M2 := fun t ht h1 h2 h3 => by
    refine hfr2.fr ?_ h1 h2 ?_
    · simp (maxDischargeDepth := 80) only [push_cast, Nat.reduceBEq, reduceIte, reduceCtorEq, Nat.reduceEqDiff, Nat.reduceAdd, Nat.reduceMul, Nat.reduceSub, Nat.reduceLeDiff, Nat.reduceLT, Nat.reducePow, Int.reduceToNat, Int.reduceLT, Int.reduceLE, Int.reduceEq, Int.reduceAdd, Int.reduceSub, Int.reduceNeg, fresh_dn hM, fresh_at hM, h3, ht]
    · intro x hx
      simp only [List.mem_cons, List.not_mem_nil, or_false] at hx
      rcases hx with rfl | rfl
      · exact Off_dn (Off_of hM hlo) ht
      · exact Off_dn (Off_of hM hla) ht
  have hp2 : M2 p = _ := (hget2 p (Off_of hM hobj) (by simp [h.at_.ne2, h.at_.ne5])).trans hobj
  have hie2 : M2 d.ie = _ := (hget2 d.ie (Off_of hM hel) (by simp [h.at_.ne3, h.at_.ne4])).trans hel
  have him2 : M2 im = _ := (hget2 im (Off_of hM hpm) (by
    simp only [List.mem_cons, List.not_mem_nil, or_false, not_or]
    exact ⟨fun q => (by rw [q, hlo] at hpm; cases hpm), fun q => (by rw [q, hla] at hpm; cases hpm)⟩)).trans hpm
  have hu3 : Un s (2 :: 0 :: 1 :: 1 :: 1 :: 1 :: 0 :: s) := by simp (maxDischargeDepth := 80) only [push_cast, Nat.reduceBEq, reduceIte, reduceCtorEq, Nat.reduceEqDiff, Nat.reduceAdd, Nat.reduceMul, Nat.reduceSub, Nat.reduceLeDiff, Nat.reduceLT, Nat.reducePow, Int.reduceToNat, Int.reduceLT, Int.reduceLE, Int.reduceEq, Int.reduceAdd, Int.reduceSub, Int.reduceNeg]
  have hF3 : FreshM (2 :: 0 :: 1 :: 1 :: 1 :: 1 :: 0 :: s) M2 := by
    refine hF2 _ hu3 ?_ ?_ ?_ <;> simp (maxDischargeDepth := 80) only [push_cast, Nat.reduceBEq, reduceIte, reduceCtorEq, Nat.reduceEqDiff, Nat.reduceAdd, Nat.reduceMul, Nat.reduceSub, Nat.reduceLeDiff, Nat.reduceLT, Nat.reducePow, Int.reduceToNat, Int.reduceLT, Int.reduceLE, Int.reduceEq, Int.reduceAdd, Int.reduceSub, Int.reduceNeg]
  have hk2 : ∀ x ∈ (g.addL [x0]).ents, x.kind ≠ 2 := by
    intro x hx
    simp only [Lg.addL, List.mem_append, List.mem_singleton] at hx
    rcases hx with hx | rfl
    · exact h.kinds x hx
    · rw [← hx0]; exact hk
  have hobj' := h.at_.obj
  have hN2 : NodeAt M2 p d e ia2 v2 (g.addL [x0]) := ⟨hp2.trans (by rw [Nd.cs_eq]), hie2, hlg2⟩
  obtain ⟨y, g1, g2, g3, g4, g5, g6⟩ := fresh1_E (g.last + 1) _ hF3 hN2 hk2 h.ok h.did h.dsn h.role h.peers him2
  refine ⟨(y.1, ia2, v2, y.2), ?_, ⟨⟨?_, ?_, ?_⟩, hk2, h.did, ?_, ?_, h.dsn, h.dre, h.dms, h.dro, h.dsw, h.eid, h.evv, h.elv, h.role, rfl, g4, ⟨rfl, rfl, h.ok.r1, h.ok.r2, h.ok.m1, h.ok.m2, h.ok.e1, h.ok.e2⟩⟩, ?_, ?_, List.IsSuffix.trans hu3 g5⟩
  · simp only [hxc] at h34
    rw [Fn_body Tryz.func92 (by decide) rfl rfl]
    simp (maxDischargeDepth := 80) only [push_cast, Nat.reduceBEq, reduceIte, reduceCtorEq, Nat.reduceEqDiff, Nat.reduceAdd, Nat.reduceMul, Nat.reduceSub, Nat.reduceLeDiff, Nat.reduceLT, Nat.reducePow, Int.reduceToNat, Int.reduceLT, Int.reduceLE, Int.reduceEq, Int.reduceAdd, Int.reduceSub, Int.reduceNeg, hobj, Off_dn (Off_of hM hobj), Off_ne (Off_of hM hobj), Off_ne' (Off_of hM hobj), hel, Off_dn (Off_of hM hel), Off_ne (Off_of hM hel), Off_ne' (Off_of hM hel), hlo, Off_dn (Off_of hM hlo), Off_ne (Off_of hM hlo), Off_ne' (Off_of hM hlo), hla, Off_dn (Off_of hM hla), Off_ne (Off_of hM hla), Off_ne' (Off_of hM hla), hpm, Off_dn (Off_of hM hpm), Off_ne (Off_of hM hpm), Off_ne' (Off_of hM hpm), r1, r4, h34, hp2, g1, w1, Nat.min_def, one_data, data_cells, e1, e2, e3, e4, e5, e6, e7, e8, e9, e10, fresh_dn hM, fresh_at hM]
  · rw [g2]; simp only [Nd.cs_eq, h.dgv, h.dgl]
  · rw [g3]; simp only [Elc.cs_eq, h.evv, h.elv]
  · exact hlg2.frame (g6 _ (Off_of hF3 hlg2.obj) (by simp [Ne.symm hN2.ne2, Ne.symm hN2.ne3])) (g6 _ (Off_of hF3 hlg2.arr) (by simp [Ne.symm hN2.ne5, Ne.symm hN2.ne4]))
  · exact h.dgv
  · exact h.dgl
  · intro i hi hx
    simp only [List.mem_cons, List.not_mem_nil, or_false, not_or] at hx
    rw [g6 i (Off_dn hi hu3) (by simp [hx.1, hx.2.1]), hget2 i hi (by simp [hx.2.2.1, hx.2.2.2])]
  · rcases hia2 with q | q
    · exact .inl q
    · exact .inr (List.IsSuffix.trans hu2 q)
end Go.Ab.R

/- A leader that is alone: what it is proposed is committed. Conditions: none. -/
namespace Go.Ab.R
open Go Go.Proofs
set_option maxRecDepth 100000

theorem FrM.to {s t u : Id} {X : List Id} {M M' : Mem} (h : FrM t X M M') (hM : FreshM s M) (hu : Un s u) (h1 : Off t u) (h2 : Off u t) (hx : ∀ x ∈ X, Off s x) : FreshM u M' :=
  h.fr (fresh_dn hM hu) h1 h2 (fun x hxx => Off_dn (hx x hxx) hu)
theorem FrM.wide {s t : Id} {X Y : List Id} {M M' : Mem} (h : FrM t X M M') (ht : Un s t) (hX : ∀ i, Off s i → i ∉ Y → i ∉ X) : FrM s Y M M' := fun i hi hx => h i (Off_dn hi ht) (hX i hi hx)
theorem Lone.off {M p d e ia v g im} (h : Lone M p d e ia v g im) {s : Id} (hM : FreshM s M) : ∀ x ∈ [p, d.ie, d.il, ia], Off s x := by
  intro x hx
  simp only [List.mem_cons, List.not_mem_nil, or_false] at hx
  rcases hx with rfl | rfl | rfl | rfl
  · exact Off_of hM h.at_.obj
  · exact Off_of hM h.at_.el
  · exact Off_of hM h.at_.lg.obj
  · exact Off_of hM h.at_.lg.arr

theorem addL_last (g : Lg) (x : Ent) : (g.addL [x]).last = g.last + 1 := by simp [Lg.last, Lg.addL]; omega
theorem addL_has {g : Lg} (x : Ent) : (g.addL [x]).has (g.last + 1) = true := by
  rw [Lg.has_iff, addL_last]
  simp only [Lg.addL, Lg.last]
  omega
theorem addL_at {g : Lg} (x : Ent) : (g.addL [x]).at_ (g.last + 1) = x := by
  unfold Lg.at_ Lg.addL Lg.last
  have : (g.base + (g.ents.length : Int) - 1 + 1 - g.base).toNat = g.ents.length := by omega
  simp only [this]
  simp
theorem addL_term {g : Lg} (x : Ent) : (g.addL [x]).termOf (g.last + 1) = x.term := by
  rw [Lg.termOf, if_pos (addL_has x), addL_at]

def Lg.led (g : Lg) (x : Ent) : Lg := { g.addL [x] with com := g.last + 1 }

theorem lead1_E {M : Mem} {p ia : Id} {v : V} {g : Lg} {d : Nd} {e : Elc} {im : Id} (kind : Int) (data : Option (List UInt8)) (s : Id) (hM : FreshM s M) (h : Lone M p d e ia v g im) (hk : kind ≠ 2)
    (ha : g.addE [⟨g.last + 1, e.term, kind, data⟩] = 0) (hn : g.ents.length + 1 ≤ 2 ^ 35) (hc : g.com ≤ g.last) :
    ∃ x : Mem × Id × V × Id, Fn env false 47 [.ptr p 0, .int .i64 kind, dataV data] s M = some (.tup [.int .i64 (g.last + 1), .int .i64 0], x.1) ∧
      Lone x.1 p { d with peers := .mapr x.2.2.2, from_ := if d.from_ = 0 ∨ g.last + 1 < d.from_ then g.last + 1 else d.from_ } e x.2.1 x.2.2.1 (g.led ⟨g.last + 1, e.term, kind, data⟩) x.2.2.2 ∧
      FrM s [p, d.ie, d.il, ia] M x.1 ∧ (x.2.1 = ia ∨ Un s x.2.1) ∧ Un s x.2.2.2 := by
  have hoff := h.off hM
  have u1 : Un s (3 :: 0 :: 1 :: 0 :: s) := by simp (maxDischargeDepth := 80) only [push_cast, Nat.reduceBEq, reduceIte, reduceCtorEq, Nat.reduceEqDiff, Nat.reduceAdd, Nat.reduceMul, Nat.reduceSub, Nat.reduceLeDiff, Nat.reduceLT, Nat.reducePow, Int.reduceToNat, Int.reduceLT, Int.reduceLE, Int.reduceEq, Int.reduceAdd, Int.reduceSub, Int.reduceNeg]
  have u2 : Un s (1 :: 0 :: 1 :: 1 :: 1 :: 0 :: s) := by simp (maxDischargeDepth := 80) only [push_cast, Nat.reduceBEq, reduceIte, reduceCtorEq, Nat.reduceEqDiff, Nat.reduceAdd, Nat.reduceMul, Nat.reduceSub, Nat.reduceLeDiff, Nat.reduceLT, Nat.reducePow, Int.reduceToNat, Int.reduceLT, Int.reduceLE, Int.reduceEq, Int.reduceAdd, Int.reduceSub, Int.reduceNeg]
  have u3 : Un s (1 :: 0 :: 1 :: 1 :: 1 :: 1 :: 0 :: s) := by simp (maxDischargeDepth := 80) only [push_cast, Nat.reduceBEq, reduceIte, reduceCtorEq, Nat.reduceEqDiff, Nat.reduceAdd, Nat.reduceMul, Nat.reduceSub, Nat.reduceLeDiff, Nat.reduceLT, Nat.reducePow, Int.reduceToNat, Int.reduceLT, Int.reduceLE, Int.reduceEq, Int.reduceAdd, Int.reduceSub, Int.reduceNeg]
  obtain ⟨x, k1, k2, k3, k4, k5⟩ := enter1_E kind data (3 :: 0 :: 1 :: 0 :: s) (fresh_dn hM u1) h hk ha hn
  have hF2 : FreshM (1 :: 0 :: 1 :: 1 :: 1 :: 0 :: s) x.1 := k3.to hM u2 (by simp (maxDischargeDepth := 80) only [push_cast, Nat.reduceBEq, reduceIte, reduceCtorEq, Nat.reduceEqDiff, Nat.reduceAdd, Nat.reduceMul, Nat.reduceSub, Nat.reduceLeDiff, Nat.reduceLT, Nat.reducePow, Int.reduceToNat, Int.reduceLT, Int.reduceLE, Int.reduceEq, Int.reduceAdd, Int.reduceSub, Int.reduceNeg]) (by simp (maxDischargeDepth := 80) only [push_cast, Nat.reduceBEq, reduceIte, reduceCtorEq, Nat.reduceEqDiff, Nat.reduceAdd, Nat.reduceMul, Nat.reduceSub, Nat.reduceLeDiff, Nat.reduceLT, Nat.reducePow, Int.reduceToNat, Int.reduceLT, Int.reduceLE, Int.reduceEq, Int.reduceAdd, Int.reduceSub, Int.reduceNeg]) hoff
  have hF3 : FreshM (1 :: 0 :: 1 :: 1 :: 1 :: 1 :: 0 :: s) x.1 := k3.to hM u3 (by simp (maxDischargeDepth := 80) only [push_cast, Nat.reduceBEq, reduceIte, reduceCtorEq, Nat.reduceEqDiff, Nat.reduceAdd, Nat.reduceMul, Nat.reduceSub, Nat.reduceLeDiff, Nat.reduceLT, Nat.reducePow, Int.reduceToNat, Int.reduceLT, Int.reduceLE, Int.reduceEq, Int.reduceAdd, Int.reduceSub, Int.reduceNeg]) (by simp (maxDischargeDepth := 80) only [push_cast, Nat.reduceBEq, reduceIte, reduceCtorEq, Nat.reduceEqDiff, Nat.reduceAdd, Nat.reduceMul, Nat.reduceSub, Nat.reduceLeDiff, Nat.reduceLT, Nat.reducePow, Int.reduceToNat, Int.reduceLT, Int.reduceLE, Int.reduceEq, Int.reduceAdd, Int.reduceSub, Int.reduceNeg]) hoff
  have hx0 := addL_term (g := g) ⟨g.last + 1, e.term, kind, data⟩
  obtain ⟨M3, m1, m2, m3⟩ := advance1_E (1 :: 0 :: 1 :: 1 :: 1 :: 0 :: s) hF2 k2 (by rw [addL_last]; exact hx0) (by rw [addL_last]; exact Int.lt_add_one_of_le hc) (by rw [addL_last]; exact addL_has _)
  rw [addL_last] at m2
  have hN := k2.at_
  have hoff2 : ∀ i ∈ [d.il], Off (1 :: 0 :: 1 :: 1 :: 1 :: 0 :: s) i := fun i hi => by
    simp only [List.mem_singleton] at hi; subst hi; exact Off_of hF2 hN.lg.obj
  have hF4 : FreshM (1 :: 0 :: 1 :: 1 :: 1 :: 1 :: 0 :: s) M3 := m3.fr hF3 (by simp (maxDischargeDepth := 80) only [push_cast, Nat.reduceBEq, reduceIte, reduceCtorEq, Nat.reduceEqDiff, Nat.reduceAdd, Nat.reduceMul, Nat.reduceSub, Nat.reduceLeDiff, Nat.reduceLT, Nat.reducePow, Int.reduceToNat, Int.reduceLT, Int.reduceLE, Int.reduceEq, Int.reduceAdd, Int.reduceSub, Int.reduceNeg]) (by simp (maxDischargeDepth := 80) only [push_cast, Nat.reduceBEq, reduceIte, reduceCtorEq, Nat.reduceEqDiff, Nat.reduceAdd, Nat.reduceMul, Nat.reduceSub, Nat.reduceLeDiff, Nat.reduceLT, Nat.reducePow, Int.reduceToNat, Int.reduceLT, Int.reduceLE, Int.reduceEq, Int.reduceAdd, Int.reduceSub, Int.reduceNeg]) (fun i hi => by
    simp only [List.mem_singleton] at hi; subst hi; exact Off_of hF3 hN.lg.obj)
  have q1 : M3 p = x.1 p := m3 p (Off_of hF2 hN.obj) (by simp only [List.mem_singleton]; exact hN.ne2)
  have q2 : M3 d.ie = x.1 d.ie := m3 d.ie (Off_of hF2 hN.el) (by simp only [List.mem_singleton]; exact hN.ne3)
  have q3 : M3 x.2.1 = x.1 x.2.1 := m3 _ (Off_of hF2 hN.lg.arr) (by simp only [List.mem_singleton]; exact Ne.symm hN.lg.ne)
  have q4 : M3 x.2.2.2 = x.1 x.2.2.2 := m3 _ (Off_of hF2 k2.pm) (by simp only [List.mem_singleton]; intro q; have := k2.pm; rw [q] at this; rw [hN.lg.obj] at this; cases this)
  have hL : Lone M3 p { d with peers := .mapr x.2.2.2, from_ := if d.from_ = 0 ∨ g.last + 1 < d.from_ then g.last + 1 else d.from_ } e x.2.1 x.2.2.1 (g.led ⟨g.last + 1, e.term, kind, data⟩) x.2.2.2 :=
    ⟨⟨q1.trans hN.obj, q2.trans hN.el, ⟨m2, hN.lg.shape, q3.trans hN.lg.arr, ⟨hN.lg.ok.ne, hN.lg.ok.idx, hN.lg.ok.lo, hN.lg.ok.hi, hN.lg.ok.few, hN.lg.ok.data⟩⟩⟩, k2.kinds, k2.did, k2.dgv, k2.dgl, k2.dsn, k2.dre, k2.dms, k2.dro, k2.dsw, k2.eid, k2.evv, k2.elv, k2.role, k2.peers, q4.trans k2.pm, k2.ok⟩
  have r3 := all0_E _ hF4 hL.at_.obj (.inr ⟨_, hL.peers, hL.pm⟩)
  refine ⟨(M3, x.2.1, x.2.2.1, x.2.2.2), ?_, hL, ?_, ?_, List.IsSuffix.trans u1 k5⟩
  · rw [Fn_body Tryz.func47 (by decide) rfl rfl]
    simp (maxDischargeDepth := 80) only [push_cast, Nat.reduceBEq, reduceIte, reduceCtorEq, Nat.reduceEqDiff, Nat.reduceAdd, Nat.reduceMul, Nat.reduceSub, Nat.reduceLeDiff, Nat.reduceLT, Nat.reducePow, Int.reduceToNat, Int.reduceLT, Int.reduceLE, Int.reduceEq, Int.reduceAdd, Int.reduceSub, Int.reduceNeg, k1, m1, r3, fresh_dn hM, fresh_at hM]
  · refine (k3.wide u1 (fun i _ hx => hx)).trans (m3.wide u2 (fun i _ hx => ?_))
    simp only [List.mem_cons, List.not_mem_nil, or_false, not_or] at hx ⊢
    exact hx.2.2.1
  · rcases k4 with q | q
    · exact .inl q
    · exact .inr (List.IsSuffix.trans u1 q)

theorem dlen_some (l : List UInt8) : dlen (some l) = l.length := rfl
theorem propose1_E {M : Mem} {p ia : Id} {v : V} {g : Lg} {d : Nd} {e : Elc} {im : Id} (data : Option (List UInt8)) (s : Id) (hM : FreshM s M) (h : Lone M p d e ia v g im) (hd : dlen data ≤ 4096)
    (ha : g.addE [⟨g.last + 1, e.term, 1, data⟩] = 0) (hn : g.ents.length + 1 ≤ 2 ^ 35) (hc : g.com ≤ g.last) :
    ∃ x : Mem × Id × V × Id, Fn env false 11 [.ptr p 0, dataV data] s M = some (.tup [.int .i64 (g.last + 1), .int .i64 0], x.1) ∧
      Lone x.1 p { d with peers := .mapr x.2.2.2, from_ := if d.from_ = 0 ∨ g.last + 1 < d.from_ then g.last + 1 else d.from_ } e x.2.1 x.2.2.1 (g.led ⟨g.last + 1, e.term, 1, data⟩) x.2.2.2 ∧
      FrM s [p, d.ie, d.il, ia] M x.1 ∧ (x.2.1 = ia ∨ Un s x.2.1) ∧ Un s x.2.2.2 := by
  have u1 : Un s (3 :: 0 :: 1 :: 1 :: 0 :: s) := by simp (maxDischargeDepth := 80) only [push_cast, Nat.reduceBEq, reduceIte, reduceCtorEq, Nat.reduceEqDiff, Nat.reduceAdd, Nat.reduceMul, Nat.reduceSub, Nat.reduceLeDiff, Nat.reduceLT, Nat.reducePow, Int.reduceToNat, Int.reduceLT, Int.reduceLE, Int.reduceEq, Int.reduceAdd, Int.reduceSub, Int.reduceNeg]
  obtain ⟨x, k1, k2, k3, k4, k5⟩ := lead1_E 1 data (3 :: 0 :: 1 :: 1 :: 0 :: s) (fresh_dn hM u1) h (by decide) ha hn hc
  have hobj := h.at_.obj
  have hel := h.at_.el
  have r1 := fun s' (q1 : FreshM s' M) => role_E s' q1 hel
  simp only [h.role] at r1
  have r2 := fun s' M' (q1 : FreshM s' M') => cloneB_E data (fun l q => by rw [q] at hd; have : l.length ≤ 4096 := hd; unfold mostLen; omega) s' M' q1
  have hd' : (4096 < (dlen data : Int)) = False := eq_false (by omega)
  simp only [Nd.cs_eq] at hobj
  refine ⟨x, ?_, k2, k3.wide u1 (fun i _ hx => hx), ?_, List.IsSuffix.trans u1 k5⟩
  · rw [Fn_body Tryz.func11 (by decide) rfl rfl]
    simp (maxDischargeDepth := 80) only [push_cast, Nat.reduceBEq, reduceIte, reduceCtorEq, Nat.reduceEqDiff, Nat.reduceAdd, Nat.reduceMul, Nat.reduceSub, Nat.reduceLeDiff, Nat.reduceLT, Nat.reducePow, Int.reduceToNat, Int.reduceLT, Int.reduceLE, Int.reduceEq, Int.reduceAdd, Int.reduceSub, Int.reduceNeg, hobj, Off_dn (Off_of hM hobj), Off_ne (Off_of hM hobj), Off_ne' (Off_of hM hobj), r1, r2, k1, len_data, hd', fresh_dn hM, fresh_at hM]
  · rcases k4 with q | q
    · exact .inl q
    · exact .inr (List.IsSuffix.trans u1 q)
end Go.Ab.R
