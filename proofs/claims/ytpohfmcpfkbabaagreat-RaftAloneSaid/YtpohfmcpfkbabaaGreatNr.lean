/- The node finds its group anew. Conditions: none. -/
import Derived.Test.YtpohfmcpfkbabaaGreatNg
set_option linter.unusedSimpArgs false
set_option linter.unusedVariables false
namespace Go.Ab.R
open Go Go.Proofs
set_option maxRecDepth 100000

structure NdOk (d : Nd) : Prop where
  p1 : d.peers.one = true
  p2 : d.peers.cells = [d.peers]
  r1 : d.reads.one = true
  r2 : d.reads.cells = [d.reads]
  m1 : d.msgs.one = true
  m2 : d.msgs.cells = [d.msgs]
  e1 : d.rds.one = true
  e2 : d.rds.cells = [d.rds]

structure NodeAt (M : Mem) (p : Id) (d : Nd) (e : Elc) (ia : Id) (v : V) (g : Lg) : Prop where
  obj : M p = some (.cells d.cs)
  el : M d.ie = some (.cells e.cs)
  lg : LogAt M d.il ia v g

theorem NodeAt.ne1 {M p d e ia v g} (h : NodeAt M p d e ia v g) : p ≠ d.ie := by
  intro q
  have := h.el
  rw [← q, h.obj] at this
  simp only [Option.some.injEq, AObj.cells.injEq] at this
  have := congrArg List.length this
  simp [Nd.cs, Elc.cs] at this
theorem NodeAt.ne2 {M p d e ia v g} (h : NodeAt M p d e ia v g) : p ≠ d.il := by
  intro q
  have := h.lg.obj
  rw [← q, h.obj] at this
  simp only [Option.some.injEq, AObj.cells.injEq] at this
  have := congrArg List.length this
  simp [Nd.cs] at this
theorem NodeAt.ne3 {M p d e ia v g} (h : NodeAt M p d e ia v g) : d.ie ≠ d.il := by
  intro q
  have := h.lg.obj
  rw [← q, h.el] at this
  simp only [Option.some.injEq, AObj.cells.injEq] at this
  have := congrArg List.length this
  simp [Elc.cs] at this
theorem LogAt.ne {M il ia v g} (h : LogAt M il ia v g) : il ≠ ia := by
  rintro rfl
  have := h.obj.symm.trans h.arr
  simp only [Option.some.injEq, AObj.cells.injEq] at this
  have := congrArg List.length this
  rw [flatE_len] at this; simp at this; omega
theorem NodeAt.ne4 {M p d e ia v g} (h : NodeAt M p d e ia v g) : d.ie ≠ ia := by
  intro q
  have := h.lg.arr
  rw [← q, h.el] at this
  simp only [Option.some.injEq, AObj.cells.injEq] at this
  have := congrArg List.length this
  rw [flatE_len] at this
  simp [Elc.cs] at this; omega
theorem NodeAt.ne5 {M p d e ia v g} (h : NodeAt M p d e ia v g) : p ≠ ia := by
  intro q
  have := h.lg.arr
  rw [← q, h.obj] at this
  simp only [Option.some.injEq, AObj.cells.injEq] at this
  have hne := h.lg.ok.ne
  cases hg : g.ents with
  | nil => rw [hg] at hne; simp at hne
  | cons x l => rw [hg, flatE_cons] at this; simp [Nd.cs, Ent.cells] at this

theorem LogAt.frame {M M' il ia v g} (h : LogAt M il ia v g) (h1 : M' il = M il) (h2 : M' ia = M ia) : LogAt M' il ia v g := ⟨h1.trans h.obj, h.shape, h2.trans h.arr, h.ok⟩

theorem regroupF_E {M : Mem} {p ia : Id} {v : V} {g : Lg} {d : Nd} {e : Elc} (chg : Grp → Ent → Grp) (P : Grp → Prop) (s : Id) (hM : FreshM s M) (h : NodeAt M p d e ia v g) (hok : NdOk d)
    (hc : ChgE chg P g.ents) (hP : P (d.sn.vs, d.sn.ls)) (hr : e.role ≠ 3) (gr : Grp) (hgr : groupL chg d.sn.index (d.sn.vs, d.sn.ls) (g.get (g.base + 1) (g.last - g.base)) = gr) (hri : rightL (intsL gr.1) (intsL gr.2) = true)
    (hs1 : (intsL gr.1).length < 2 ^ 40) (hs2 : (intsL gr.2).length < 2 ^ 40) :
    ∃ M', Fn env false 36 [.ptr p 0] s M = some (.tup [], M') ∧ M' p = some (.cells (Nd.cs { d with gvs := gr.1, gls := gr.2, peers := .nilm })) ∧ M' d.ie = some (.cells (Elc.cs { e with vv := intsV gr.1, lv := intsV gr.2 })) ∧ FrM s [p, d.ie] M M' := by
  have hlo := h.lg.ok.lo
  have hhi := h.lg.ok.hi
  have hne := h.lg.ok.ne
  have hl : g.last = g.base + g.ents.length - 1 := rfl
  have hobj := h.obj
  have hel := h.el
  have e1 := eq_false h.ne1
  have e2 := eq_false (Ne.symm h.ne1)
  have hr' : (e.role = 3) = False := eq_false hr
  have r1 := fun s' M' (q1 : FreshM s' M') (q2 : Sub M M') => last_E s' M' q1 (h.lg.mono q2)
  have r2 := fun s' M' (q1 : FreshM s' M') (q2 : Sub M M') => groupAt_E (i := g.last) chg P s' q1 (q2 _ _ h.obj) (h.lg.mono q2) hc hP (by omega) (by omega)
  rw [hgr] at r2
  have r3 := fun s' M' (q1 : FreshM s' M') (q2 : M' d.ie = some (.cells e.cs)) => join_E (intsV gr.1) (intsV gr.2) (intsL gr.1) (intsL gr.2) s' q1 q2 (RdI_ints M' gr.1 hs1) (RdI_ints M' gr.2 hs2)
  have r4 := fun s' M' (q1 : FreshM s' M') (q2 : M' d.ie = some (.cells (Elc.cs { e with vv := intsV gr.1, lv := intsV gr.2 }))) => role_E s' q1 q2
  simp only [Elc.cs_eq, Nd.cs_eq] at hobj hel r3 r4
  simp only [Elc.cs_eq, Nd.cs_eq]
  refine ⟨?_, ?a, ?b, ?c, ?dd⟩
  case a =>
    rw [Fn_body Tryz.func36 (by decide) rfl rfl]
    simp (maxDischargeDepth := 80) only [push_cast, Nat.reduceBEq, reduceIte, reduceCtorEq, Nat.reduceEqDiff, Nat.reduceAdd, Nat.reduceMul, Nat.reduceSub, Nat.reduceLeDiff, Nat.reduceLT, Nat.reducePow, Int.reduceToNat, Int.reduceLT, Int.reduceLE, Int.reduceEq, Int.reduceAdd, Int.reduceSub, Int.reduceNeg, hobj, Off_dn (Off_of hM hobj), Off_ne (Off_of hM hobj), Off_ne' (Off_of hM hobj), hel, Off_dn (Off_of hM hel), Off_ne (Off_of hM hel), Off_ne' (Off_of hM hel), r1, r2, r3, r4, hri, hr', e1, e2, intsV_one, intsV_cells, fresh_dn hM, fresh_at hM]
    rfl
  case b => simp (maxDischargeDepth := 80) only [push_cast, Nat.reduceBEq, reduceIte, reduceCtorEq, Nat.reduceEqDiff, Nat.reduceAdd, Nat.reduceMul, Nat.reduceSub, Nat.reduceLeDiff, Nat.reduceLT, Nat.reducePow, Int.reduceToNat, Int.reduceLT, Int.reduceLE, Int.reduceEq, Int.reduceAdd, Int.reduceSub, Int.reduceNeg, hobj, Off_dn (Off_of hM hobj), Off_ne (Off_of hM hobj), Off_ne' (Off_of hM hobj), hel, Off_dn (Off_of hM hel), Off_ne (Off_of hM hel), Off_ne' (Off_of hM hel), e1, e2, fresh_dn hM, fresh_at hM]
  case c => simp (maxDischargeDepth := 80) only [push_cast, Nat.reduceBEq, reduceIte, reduceCtorEq, Nat.reduceEqDiff, Nat.reduceAdd, Nat.reduceMul, Nat.reduceSub, Nat.reduceLeDiff, Nat.reduceLT, Nat.reducePow, Int.reduceToNat, Int.reduceLT, Int.reduceLE, Int.reduceEq, Int.reduceAdd, Int.reduceSub, Int.reduceNeg, hobj, Off_dn (Off_of hM hobj), Off_ne (Off_of hM hobj), Off_ne' (Off_of hM hobj), hel, Off_dn (Off_of hM hel), Off_ne (Off_of hM hel), Off_ne' (Off_of hM hel), e1, e2, fresh_dn hM, fresh_at hM]
  case dd =>
    intro i hi hx
    have h1 : (i = p) = False := eq_false (fun e => hx (by simp [e]))
    have h2 : (i = d.ie) = False := eq_false (fun e => hx (by simp [e]))
    simp (maxDischargeDepth := 80) only [push_cast, Nat.reduceBEq, reduceIte, reduceCtorEq, Nat.reduceEqDiff, Nat.reduceAdd, Nat.reduceMul, Nat.reduceSub, Nat.reduceLeDiff, Nat.reduceLT, Nat.reducePow, Int.reduceToNat, Int.reduceLT, Int.reduceLE, Int.reduceEq, Int.reduceAdd, Int.reduceSub, Int.reduceNeg, h1, h2, Off_ne hi]

/-- a leader that is alone -/
theorem regroupL_E {M : Mem} {p ia : Id} {v : V} {g : Lg} {d : Nd} {e : Elc} (chg : Grp → Ent → Grp) (P : Grp → Prop) (s : Id) (hM : FreshM s M) (h : NodeAt M p d e ia v g) (hok : NdOk d)
    (hc : ChgE chg P g.ents) (hP : P (d.sn.vs, d.sn.ls)) (hr : e.role = 3) (hgr : groupL chg d.sn.index (d.sn.vs, d.sn.ls) (g.get (g.base + 1) (g.last - g.base)) = (some [d.id], none)) (hri : rightL [d.id] [] = true)
    (hpe : d.peers = .nilm ∨ ∃ im, d.peers = .mapr im ∧ M im = some (.map [])) :
    ∃ x : Mem × Id, Fn env false 36 [.ptr p 0] s M = some (.tup [], x.1) ∧ x.1 p = some (.cells (Nd.cs { d with gvs := some [d.id], gls := none, peers := .mapr x.2 })) ∧ x.1 d.ie = some (.cells (Elc.cs { e with vv := intsV (some [d.id]), lv := .nils })) ∧ x.1 x.2 = some (.map []) ∧ Un s x.2 ∧ FrM s [p, d.ie] M x.1 := by
  have hlo := h.lg.ok.lo
  have hhi := h.lg.ok.hi
  have hne := h.lg.ok.ne
  have hl : g.last = g.base + g.ents.length - 1 := rfl
  have hobj := h.obj
  have hel := h.el
  have e1 := eq_false h.ne1
  have e2 := eq_false (Ne.symm h.ne1)
  have r1 := fun s' M' (q1 : FreshM s' M') (q2 : Sub M M') => last_E s' M' q1 (h.lg.mono q2)
  have r2 := fun s' M' (q1 : FreshM s' M') (q2 : Sub M M') => groupAt_E (i := g.last) chg P s' q1 (q2 _ _ h.obj) (h.lg.mono q2) hc hP (by omega) (by omega)
  rw [hgr] at r2
  have r3 := fun s' M' (q1 : FreshM s' M') (q2 : M' d.ie = some (.cells e.cs)) => join_E (intsV (some [d.id])) (intsV none) [d.id] [] s' q1 q2 (RdI_ints M' (some [d.id]) (by simp [intsL])) (RdI_ints M' none (by simp [intsL]))
  have r4 := fun s' M' (q1 : FreshM s' M') (q2 : M' d.ie = some (.cells (Elc.cs { e with vv := intsV (some [d.id]), lv := intsV none }))) => role_E s' q1 q2
  have hI1 : intsV (some [d.id]) = .psl [.int .i64 d.id] 1 false := rfl
  have hI2 : intsV none = .nils := rfl
  simp only [Elc.cs_eq, Nd.cs_eq, hI1, hI2, hr] at hobj hel r2 r3 r4
  simp only [Elc.cs_eq, Nd.cs_eq, hr]
  have hfin : ∀ (M1 : Mem) (i : Id), i ∉ [p, d.ie] → (i = p) = False ∧ (i = d.ie) = False := fun _ i hx => ⟨eq_false (fun e => hx (by simp [e])), eq_false (fun e => hx (by simp [e]))⟩
  rcases hpe with hd | ⟨im, hd, him⟩
  · rw [hd] at hobj
    refine ⟨(?_, ?_), ?a, ?b, ?c, ?e, ?f, ?dd⟩
    case a =>
      rw [Fn_body Tryz.func36 (by decide) rfl rfl]
      simp (maxDischargeDepth := 80) only [push_cast, Nat.reduceBEq, reduceIte, reduceCtorEq, Nat.reduceEqDiff, Nat.reduceAdd, Nat.reduceMul, Nat.reduceSub, Nat.reduceLeDiff, Nat.reduceLT, Nat.reducePow, Int.reduceToNat, Int.reduceLT, Int.reduceLE, Int.reduceEq, Int.reduceAdd, Int.reduceSub, Int.reduceNeg, hobj, Off_dn (Off_of hM hobj), Off_ne (Off_of hM hobj), Off_ne' (Off_of hM hobj), hel, Off_dn (Off_of hM hel), Off_ne (Off_of hM hel), Off_ne' (Off_of hM hel), r1, r2, r3, r4, hri, e1, e2, intsV_one, intsV_cells, run_lp, fresh_dn hM, fresh_at hM]
      rfl
    case b => simp (maxDischargeDepth := 80) only [push_cast, Nat.reduceBEq, reduceIte, reduceCtorEq, Nat.reduceEqDiff, Nat.reduceAdd, Nat.reduceMul, Nat.reduceSub, Nat.reduceLeDiff, Nat.reduceLT, Nat.reducePow, Int.reduceToNat, Int.reduceLT, Int.reduceLE, Int.reduceEq, Int.reduceAdd, Int.reduceSub, Int.reduceNeg, hobj, Off_dn (Off_of hM hobj), Off_ne (Off_of hM hobj), Off_ne' (Off_of hM hobj), hel, Off_dn (Off_of hM hel), Off_ne (Off_of hM hel), Off_ne' (Off_of hM hel), e1, e2, fresh_dn hM, fresh_at hM]; rfl
    case c => simp (maxDischargeDepth := 80) only [push_cast, Nat.reduceBEq, reduceIte, reduceCtorEq, Nat.reduceEqDiff, Nat.reduceAdd, Nat.reduceMul, Nat.reduceSub, Nat.reduceLeDiff, Nat.reduceLT, Nat.reducePow, Int.reduceToNat, Int.reduceLT, Int.reduceLE, Int.reduceEq, Int.reduceAdd, Int.reduceSub, Int.reduceNeg, hobj, Off_dn (Off_of hM hobj), Off_ne (Off_of hM hobj), Off_ne' (Off_of hM hobj), hel, Off_dn (Off_of hM hel), Off_ne (Off_of hM hel), Off_ne' (Off_of hM hel), e1, e2, hI1, fresh_dn hM, fresh_at hM]
    case e => simp (maxDischargeDepth := 80) only [push_cast, Nat.reduceBEq, reduceIte, reduceCtorEq, Nat.reduceEqDiff, Nat.reduceAdd, Nat.reduceMul, Nat.reduceSub, Nat.reduceLeDiff, Nat.reduceLT, Nat.reducePow, Int.reduceToNat, Int.reduceLT, Int.reduceLE, Int.reduceEq, Int.reduceAdd, Int.reduceSub, Int.reduceNeg, hobj, Off_dn (Off_of hM hobj), Off_ne (Off_of hM hobj), Off_ne' (Off_of hM hobj), hel, Off_dn (Off_of hM hel), Off_ne (Off_of hM hel), Off_ne' (Off_of hM hel), e1, e2, fresh_dn hM, fresh_at hM]
    case f => simp (maxDischargeDepth := 80) only [push_cast, Nat.reduceBEq, reduceIte, reduceCtorEq, Nat.reduceEqDiff, Nat.reduceAdd, Nat.reduceMul, Nat.reduceSub, Nat.reduceLeDiff, Nat.reduceLT, Nat.reducePow, Int.reduceToNat, Int.reduceLT, Int.reduceLE, Int.reduceEq, Int.reduceAdd, Int.reduceSub, Int.reduceNeg]
    case dd =>
      intro i hi hx
      obtain ⟨h1, h2⟩ := hfin M i hx
      simp (maxDischargeDepth := 80) only [push_cast, Nat.reduceBEq, reduceIte, reduceCtorEq, Nat.reduceEqDiff, Nat.reduceAdd, Nat.reduceMul, Nat.reduceSub, Nat.reduceLeDiff, Nat.reduceLT, Nat.reducePow, Int.reduceToNat, Int.reduceLT, Int.reduceLE, Int.reduceEq, Int.reduceAdd, Int.reduceSub, Int.reduceNeg, h1, h2, Off_ne hi]
  · rw [hd] at hobj
    have e3 : (im = p) = False := eq_false (fun e => by rw [e, hobj] at him; cases him)
    have e4 : (im = d.ie) = False := eq_false (fun e => by rw [e, hel] at him; cases him)
    refine ⟨(?_, ?_), ?a, ?b, ?c, ?e, ?f, ?dd⟩
    case a =>
      rw [Fn_body Tryz.func36 (by decide) rfl rfl]
      simp (maxDischargeDepth := 80) only [push_cast, Nat.reduceBEq, reduceIte, reduceCtorEq, Nat.reduceEqDiff, Nat.reduceAdd, Nat.reduceMul, Nat.reduceSub, Nat.reduceLeDiff, Nat.reduceLT, Nat.reducePow, Int.reduceToNat, Int.reduceLT, Int.reduceLE, Int.reduceEq, Int.reduceAdd, Int.reduceSub, Int.reduceNeg, hobj, Off_dn (Off_of hM hobj), Off_ne (Off_of hM hobj), Off_ne' (Off_of hM hobj), hel, Off_dn (Off_of hM hel), Off_ne (Off_of hM hel), Off_ne' (Off_of hM hel), him, Off_dn (Off_of hM him), Off_ne (Off_of hM him), Off_ne' (Off_of hM him), r1, r2, r3, r4, hri, e1, e2, e3, e4, intsV_one, intsV_cells, run_lp, fresh_dn hM, fresh_at hM]
      rfl
    case b => simp (maxDischargeDepth := 80) only [push_cast, Nat.reduceBEq, reduceIte, reduceCtorEq, Nat.reduceEqDiff, Nat.reduceAdd, Nat.reduceMul, Nat.reduceSub, Nat.reduceLeDiff, Nat.reduceLT, Nat.reducePow, Int.reduceToNat, Int.reduceLT, Int.reduceLE, Int.reduceEq, Int.reduceAdd, Int.reduceSub, Int.reduceNeg, hobj, Off_dn (Off_of hM hobj), Off_ne (Off_of hM hobj), Off_ne' (Off_of hM hobj), hel, Off_dn (Off_of hM hel), Off_ne (Off_of hM hel), Off_ne' (Off_of hM hel), e1, e2, fresh_dn hM, fresh_at hM]; rfl
    case c => simp (maxDischargeDepth := 80) only [push_cast, Nat.reduceBEq, reduceIte, reduceCtorEq, Nat.reduceEqDiff, Nat.reduceAdd, Nat.reduceMul, Nat.reduceSub, Nat.reduceLeDiff, Nat.reduceLT, Nat.reducePow, Int.reduceToNat, Int.reduceLT, Int.reduceLE, Int.reduceEq, Int.reduceAdd, Int.reduceSub, Int.reduceNeg, hobj, Off_dn (Off_of hM hobj), Off_ne (Off_of hM hobj), Off_ne' (Off_of hM hobj), hel, Off_dn (Off_of hM hel), Off_ne (Off_of hM hel), Off_ne' (Off_of hM hel), e1, e2, hI1, fresh_dn hM, fresh_at hM]
    case e => simp (maxDischargeDepth := 80) only [push_cast, Nat.reduceBEq, reduceIte, reduceCtorEq, Nat.reduceEqDiff, Nat.reduceAdd, Nat.reduceMul, Nat.reduceSub, Nat.reduceLeDiff, Nat.reduceLT, Nat.reducePow, Int.reduceToNat, Int.reduceLT, Int.reduceLE, Int.reduceEq, Int.reduceAdd, Int.reduceSub, Int.reduceNeg, hobj, Off_dn (Off_of hM hobj), Off_ne (Off_of hM hobj), Off_ne' (Off_of hM hobj), hel, Off_dn (Off_of hM hel), Off_ne (Off_of hM hel), Off_ne' (Off_of hM hel), e1, e2, fresh_dn hM, fresh_at hM]
    case f => simp (maxDischargeDepth := 80) only [push_cast, Nat.reduceBEq, reduceIte, reduceCtorEq, Nat.reduceEqDiff, Nat.reduceAdd, Nat.reduceMul, Nat.reduceSub, Nat.reduceLeDiff, Nat.reduceLT, Nat.reducePow, Int.reduceToNat, Int.reduceLT, Int.reduceLE, Int.reduceEq, Int.reduceAdd, Int.reduceSub, Int.reduceNeg]
    case dd =>
      intro i hi hx
      obtain ⟨h1, h2⟩ := hfin M i hx
      simp (maxDischargeDepth := 80) only [push_cast, Nat.reduceBEq, reduceIte, reduceCtorEq, Nat.reduceEqDiff, Nat.reduceAdd, Nat.reduceMul, Nat.reduceSub, Nat.reduceLeDiff, Nat.reduceLT, Nat.reducePow, Int.reduceToNat, Int.reduceLT, Int.reduceLE, Int.reduceEq, Int.reduceAdd, Int.reduceSub, Int.reduceNeg, h1, h2, Off_ne hi]
end Go.Ab.R
