/- A leader that is alone: Read; its first tick. Conditions: none. -/
import Derived.Test.YtpohfmcpfkbabaaGreatOr
set_option linter.unusedSimpArgs false
set_option linter.unusedVariables false
namespace Go.Ab.R
open Go Go.Proofs
set_option maxRecDepth 100000

theorem FrM.trans' {s : Id} {X Y : List Id} {M M' : Mem} (h : FrM s X M M') (hX : ∀ i, i ∉ Y → i ∉ X) : FrM s Y M M' := fun i hi hx => h i hi (hX i hx)
theorem read1_E {M : Mem} {p ia : Id} {v : V} {g : Lg} {d : Nd} {e : Elc} {im : Id} (token : Int) (s : Id) (hM : FreshM s M) (h : Lone M p d e ia v g im) (hr : d.rds = .nils) (ho : ownL g e = true) :
    ∃ x : Mem × Id, Fn env false 12 [.ptr p 0, .int .i64 token] s M = some (.int .i64 0, x.1) ∧
      x.1 p = some (.cells (Nd.cs { d with rds := .sl x.2 0 1 2 none })) ∧ x.1 x.2 = some (.cells [.int .i64 token, .int .i64 g.com]) ∧ FrM s [p] M x.1 ∧ Un s x.2 := by
  have hobj := h.at_.obj
  have hel := h.at_.el
  have e1 := eq_false h.at_.ne1
  have e2 := eq_false (Ne.symm h.at_.ne1)
  have hlo := h.at_.lg.obj
  have hI1 : intsV (some [1]) = .psl [.int .i64 1] 1 false := rfl
  have hI2 : intsV none = .nils := rfl
  have r1 := fun s' (q1 : FreshM s' M) => own_E s' q1 h.at_
  rw [ho] at r1
  have r2 := fun s' M' (q1 : FreshM s' M') (q2 : Sub M M') => com_E s' M' q1 (h.at_.lg.mono q2)
  have r3 := fun i c s' M' (q1 : FreshM s' M') (q4 : M' i = some (.cells [.int .i64 1])) => wins_E (intsV (some [1])) (intsV none) (.sl i 0 1 1 c) [1] [] [1] s' M' q1 (RdI_ints M' (some [1]) (by simp [intsL])) (RdI_ints M' none (by simp [intsL])) (rdI_one q4 c)
  have hfin : ∀ i : Id, i ∉ [p] → (i = p) = False := fun i hx => eq_false (fun e => hx (by simp [e]))
  have hdid := h.did; have hdgv := h.dgv; have hdgl := h.dgl; have hdre := h.dre
  simp only [hI1, hI2] at r3
  simp only [Nd.cs_eq, hdid, hdgv, hdgl, hI1, hI2, hr, hdre] at hobj
  simp only [Nd.cs_eq, hdid, hdgv, hdgl, hI1, hI2, hr, hdre]
  refine ⟨(?_, ?_), ?a, ?b, ?c, ?dd, ?e⟩
  case a =>
    rw [Fn_body Tryz.func12 (by decide) rfl rfl]
    simp (maxDischargeDepth := 80) only [push_cast, Nat.reduceBEq, reduceIte, reduceCtorEq, Nat.reduceEqDiff, Nat.reduceAdd, Nat.reduceMul, Nat.reduceSub, Nat.reduceLeDiff, Nat.reduceLT, Nat.reducePow, Int.reduceToNat, Int.reduceLT, Int.reduceLE, Int.reduceEq, Int.reduceAdd, Int.reduceSub, Int.reduceNeg, hobj, Off_dn (Off_of hM hobj), Off_ne (Off_of hM hobj), Off_ne' (Off_of hM hobj), hel, Off_dn (Off_of hM hel), Off_ne (Off_of hM hel), Off_ne' (Off_of hM hel), hlo, Off_dn (Off_of hM hlo), Off_ne (Off_of hM hlo), Off_ne' (Off_of hM hlo), r1, r2, r3, wins1, mostLen, e1, e2, fresh_dn hM, fresh_at hM]
    rfl
  case b =>
    simp (maxDischargeDepth := 80) only [push_cast, Nat.reduceBEq, reduceIte, reduceCtorEq, Nat.reduceEqDiff, Nat.reduceAdd, Nat.reduceMul, Nat.reduceSub, Nat.reduceLeDiff, Nat.reduceLT, Nat.reducePow, Int.reduceToNat, Int.reduceLT, Int.reduceLE, Int.reduceEq, Int.reduceAdd, Int.reduceSub, Int.reduceNeg, hobj, Off_dn (Off_of hM hobj), Off_ne (Off_of hM hobj), Off_ne' (Off_of hM hobj)]
    rfl
  case c => simp (maxDischargeDepth := 80) only [push_cast, Nat.reduceBEq, reduceIte, reduceCtorEq, Nat.reduceEqDiff, Nat.reduceAdd, Nat.reduceMul, Nat.reduceSub, Nat.reduceLeDiff, Nat.reduceLT, Nat.reducePow, Int.reduceToNat, Int.reduceLT, Int.reduceLE, Int.reduceEq, Int.reduceAdd, Int.reduceSub, Int.reduceNeg, hobj, Off_dn (Off_of hM hobj), Off_ne (Off_of hM hobj), Off_ne' (Off_of hM hobj)]
  case dd =>
    intro i hi hx
    simp (maxDischargeDepth := 80) only [push_cast, Nat.reduceBEq, reduceIte, reduceCtorEq, Nat.reduceEqDiff, Nat.reduceAdd, Nat.reduceMul, Nat.reduceSub, Nat.reduceLeDiff, Nat.reduceLT, Nat.reducePow, Int.reduceToNat, Int.reduceLT, Int.reduceLE, Int.reduceEq, Int.reduceAdd, Int.reduceSub, Int.reduceNeg, hfin i hx, Off_ne hi]
  case e => simp (maxDischargeDepth := 80) only [push_cast, Nat.reduceBEq, reduceIte, reduceCtorEq, Nat.reduceEqDiff, Nat.reduceAdd, Nat.reduceMul, Nat.reduceSub, Nat.reduceLeDiff, Nat.reduceLT, Nat.reducePow, Int.reduceToNat, Int.reduceLT, Int.reduceLE, Int.reduceEq, Int.reduceAdd, Int.reduceSub, Int.reduceNeg]

theorem nterm_E {M : Mem} {p ia : Id} {v : V} {g : Lg} {d : Nd} {e : Elc} (s : Id) (hM : FreshM s M) (h : NodeAt M p d e ia v g) : Fn env false 40 [.ptr p 0] s M = some (.int .i64 (g.termOf g.last), M) := by
  have hobj := h.obj
  have r1 := fun s' M' (q1 : FreshM s' M') (q2 : Sub M M') => last_E s' M' q1 (h.lg.mono q2)
  have r2 := fun s' M' (q1 : FreshM s' M') (q2 : Sub M M') => term_E g.last s' M' q1 (h.lg.mono q2)
  simp only [Nd.cs_eq] at hobj
  rw [Fn_body Tryz.func40 (by decide) rfl rfl]
  simp (maxDischargeDepth := 80) only [push_cast, Nat.reduceBEq, reduceIte, reduceCtorEq, Nat.reduceEqDiff, Nat.reduceAdd, Nat.reduceMul, Nat.reduceSub, Nat.reduceLeDiff, Nat.reduceLT, Nat.reducePow, Int.reduceToNat, Int.reduceLT, Int.reduceLE, Int.reduceEq, Int.reduceAdd, Int.reduceSub, Int.reduceNeg, hobj, Off_dn (Off_of hM hobj), Off_ne (Off_of hM hobj), Off_ne' (Off_of hM hobj), r1, r2, fresh_dn hM, fresh_at hM]

/-- it has become the leader: it enters an empty entry, and commits it -/
theorem voted1_E {M : Mem} {p ia : Id} {v : V} {g : Lg} {d : Nd} {e : Elc} (s : Id) (hM : FreshM s M) (h : NodeAt M p d e ia v g) (hk : ∀ x ∈ g.ents, x.kind ≠ 2) (hok : NdOk d) (hid : d.id = 1) (hsn : d.sn = snp1) (hms : d.msgs = .nils) (hsw : d.snew = false)
    (hr : e.role = 3) (hei : e.id = 1) (ha : g.addE [⟨g.last + 1, e.term, 0, none⟩] = 0) (hn : g.ents.length + 1 ≤ 2 ^ 35) (hc : g.com ≤ g.last) :
    ∃ x : Mem × Id × V × Id, Fn env false 37 [.ptr p 0, .bool false, .nils] s M = some (.tup [], x.1) ∧
      Lone x.1 p { d with gvs := some [1], gls := none, reads := .nils, round := 0, peers := .mapr x.2.2.2, from_ := if d.from_ = 0 ∨ g.last + 1 < d.from_ then g.last + 1 else d.from_ } { e with vv := intsV (some [1]), lv := .nils } x.2.1 x.2.2.1 (g.led ⟨g.last + 1, e.term, 0, none⟩) x.2.2.2 ∧
      FrM s [p, d.ie, d.il, ia] M x.1 ∧ (x.2.1 = ia ∨ Un s x.2.1) ∧ Un s x.2.2.2 := by
  have hobj := h.obj
  have hel := h.el
  have e1 := eq_false h.ne1
  have e2 := eq_false (Ne.symm h.ne1)
  have hoff : ∀ x ∈ [p, d.ie, d.il, ia], Off s x := by
    intro x hx
    simp only [List.mem_cons, List.not_mem_nil, or_false] at hx
    rcases hx with rfl | rfl | rfl | rfl
    · exact Off_of hM h.obj
    · exact Off_of hM h.el
    · exact Off_of hM h.lg.obj
    · exact Off_of hM h.lg.arr
  have u1 : Un s (1 :: 0 :: 1 :: 0 :: 1 :: 1 :: 1 :: 0 :: 1 :: 1 :: 0 :: s) := by simp (maxDischargeDepth := 80) only [push_cast, Nat.reduceBEq, reduceIte, reduceCtorEq, Nat.reduceEqDiff, Nat.reduceAdd, Nat.reduceMul, Nat.reduceSub, Nat.reduceLeDiff, Nat.reduceLT, Nat.reducePow, Int.reduceToNat, Int.reduceLT, Int.reduceLE, Int.reduceEq, Int.reduceAdd, Int.reduceSub, Int.reduceNeg]
  have u2 : Un s (1 :: 0 :: 1 :: 1 :: 0 :: 1 :: 1 :: 1 :: 0 :: 1 :: 1 :: 0 :: s) := by simp (maxDischargeDepth := 80) only [push_cast, Nat.reduceBEq, reduceIte, reduceCtorEq, Nat.reduceEqDiff, Nat.reduceAdd, Nat.reduceMul, Nat.reduceSub, Nat.reduceLeDiff, Nat.reduceLT, Nat.reducePow, Int.reduceToNat, Int.reduceLT, Int.reduceLE, Int.reduceEq, Int.reduceAdd, Int.reduceSub, Int.reduceNeg]
  have u3 : Un s (1 :: 0 :: 1 :: 1 :: 1 :: 0 :: 1 :: 1 :: 1 :: 0 :: 1 :: 1 :: 0 :: s) := by simp (maxDischargeDepth := 80) only [push_cast, Nat.reduceBEq, reduceIte, reduceCtorEq, Nat.reduceEqDiff, Nat.reduceAdd, Nat.reduceMul, Nat.reduceSub, Nat.reduceLeDiff, Nat.reduceLT, Nat.reducePow, Int.reduceToNat, Int.reduceLT, Int.reduceLE, Int.reduceEq, Int.reduceAdd, Int.reduceSub, Int.reduceNeg]
  have u4 : Un s (1 :: 1 :: 1 :: 1 :: 1 :: 0 :: 1 :: 1 :: 1 :: 0 :: 1 :: 1 :: 0 :: s) := by simp (maxDischargeDepth := 80) only [push_cast, Nat.reduceBEq, reduceIte, reduceCtorEq, Nat.reduceEqDiff, Nat.reduceAdd, Nat.reduceMul, Nat.reduceSub, Nat.reduceLeDiff, Nat.reduceLT, Nat.reducePow, Int.reduceToNat, Int.reduceLT, Int.reduceLE, Int.reduceEq, Int.reduceAdd, Int.reduceSub, Int.reduceNeg]
  have r1 := fun s' (q1 : FreshM s' M) => role_E s' q1 hel
  rw [hr] at r1
  -- the group found anew
  obtain ⟨y, g1, g2, g3, g4, g5, g6⟩ := regroupL_E (d := { d with peers := .nilm, reads := .nils, round := 0 }) (M := M.set p (.cells (Nd.cs { d with peers := .nilm, reads := .nils, round := 0 }))) (p := p) (ia := ia) (v := v) (g := g) (e := e)
    (fun g _ => g) (fun _ => True) (1 :: 0 :: 1 :: 0 :: 1 :: 1 :: 1 :: 0 :: 1 :: 1 :: 0 :: s) (by simp (maxDischargeDepth := 80) only [push_cast, Nat.reduceBEq, reduceIte, reduceCtorEq, Nat.reduceEqDiff, Nat.reduceAdd, Nat.reduceMul, Nat.reduceSub, Nat.reduceLeDiff, Nat.reduceLT, Nat.reducePow, Int.reduceToNat, Int.reduceLT, Int.reduceLE, Int.reduceEq, Int.reduceAdd, Int.reduceSub, Int.reduceNeg, hobj, Off_dn (Off_of hM hobj), Off_ne (Off_of hM hobj), Off_ne' (Off_of hM hobj), fresh_dn hM, fresh_at hM]) ⟨by simp (maxDischargeDepth := 80) only [push_cast, Nat.reduceBEq, reduceIte, reduceCtorEq, Nat.reduceEqDiff, Nat.reduceAdd, Nat.reduceMul, Nat.reduceSub, Nat.reduceLeDiff, Nat.reduceLT, Nat.reducePow, Int.reduceToNat, Int.reduceLT, Int.reduceLE, Int.reduceEq, Int.reduceAdd, Int.reduceSub, Int.reduceNeg], by simp (maxDischargeDepth := 80) only [push_cast, Nat.reduceBEq, reduceIte, reduceCtorEq, Nat.reduceEqDiff, Nat.reduceAdd, Nat.reduceMul, Nat.reduceSub, Nat.reduceLeDiff, Nat.reduceLT, Nat.reducePow, Int.reduceToNat, Int.reduceLT, Int.reduceLE, Int.reduceEq, Int.reduceAdd, Int.reduceSub, Int.reduceNeg, e2, hel], h.lg.frame (by simp (maxDischargeDepth := 80) only [push_cast, Nat.reduceBEq, reduceIte, reduceCtorEq, Nat.reduceEqDiff, Nat.reduceAdd, Nat.reduceMul, Nat.reduceSub, Nat.reduceLeDiff, Nat.reduceLT, Nat.reducePow, Int.reduceToNat, Int.reduceLT, Int.reduceLE, Int.reduceEq, Int.reduceAdd, Int.reduceSub, Int.reduceNeg, eq_false (Ne.symm h.ne2)]) (by simp (maxDischargeDepth := 80) only [push_cast, Nat.reduceBEq, reduceIte, reduceCtorEq, Nat.reduceEqDiff, Nat.reduceAdd, Nat.reduceMul, Nat.reduceSub, Nat.reduceLeDiff, Nat.reduceLT, Nat.reducePow, Int.reduceToNat, Int.reduceLT, Int.reduceLE, Int.reduceEq, Int.reduceAdd, Int.reduceSub, Int.reduceNeg, eq_false (Ne.symm h.ne5)])⟩
    ⟨rfl, rfl, rfl, rfl, hok.m1, hok.m2, hok.e1, hok.e2⟩ (chg0 _ hk) trivial hr (by rw [groupL_const]; show (d.sn.vs, d.sn.ls) = (some [d.id], none); rw [hsn, hid]; rfl) (by show rightL [d.id] [] = true; rw [hid]; exact right1) (.inl rfl)
  simp only [hid] at g2 g3
  have hfr1 : FrM s [p, d.ie] M y.1 := by
    intro i hi hx
    rw [g6 i (Off_dn hi u1) hx]
    have : ¬ i = p := fun e => hx (by simp [e])
    simp (maxDischargeDepth := 80) only [push_cast, Nat.reduceBEq, reduceIte, reduceCtorEq, Nat.reduceEqDiff, Nat.reduceAdd, Nat.reduceMul, Nat.reduceSub, Nat.reduceLeDiff, Nat.reduceLT, Nat.reducePow, Int.reduceToNat, Int.reduceLT, Int.reduceLE, Int.reduceEq, Int.reduceAdd, Int.reduceSub, Int.reduceNeg, this]
  have hil1 : y.1 d.il = M d.il := hfr1 _ (hoff _ (by simp)) (by simp [Ne.symm h.ne2, Ne.symm h.ne3])
  have hia1 : y.1 ia = M ia := hfr1 _ (hoff _ (by simp)) (by simp [Ne.symm h.ne5, Ne.symm h.ne4])
  have hL1 : Lone y.1 p { d with gvs := some [1], gls := none, reads := .nils, round := 0, peers := .mapr y.2 } { e with vv := intsV (some [1]), lv := .nils } ia v g y.2 :=
    ⟨⟨(by rw [g2, hid]), g3, h.lg.frame hil1 hia1⟩, hk, hid, rfl, rfl, hsn, rfl, hms, rfl, hsw, hei, rfl, rfl, hr, rfl, g4, ⟨rfl, rfl, rfl, rfl, hok.m1, hok.m2, hok.e1, hok.e2⟩⟩
  have hF1 : ∀ t, Un s t → Off (1 :: 0 :: 1 :: 0 :: 1 :: 1 :: 1 :: 0 :: 1 :: 1 :: 0 :: s) t → Off t (1 :: 0 :: 1 :: 0 :: 1 :: 1 :: 1 :: 0 :: 1 :: 1 :: 0 :: s) → FreshM t y.1 := fun t ht h1 h2 => by
    refine g6.fr ?_ h1 h2 ?_
    · simp (maxDischargeDepth := 80) only [push_cast, Nat.reduceBEq, reduceIte, reduceCtorEq, Nat.reduceEqDiff, Nat.reduceAdd, Nat.reduceMul, Nat.reduceSub, Nat.reduceLeDiff, Nat.reduceLT, Nat.reducePow, Int.reduceToNat, Int.reduceLT, Int.reduceLE, Int.reduceEq, Int.reduceAdd, Int.reduceSub, Int.reduceNeg, fresh_dn hM, ht, Off_dn (Off_of hM hobj) ht]
    · intro x hx
      exact Off_dn (hoff x (by simp only [List.mem_cons, List.not_mem_nil, or_false] at hx ⊢; rcases hx with rfl | rfl <;> simp)) ht
  obtain ⟨x, k1, k2, k3, k4, k5⟩ := enter1_E 0 none (1 :: 0 :: 1 :: 1 :: 0 :: 1 :: 1 :: 1 :: 0 :: 1 :: 1 :: 0 :: s) (hF1 _ u2 (by simp (maxDischargeDepth := 80) only [push_cast, Nat.reduceBEq, reduceIte, reduceCtorEq, Nat.reduceEqDiff, Nat.reduceAdd, Nat.reduceMul, Nat.reduceSub, Nat.reduceLeDiff, Nat.reduceLT, Nat.reducePow, Int.reduceToNat, Int.reduceLT, Int.reduceLE, Int.reduceEq, Int.reduceAdd, Int.reduceSub, Int.reduceNeg]) (by simp (maxDischargeDepth := 80) only [push_cast, Nat.reduceBEq, reduceIte, reduceCtorEq, Nat.reduceEqDiff, Nat.reduceAdd, Nat.reduceMul, Nat.reduceSub, Nat.reduceLeDiff, Nat.reduceLT, Nat.reducePow, Int.reduceToNat, Int.reduceLT, Int.reduceLE, Int.reduceEq, Int.reduceAdd, Int.reduceSub, Int.reduceNeg])) hL1 (by decide) ha hn
  have hoff1 : ∀ t, Un s t → ∀ i ∈ [p, d.ie, d.il, ia], Off t i := fun t ht i hi => Off_dn (hoff i hi) ht
  have hF3 : FreshM (1 :: 0 :: 1 :: 1 :: 1 :: 0 :: 1 :: 1 :: 1 :: 0 :: 1 :: 1 :: 0 :: s) x.1 := k3.fr (hF1 _ u3 (by simp (maxDischargeDepth := 80) only [push_cast, Nat.reduceBEq, reduceIte, reduceCtorEq, Nat.reduceEqDiff, Nat.reduceAdd, Nat.reduceMul, Nat.reduceSub, Nat.reduceLeDiff, Nat.reduceLT, Nat.reducePow, Int.reduceToNat, Int.reduceLT, Int.reduceLE, Int.reduceEq, Int.reduceAdd, Int.reduceSub, Int.reduceNeg]) (by simp (maxDischargeDepth := 80) only [push_cast, Nat.reduceBEq, reduceIte, reduceCtorEq, Nat.reduceEqDiff, Nat.reduceAdd, Nat.reduceMul, Nat.reduceSub, Nat.reduceLeDiff, Nat.reduceLT, Nat.reducePow, Int.reduceToNat, Int.reduceLT, Int.reduceLE, Int.reduceEq, Int.reduceAdd, Int.reduceSub, Int.reduceNeg])) (by simp (maxDischargeDepth := 80) only [push_cast, Nat.reduceBEq, reduceIte, reduceCtorEq, Nat.reduceEqDiff, Nat.reduceAdd, Nat.reduceMul, Nat.reduceSub, Nat.reduceLeDiff, Nat.reduceLT, Nat.reducePow, Int.reduceToNat, Int.reduceLT, Int.reduceLE, Int.reduceEq, Int.reduceAdd, Int.reduceSub, Int.reduceNeg]) (by simp (maxDischargeDepth := 80) only [push_cast, Nat.reduceBEq, reduceIte, reduceCtorEq, Nat.reduceEqDiff, Nat.reduceAdd, Nat.reduceMul, Nat.reduceSub, Nat.reduceLeDiff, Nat.reduceLT, Nat.reducePow, Int.reduceToNat, Int.reduceLT, Int.reduceLE, Int.reduceEq, Int.reduceAdd, Int.reduceSub, Int.reduceNeg]) (hoff1 _ u3)
  have hF4 : FreshM (1 :: 1 :: 1 :: 1 :: 1 :: 0 :: 1 :: 1 :: 1 :: 0 :: 1 :: 1 :: 0 :: s) x.1 := k3.fr (hF1 _ u4 (by simp (maxDischargeDepth := 80) only [push_cast, Nat.reduceBEq, reduceIte, reduceCtorEq, Nat.reduceEqDiff, Nat.reduceAdd, Nat.reduceMul, Nat.reduceSub, Nat.reduceLeDiff, Nat.reduceLT, Nat.reducePow, Int.reduceToNat, Int.reduceLT, Int.reduceLE, Int.reduceEq, Int.reduceAdd, Int.reduceSub, Int.reduceNeg]) (by simp (maxDischargeDepth := 80) only [push_cast, Nat.reduceBEq, reduceIte, reduceCtorEq, Nat.reduceEqDiff, Nat.reduceAdd, Nat.reduceMul, Nat.reduceSub, Nat.reduceLeDiff, Nat.reduceLT, Nat.reducePow, Int.reduceToNat, Int.reduceLT, Int.reduceLE, Int.reduceEq, Int.reduceAdd, Int.reduceSub, Int.reduceNeg])) (by simp (maxDischargeDepth := 80) only [push_cast, Nat.reduceBEq, reduceIte, reduceCtorEq, Nat.reduceEqDiff, Nat.reduceAdd, Nat.reduceMul, Nat.reduceSub, Nat.reduceLeDiff, Nat.reduceLT, Nat.reducePow, Int.reduceToNat, Int.reduceLT, Int.reduceLE, Int.reduceEq, Int.reduceAdd, Int.reduceSub, Int.reduceNeg]) (by simp (maxDischargeDepth := 80) only [push_cast, Nat.reduceBEq, reduceIte, reduceCtorEq, Nat.reduceEqDiff, Nat.reduceAdd, Nat.reduceMul, Nat.reduceSub, Nat.reduceLeDiff, Nat.reduceLT, Nat.reducePow, Int.reduceToNat, Int.reduceLT, Int.reduceLE, Int.reduceEq, Int.reduceAdd, Int.reduceSub, Int.reduceNeg]) (hoff1 _ u4)
  have hx0 := addL_term (g := g) ⟨g.last + 1, e.term, 0, none⟩
  obtain ⟨M3, m1, m2, m3⟩ := advance1_E _ hF3 k2 (by rw [addL_last]; exact hx0) (by rw [addL_last]; exact Int.lt_add_one_of_le hc) (by rw [addL_last]; exact addL_has _)
  rw [addL_last] at m2
  have hN := k2.at_
  have hF5 : FreshM (1 :: 1 :: 1 :: 1 :: 1 :: 0 :: 1 :: 1 :: 1 :: 0 :: 1 :: 1 :: 0 :: s) M3 := m3.fr hF4 (by simp (maxDischargeDepth := 80) only [push_cast, Nat.reduceBEq, reduceIte, reduceCtorEq, Nat.reduceEqDiff, Nat.reduceAdd, Nat.reduceMul, Nat.reduceSub, Nat.reduceLeDiff, Nat.reduceLT, Nat.reducePow, Int.reduceToNat, Int.reduceLT, Int.reduceLE, Int.reduceEq, Int.reduceAdd, Int.reduceSub, Int.reduceNeg]) (by simp (maxDischargeDepth := 80) only [push_cast, Nat.reduceBEq, reduceIte, reduceCtorEq, Nat.reduceEqDiff, Nat.reduceAdd, Nat.reduceMul, Nat.reduceSub, Nat.reduceLeDiff, Nat.reduceLT, Nat.reducePow, Int.reduceToNat, Int.reduceLT, Int.reduceLE, Int.reduceEq, Int.reduceAdd, Int.reduceSub, Int.reduceNeg]) (fun i hi => by
    simp only [List.mem_singleton] at hi; subst hi; exact Off_of hF4 hN.lg.obj)
  have q1 : M3 p = x.1 p := m3 p (Off_of hF3 hN.obj) (by simp only [List.mem_singleton]; exact hN.ne2)
  have q2 : M3 d.ie = x.1 d.ie := m3 d.ie (Off_of hF3 hN.el) (by simp only [List.mem_singleton]; exact hN.ne3)
  have q3 : M3 x.2.1 = x.1 x.2.1 := m3 _ (Off_of hF3 hN.lg.arr) (by simp only [List.mem_singleton]; exact Ne.symm hN.lg.ne)
  have q4 : M3 x.2.2.2 = x.1 x.2.2.2 := m3 _ (Off_of hF3 k2.pm) (by simp only [List.mem_singleton]; intro q; have := k2.pm; rw [q] at this; rw [hN.lg.obj] at this; cases this)
  have hL : Lone M3 p { d with gvs := some [1], gls := none, reads := .nils, round := 0, peers := .mapr x.2.2.2, from_ := if d.from_ = 0 ∨ g.last + 1 < d.from_ then g.last + 1 else d.from_ } { e with vv := intsV (some [1]), lv := .nils } x.2.1 x.2.2.1 (g.led ⟨g.last + 1, e.term, 0, none⟩) x.2.2.2 :=
    ⟨⟨q1.trans hN.obj, q2.trans hN.el, ⟨m2, hN.lg.shape, q3.trans hN.lg.arr, ⟨hN.lg.ok.ne, hN.lg.ok.idx, hN.lg.ok.lo, hN.lg.ok.hi, hN.lg.ok.few, hN.lg.ok.data⟩⟩⟩, k2.kinds, k2.did, k2.dgv, k2.dgl, k2.dsn, k2.dre, k2.dms, k2.dro, k2.dsw, k2.eid, k2.evv, k2.elv, k2.role, k2.peers, q4.trans k2.pm, k2.ok⟩
  have r3 := all0_E _ hF5 hL.at_.obj (.inr ⟨_, hL.peers, hL.pm⟩)
  have hdn : dataV none = .nils := rfl
  rw [hdn] at k1
  refine ⟨(M3, x.2.1, x.2.2.1, x.2.2.2), ?_, hL, ?_, ?_, List.IsSuffix.trans u2 k5⟩
  · simp only [Nd.cs_eq, hid] at hobj g1
    rw [Fn_body Tryz.func37 (by decide) rfl rfl]
    simp (maxDischargeDepth := 80) only [push_cast, Nat.reduceBEq, reduceIte, reduceCtorEq, Nat.reduceEqDiff, Nat.reduceAdd, Nat.reduceMul, Nat.reduceSub, Nat.reduceLeDiff, Nat.reduceLT, Nat.reducePow, Int.reduceToNat, Int.reduceLT, Int.reduceLE, Int.reduceEq, Int.reduceAdd, Int.reduceSub, Int.reduceNeg, hobj, Off_dn (Off_of hM hobj), Off_ne (Off_of hM hobj), Off_ne' (Off_of hM hobj), r1, g1, k1, m1, r3, run_lp, eq_false h.ne1, eq_false (Ne.symm h.ne1), fresh_dn hM, fresh_at hM]
  · refine (hfr1.trans' ?_).trans ((k3.wide u2 (fun i _ hx => hx)).trans (m3.wide u3 (fun i _ hx => ?_)))
    · intro i hx; simp only [List.mem_cons, List.not_mem_nil, or_false, not_or] at hx ⊢; exact ⟨hx.1, hx.2.1⟩
    · simp only [List.mem_cons, List.not_mem_nil, or_false, not_or] at hx ⊢
      exact hx.2.2.1
  · rcases k4 with q | q
    · exact .inl q
    · exact .inr (List.IsSuffix.trans u2 q)
end Go.Ab.R
