/- Entries put into the log. Conditions: none. -/
import Derived.Test.YtpohfmcpfkbabaaGreatLg
set_option linter.unusedSimpArgs false
set_option linter.unusedVariables false
namespace Go.Ab.R
open Go Go.Proofs
set_option maxRecDepth 100000

def idxE (p : Ent → Bool) : List Ent → Nat → Int
  | [], _ => -1
  | x :: l, j => if p x then j else idxE p l (j + 1)
theorem idxE_neg (p : Ent → Bool) (l : List Ent) (j : Nat) : decide (0 ≤ idxE p l j) = l.any p := by
  induction l generalizing j with
  | nil => simp [idxE]
  | cons x l ih =>
    simp only [idxE]
    by_cases h : p x = true
    · simp [h]
    · simp only [if_neg h, ih]; simp [h]

theorem idxFn_E (v : V) (l : List Ent) (g : FuncId) (caps : List V) (p : Ent → Bool) (s : Id) (M : Mem) (hM : FreshM s M) (hv : RdE M v l) (hl : l.length < 2 ^ 40)
    (hp : ∀ e ∈ l, ∀ s' M', FreshM s' M' → Sub M M' → Fn env (env.fz 119 g) g (.agg e.cells :: caps) s' M' = some (.bool (p e), M')) :
    Fn env false 119 [v, .fn (.func g) [] caps] s M = some (.int .i64 (idxE p l 0), M) := by
  rw [Fn_body Tryz.func119 (by decide) rfl rfl]
  simp (maxDischargeDepth := 80) only [push_cast, Nat.reduceBEq, reduceIte, reduceCtorEq, Nat.reduceEqDiff, Nat.reduceAdd, Nat.reduceMul, Nat.reduceSub, Nat.reduceLeDiff, Nat.reduceLT, Nat.reducePow, Int.reduceToNat, Int.reduceLT, Int.reduceLE, Int.reduceEq, Int.reduceAdd, Int.reduceSub, Int.reduceNeg, hv.len]
  refine lp_rule (fun s1 j f M' => f 0 = v ∧ f 1 = .fn (.func g) [] caps ∧ f 7 = .int .i64 l.length ∧ f 8 = .int .i64 j ∧ idxE p l 0 = idxE p (l.drop j) j ∧ Sub M M' ∧ ∀ k, j ≤ k → FreshM (k :: s1) M') l.length ?_ (Nat.zero_le _) ?_ ?_
  · refine ⟨?_, ?_, ?_, ?_, ?_, ?_, ?_⟩ <;> simp (maxDischargeDepth := 80) only [push_cast, Nat.reduceBEq, reduceIte, reduceCtorEq, Nat.reduceEqDiff, Nat.reduceAdd, Nat.reduceMul, Nat.reduceSub, Nat.reduceLeDiff, Nat.reduceLT, Nat.reducePow, Int.reduceToNat, Int.reduceLT, Int.reduceLE, Int.reduceEq, Int.reduceAdd, Int.reduceSub, Int.reduceNeg]
    intro k _; simp (maxDischargeDepth := 80) only [push_cast, Nat.reduceBEq, reduceIte, reduceCtorEq, Nat.reduceEqDiff, Nat.reduceAdd, Nat.reduceMul, Nat.reduceSub, Nat.reduceLeDiff, Nat.reduceLT, Nat.reducePow, Int.reduceToNat, Int.reduceLT, Int.reduceLE, Int.reduceEq, Int.reduceAdd, Int.reduceSub, Int.reduceNeg, fresh_dn hM, fresh_at hM]
  · rintro j f M' hj ⟨h0, h1, h7, h8, hr, hsub, hF⟩ ih
    obtain ⟨q, hp1, hp2⟩ := hv.get j hj
    have hp3 := hp2 M' hsub
    have hjj : ((j : Int) < (l.length : Int)) = True := by simp; omega
    have hx : l.drop j = l[j] :: l.drop (j + 1) := List.drop_eq_getElem_cons hj
    have hFj := hF j (Nat.le_refl _)
    have hpp := fun s' M'' (q1 : FreshM s' M'') (q2 : Sub M' M'') => hp l[j] (List.getElem_mem hj) s' M'' q1 (sub_trans hsub q2)
    cases c1 : p l[j] with
    | true =>
      have e : idxE p l 0 = j := by rw [hr, hx, idxE, if_pos c1]
      rw [Ent.cells_eq] at hp3
      simp only [Ent.cells_eq] at hpp
      simp (maxDischargeDepth := 80) only [push_cast, Nat.reduceBEq, reduceIte, reduceCtorEq, Nat.reduceEqDiff, Nat.reduceAdd, Nat.reduceMul, Nat.reduceSub, Nat.reduceLeDiff, Nat.reduceLT, Nat.reducePow, Int.reduceToNat, Int.reduceLT, Int.reduceLE, Int.reduceEq, Int.reduceAdd, Int.reduceSub, Int.reduceNeg, h0, h1, h7, h8, hp1, hp3, hjj, hpp, c1, one_data, e, hsub, fresh_dn hFj, fresh_at hFj, fresh_dn hM, fresh_at hM]
    | false =>
      rw [Ent.cells_eq] at hp3
      simp only [Ent.cells_eq] at hpp
      simp (maxDischargeDepth := 80) only [push_cast, Nat.reduceBEq, reduceIte, reduceCtorEq, Nat.reduceEqDiff, Nat.reduceAdd, Nat.reduceMul, Nat.reduceSub, Nat.reduceLeDiff, Nat.reduceLT, Nat.reducePow, Int.reduceToNat, Int.reduceLT, Int.reduceLE, Int.reduceEq, Int.reduceAdd, Int.reduceSub, Int.reduceNeg, h0, h1, h7, h8, hp1, hp3, hjj, hpp, c1, one_data, fresh_dn hFj, fresh_at hFj, fresh_dn hM, fresh_at hM]
      refine ih _ _ ⟨?_, ?_, ?_, ?_, ?_, ?_, ?_⟩
      · simp (maxDischargeDepth := 80) only [push_cast, Nat.reduceBEq, reduceIte, reduceCtorEq, Nat.reduceEqDiff, Nat.reduceAdd, Nat.reduceMul, Nat.reduceSub, Nat.reduceLeDiff, Nat.reduceLT, Nat.reducePow, Int.reduceToNat, Int.reduceLT, Int.reduceLE, Int.reduceEq, Int.reduceAdd, Int.reduceSub, Int.reduceNeg, h0]
      · simp (maxDischargeDepth := 80) only [push_cast, Nat.reduceBEq, reduceIte, reduceCtorEq, Nat.reduceEqDiff, Nat.reduceAdd, Nat.reduceMul, Nat.reduceSub, Nat.reduceLeDiff, Nat.reduceLT, Nat.reducePow, Int.reduceToNat, Int.reduceLT, Int.reduceLE, Int.reduceEq, Int.reduceAdd, Int.reduceSub, Int.reduceNeg, h1]
      · simp (maxDischargeDepth := 80) only [push_cast, Nat.reduceBEq, reduceIte, reduceCtorEq, Nat.reduceEqDiff, Nat.reduceAdd, Nat.reduceMul, Nat.reduceSub, Nat.reduceLeDiff, Nat.reduceLT, Nat.reducePow, Int.reduceToNat, Int.reduceLT, Int.reduceLE, Int.reduceEq, Int.reduceAdd, Int.reduceSub, Int.reduceNeg, h7]
      · simp (maxDischargeDepth := 80) only [push_cast, Nat.reduceBEq, reduceIte, reduceCtorEq, Nat.reduceEqDiff, Nat.reduceAdd, Nat.reduceMul, Nat.reduceSub, Nat.reduceLeDiff, Nat.reduceLT, Nat.reducePow, Int.reduceToNat, Int.reduceLT, Int.reduceLE, Int.reduceEq, Int.reduceAdd, Int.reduceSub, Int.reduceNeg, h8]
        exact congrArg (V.int IntKind.i64) (wrap_nat j (by omega))
      · rw [hr, hx, idxE, if_neg (by simp [c1])]
      · simp (maxDischargeDepth := 80) only [push_cast, Nat.reduceBEq, reduceIte, reduceCtorEq, Nat.reduceEqDiff, Nat.reduceAdd, Nat.reduceMul, Nat.reduceSub, Nat.reduceLeDiff, Nat.reduceLT, Nat.reducePow, Int.reduceToNat, Int.reduceLT, Int.reduceLE, Int.reduceEq, Int.reduceAdd, Int.reduceSub, Int.reduceNeg, hsub, fresh_dn hM, fresh_at hM]
      · intro k hk
        simp (maxDischargeDepth := 80) only [push_cast, Nat.reduceBEq, reduceIte, reduceCtorEq, Nat.reduceEqDiff, Nat.reduceAdd, Nat.reduceMul, Nat.reduceSub, Nat.reduceLeDiff, Nat.reduceLT, Nat.reducePow, Int.reduceToNat, Int.reduceLT, Int.reduceLE, Int.reduceEq, Int.reduceAdd, Int.reduceSub, Int.reduceNeg, fresh_dn (hF k (by omega)), Off_deep (show k ≠ j by omega), eq_false (show ¬ k = j by omega)]
  · rintro f M' ⟨h0, h1, h7, h8, hr, hsub, hF⟩
    have hjj : ((l.length : Int) < (l.length : Int)) = False := by simp
    simp (maxDischargeDepth := 80) only [push_cast, Nat.reduceBEq, reduceIte, reduceCtorEq, Nat.reduceEqDiff, Nat.reduceAdd, Nat.reduceMul, Nat.reduceSub, Nat.reduceLeDiff, Nat.reduceLT, Nat.reducePow, Int.reduceToNat, Int.reduceLT, Int.reduceLE, Int.reduceEq, Int.reduceAdd, Int.reduceSub, Int.reduceNeg, h0, h1, h7, h8, hjj, hsub]
    rw [hr]
    simp [idxE]

theorem contFn_E (v : V) (l : List Ent) (g : FuncId) (caps : List V) (p : Ent → Bool) (s : Id) (M : Mem) (hM : FreshM s M) (hv : RdE M v l) (hl : l.length < 2 ^ 40)
    (hp : ∀ e ∈ l, ∀ s' M', FreshM s' M' → Sub M M' → Fn env (env.fz 119 g) g (.agg e.cells :: caps) s' M' = some (.bool (p e), M')) :
    Fn env false 56 [v, .fn (.func g) [] caps] s M = some (.bool (l.any p), M) := by
  rw [Fn_body Tryz.func56 (by decide) rfl rfl]
  have r1 := fun s' M' (q1 : FreshM s' M') (q2 : Sub M M') => idxFn_E v l g caps p s' M' q1 (hv.mono q2) hl (fun e he s'' M'' k1 k2 => hp e he s'' M'' k1 (sub_trans q2 k2))
  simp (maxDischargeDepth := 80) only [push_cast, Nat.reduceBEq, reduceIte, reduceCtorEq, Nat.reduceEqDiff, Nat.reduceAdd, Nat.reduceMul, Nat.reduceSub, Nat.reduceLeDiff, Nat.reduceLT, Nat.reducePow, Int.reduceToNat, Int.reduceLT, Int.reduceLE, Int.reduceEq, Int.reduceAdd, Int.reduceSub, Int.reduceNeg, r1, idxE_neg, fresh_dn hM, fresh_at hM]

def copiedV : List Ent → V
  | [] => .nils
  | l => .psl (flatE l) l.length false
theorem copiedV_nil : copiedV [] = .nils := rfl
theorem copiedV_cons (x : Ent) (l : List Ent) : copiedV (x :: l) = .psl (flatE (x :: l)) (l.length + 1) false := rfl
theorem fz_copied (M : Mem) (l : List Ent) : freezeV M (copiedV l) = some (copiedV l, M) := by cases l <;> rfl
theorem copiedV_ents (M : Mem) (l : List Ent) : EntsV M (copiedV l) l := by
  cases l with
  | nil => exact .nils
  | cons x l => exact .psl _ _

/-- what is being put together -/
inductive Grown (M0 M : Mem) : V → List Ent → Prop
  | nils : Grown M0 M .nils []
  | sl (i : Id) (n : Nat) (cs : List V) (l : List Ent) (hn : l.length = n) (hc : cs = flatE l) (hp : 0 < n) (h : M i = some (.cells cs)) (h0 : M0 i = none) : Grown M0 M (.sl i 0 n 4 none) l
theorem Sub_del' {M M' : Mem} {t : Id} (hn : M t = none) (h : Sub M M') : Sub M (M'.del t) := Sub_del h hn

theorem copied_E (v : V) (l : List Ent) (s : Id) (M : Mem) (hM : FreshM s M) (hv : RdE M v l) (hl : l.length ≤ 2 ^ 35) (hd : ∀ e ∈ l, dlen e.data ≤ mostLen) :
    Fn env true 87 [v] s M = some (copiedV l, M) := by
  rw [Fn_body Tryz.func87 (by decide) rfl rfl]
  simp (maxDischargeDepth := 80) only [push_cast, Nat.reduceBEq, reduceIte, reduceCtorEq, Nat.reduceEqDiff, Nat.reduceAdd, Nat.reduceMul, Nat.reduceSub, Nat.reduceLeDiff, Nat.reduceLT, Nat.reducePow, Int.reduceToNat, Int.reduceLT, Int.reduceLE, Int.reduceEq, Int.reduceAdd, Int.reduceSub, Int.reduceNeg, hv.len]
  refine lp_rule (fun s1 j f M' => ∃ o, f 3 = o ∧ f 6 = v ∧ f 7 = .int .i64 l.length ∧ f 8 = .int .i64 j ∧ Grown M M' o (l.take j) ∧ Sub M M' ∧ ∀ k, j ≤ k → FreshM (k :: s1) M') l.length ?_ (Nat.zero_le _) ?_ ?_
  · refine ⟨.nils, ?_, ?_, ?_, ?_, ?_, ?_, ?_⟩ <;> simp (maxDischargeDepth := 80) only [push_cast, Nat.reduceBEq, reduceIte, reduceCtorEq, Nat.reduceEqDiff, Nat.reduceAdd, Nat.reduceMul, Nat.reduceSub, Nat.reduceLeDiff, Nat.reduceLT, Nat.reducePow, Int.reduceToNat, Int.reduceLT, Int.reduceLE, Int.reduceEq, Int.reduceAdd, Int.reduceSub, Int.reduceNeg]
    · exact .nils
    · intro k _; simp (maxDischargeDepth := 80) only [push_cast, Nat.reduceBEq, reduceIte, reduceCtorEq, Nat.reduceEqDiff, Nat.reduceAdd, Nat.reduceMul, Nat.reduceSub, Nat.reduceLeDiff, Nat.reduceLT, Nat.reducePow, Int.reduceToNat, Int.reduceLT, Int.reduceLE, Int.reduceEq, Int.reduceAdd, Int.reduceSub, Int.reduceNeg, fresh_dn hM, fresh_at hM]
  · rintro j f M' hj ⟨o, h3, h6, h7, h8, hg, hsub, hF⟩ ih
    obtain ⟨q, hp1, hp2⟩ := hv.get j hj
    have hp3 := hp2 M' hsub
    have hjj : ((j : Int) < (l.length : Int)) = True := by simp; omega
    have hFj := hF j (Nat.le_refl _)
    have hcl := fun s' M'' (q1 : FreshM s' M'') => cloneB_E l[j].data (fun b hb => by have := hd l[j] (List.getElem_mem hj); rw [hb] at this; exact this) s' M'' q1
    rw [Ent.cells_eq] at hp3
    have hstep : flatE (l.take (j + 1)) = flatE (l.take j) ++ [.int .i64 l[j].index, .int .i64 l[j].term, .int .i64 l[j].kind, dataV l[j].data] := by
      rw [List.take_succ_eq_append_getElem hj, flatE_append]; simp [flatE, Ent.cells]
    have cdata : (dataV l[j].data).cells = [dataV l[j].data] := by cases l[j].data <;> rfl
    generalize hlj : l.take j = lj at hg hstep
    have hljl : lj.length = j := by rw [← hlj, List.length_take]; omega
    cases hg with
    | nils =>
      simp (maxDischargeDepth := 80) only [push_cast, Nat.reduceBEq, reduceIte, reduceCtorEq, Nat.reduceEqDiff, Nat.reduceAdd, Nat.reduceMul, Nat.reduceSub, Nat.reduceLeDiff, Nat.reduceLT, Nat.reducePow, Int.reduceToNat, Int.reduceLT, Int.reduceLE, Int.reduceEq, Int.reduceAdd, Int.reduceSub, Int.reduceNeg, h3, h6, h7, h8, hp1, hp3, hjj, one_data, cdata, hcl, fresh_dn hFj, fresh_at hFj, fresh_dn hM, fresh_at hM, mostLen]
      refine ih _ _ ⟨_, rfl, ?_, ?_, ?_, ?_, ?_, ?_⟩
      · simp (maxDischargeDepth := 80) only [push_cast, Nat.reduceBEq, reduceIte, reduceCtorEq, Nat.reduceEqDiff, Nat.reduceAdd, Nat.reduceMul, Nat.reduceSub, Nat.reduceLeDiff, Nat.reduceLT, Nat.reducePow, Int.reduceToNat, Int.reduceLT, Int.reduceLE, Int.reduceEq, Int.reduceAdd, Int.reduceSub, Int.reduceNeg, h6]
      · simp (maxDischargeDepth := 80) only [push_cast, Nat.reduceBEq, reduceIte, reduceCtorEq, Nat.reduceEqDiff, Nat.reduceAdd, Nat.reduceMul, Nat.reduceSub, Nat.reduceLeDiff, Nat.reduceLT, Nat.reducePow, Int.reduceToNat, Int.reduceLT, Int.reduceLE, Int.reduceEq, Int.reduceAdd, Int.reduceSub, Int.reduceNeg, h7]
      · simp (maxDischargeDepth := 80) only [push_cast, Nat.reduceBEq, reduceIte, reduceCtorEq, Nat.reduceEqDiff, Nat.reduceAdd, Nat.reduceMul, Nat.reduceSub, Nat.reduceLeDiff, Nat.reduceLT, Nat.reducePow, Int.reduceToNat, Int.reduceLT, Int.reduceLE, Int.reduceEq, Int.reduceAdd, Int.reduceSub, Int.reduceNeg, h8]
        exact congrArg (V.int IntKind.i64) (wrap_nat j (by omega))
      · simp (maxDischargeDepth := 80) only [push_cast, Nat.reduceBEq, reduceIte, reduceCtorEq, Nat.reduceEqDiff, Nat.reduceAdd, Nat.reduceMul, Nat.reduceSub, Nat.reduceLeDiff, Nat.reduceLT, Nat.reducePow, Int.reduceToNat, Int.reduceLT, Int.reduceLE, Int.reduceEq, Int.reduceAdd, Int.reduceSub, Int.reduceNeg]
        refine .sl _ _ _ _ (by rw [List.length_take]; simp at hljl; omega) hstep.symm (by omega) ?_ ?_
        · simp (maxDischargeDepth := 80) only [push_cast, Nat.reduceBEq, reduceIte, reduceCtorEq, Nat.reduceEqDiff, Nat.reduceAdd, Nat.reduceMul, Nat.reduceSub, Nat.reduceLeDiff, Nat.reduceLT, Nat.reducePow, Int.reduceToNat, Int.reduceLT, Int.reduceLE, Int.reduceEq, Int.reduceAdd, Int.reduceSub, Int.reduceNeg, flatE_nil]
        · simp (maxDischargeDepth := 80) only [push_cast, Nat.reduceBEq, reduceIte, reduceCtorEq, Nat.reduceEqDiff, Nat.reduceAdd, Nat.reduceMul, Nat.reduceSub, Nat.reduceLeDiff, Nat.reduceLT, Nat.reducePow, Int.reduceToNat, Int.reduceLT, Int.reduceLE, Int.reduceEq, Int.reduceAdd, Int.reduceSub, Int.reduceNeg, fresh_dn hM, fresh_at hM]
      · simp (maxDischargeDepth := 80) only [push_cast, Nat.reduceBEq, reduceIte, reduceCtorEq, Nat.reduceEqDiff, Nat.reduceAdd, Nat.reduceMul, Nat.reduceSub, Nat.reduceLeDiff, Nat.reduceLT, Nat.reducePow, Int.reduceToNat, Int.reduceLT, Int.reduceLE, Int.reduceEq, Int.reduceAdd, Int.reduceSub, Int.reduceNeg, hsub, fresh_dn hM, fresh_at hM]
      · intro k hk
        simp (maxDischargeDepth := 80) only [push_cast, Nat.reduceBEq, reduceIte, reduceCtorEq, Nat.reduceEqDiff, Nat.reduceAdd, Nat.reduceMul, Nat.reduceSub, Nat.reduceLeDiff, Nat.reduceLT, Nat.reducePow, Int.reduceToNat, Int.reduceLT, Int.reduceLE, Int.reduceEq, Int.reduceAdd, Int.reduceSub, Int.reduceNeg, fresh_dn (hF k (by omega)), Off_deep (show k ≠ j by omega), eq_false (show ¬ k = j by omega)]
    | sl i n cs lj hn hc hp h h0 =>
      have hcl' : cs.length = n * 4 := by rw [hc, flatE_len, hn]
      have hn2 : n + 1 ≤ 68719476736 := by omega
      simp (maxDischargeDepth := 80) only [push_cast, Nat.reduceBEq, reduceIte, reduceCtorEq, Nat.reduceEqDiff, Nat.reduceAdd, Nat.reduceMul, Nat.reduceSub, Nat.reduceLeDiff, Nat.reduceLT, Nat.reducePow, Int.reduceToNat, Int.reduceLT, Int.reduceLE, Int.reduceEq, Int.reduceAdd, Int.reduceSub, Int.reduceNeg, h3, h6, h7, h8, hp1, hp3, hjj, one_data, cdata, hcl, h, Off_dn (Off_of hFj h), Off_ne (Off_of hFj h), Off_ne' (Off_of hFj h), h0, hcl', hn2, fresh_dn hFj, fresh_at hFj, fresh_dn hM, fresh_at hM, mostLen]
      refine ih _ _ ⟨_, rfl, ?_, ?_, ?_, ?_, ?_, ?_⟩
      · simp (maxDischargeDepth := 80) only [push_cast, Nat.reduceBEq, reduceIte, reduceCtorEq, Nat.reduceEqDiff, Nat.reduceAdd, Nat.reduceMul, Nat.reduceSub, Nat.reduceLeDiff, Nat.reduceLT, Nat.reducePow, Int.reduceToNat, Int.reduceLT, Int.reduceLE, Int.reduceEq, Int.reduceAdd, Int.reduceSub, Int.reduceNeg, h6]
      · simp (maxDischargeDepth := 80) only [push_cast, Nat.reduceBEq, reduceIte, reduceCtorEq, Nat.reduceEqDiff, Nat.reduceAdd, Nat.reduceMul, Nat.reduceSub, Nat.reduceLeDiff, Nat.reduceLT, Nat.reducePow, Int.reduceToNat, Int.reduceLT, Int.reduceLE, Int.reduceEq, Int.reduceAdd, Int.reduceSub, Int.reduceNeg, h7]
      · simp (maxDischargeDepth := 80) only [push_cast, Nat.reduceBEq, reduceIte, reduceCtorEq, Nat.reduceEqDiff, Nat.reduceAdd, Nat.reduceMul, Nat.reduceSub, Nat.reduceLeDiff, Nat.reduceLT, Nat.reducePow, Int.reduceToNat, Int.reduceLT, Int.reduceLE, Int.reduceEq, Int.reduceAdd, Int.reduceSub, Int.reduceNeg, h8]
        exact congrArg (V.int IntKind.i64) (wrap_nat j (by omega))
      · simp (maxDischargeDepth := 80) only [push_cast, Nat.reduceBEq, reduceIte, reduceCtorEq, Nat.reduceEqDiff, Nat.reduceAdd, Nat.reduceMul, Nat.reduceSub, Nat.reduceLeDiff, Nat.reduceLT, Nat.reducePow, Int.reduceToNat, Int.reduceLT, Int.reduceLE, Int.reduceEq, Int.reduceAdd, Int.reduceSub, Int.reduceNeg]
        refine .sl _ _ _ _ (by rw [List.length_take]; omega) (hstep.symm) (by omega) ?_ ?_
        · simp (maxDischargeDepth := 80) only [push_cast, Nat.reduceBEq, reduceIte, reduceCtorEq, Nat.reduceEqDiff, Nat.reduceAdd, Nat.reduceMul, Nat.reduceSub, Nat.reduceLeDiff, Nat.reduceLT, Nat.reducePow, Int.reduceToNat, Int.reduceLT, Int.reduceLE, Int.reduceEq, Int.reduceAdd, Int.reduceSub, Int.reduceNeg, hc]
        · simp (maxDischargeDepth := 80) only [push_cast, Nat.reduceBEq, reduceIte, reduceCtorEq, Nat.reduceEqDiff, Nat.reduceAdd, Nat.reduceMul, Nat.reduceSub, Nat.reduceLeDiff, Nat.reduceLT, Nat.reducePow, Int.reduceToNat, Int.reduceLT, Int.reduceLE, Int.reduceEq, Int.reduceAdd, Int.reduceSub, Int.reduceNeg, fresh_dn hM, fresh_at hM]
      · simp (maxDischargeDepth := 80) only [push_cast, Nat.reduceBEq, reduceIte, reduceCtorEq, Nat.reduceEqDiff, Nat.reduceAdd, Nat.reduceMul, Nat.reduceSub, Nat.reduceLeDiff, Nat.reduceLT, Nat.reducePow, Int.reduceToNat, Int.reduceLT, Int.reduceLE, Int.reduceEq, Int.reduceAdd, Int.reduceSub, Int.reduceNeg, hsub, h0, fresh_dn hM, fresh_at hM]
      · intro k hk
        simp (maxDischargeDepth := 80) only [push_cast, Nat.reduceBEq, reduceIte, reduceCtorEq, Nat.reduceEqDiff, Nat.reduceAdd, Nat.reduceMul, Nat.reduceSub, Nat.reduceLeDiff, Nat.reduceLT, Nat.reducePow, Int.reduceToNat, Int.reduceLT, Int.reduceLE, Int.reduceEq, Int.reduceAdd, Int.reduceSub, Int.reduceNeg, fresh_dn (hF k (by omega)), Off_deep (show k ≠ j by omega), eq_false (show ¬ k = j by omega), Off_of (hF k (by omega)) h]
  · rintro f M' ⟨o, h3, h6, h7, h8, hg, hsub, hF⟩
    have hjj : ((l.length : Int) < (l.length : Int)) = False := by simp
    rw [List.take_of_length_le (Nat.le_refl _)] at hg
    cases hg with
    | nils => simp (maxDischargeDepth := 80) only [push_cast, Nat.reduceBEq, reduceIte, reduceCtorEq, Nat.reduceEqDiff, Nat.reduceAdd, Nat.reduceMul, Nat.reduceSub, Nat.reduceLeDiff, Nat.reduceLT, Nat.reducePow, Int.reduceToNat, Int.reduceLT, Int.reduceLE, Int.reduceEq, Int.reduceAdd, Int.reduceSub, Int.reduceNeg, h3, h6, h7, h8, hjj, hsub, copiedV]
    | sl i n cs l hn hc hp h h0 =>
      have hcl' : cs.length = n * 4 := by rw [hc, flatE_len, hn]
      have hcv : copiedV l = .psl cs n false := by
        cases l with
        | nil => simp at hn; omega
        | cons x l => rw [copiedV_cons, hc, ← hn]; rfl
      simp (maxDischargeDepth := 80) only [push_cast, Nat.reduceBEq, reduceIte, reduceCtorEq, Nat.reduceEqDiff, Nat.reduceAdd, Nat.reduceMul, Nat.reduceSub, Nat.reduceLeDiff, Nat.reduceLT, Nat.reducePow, Int.reduceToNat, Int.reduceLT, Int.reduceLE, Int.reduceEq, Int.reduceAdd, Int.reduceSub, Int.reduceNeg, h3, h6, h7, h8, hjj, hsub, h, h0, hcl', hcv, take_len]
end Go.Ab.R
