/- Groups and majorities: what the quorum's functions come to. Conditions: none. -/
import Derived.Test.YtpohfmcpfkbabaaGreatRl
set_option linter.unusedSimpArgs false
set_option linter.unusedVariables false
namespace Go.Ab.R
open Go Go.Proofs
set_option maxRecDepth 100000

/-- a value that is a slice of numbers -/
structure RdI (M : Mem) (v : V) (l : List Int) : Prop where
  len : ∀ M', lenV Tryz.prog 30 M' v = some (.int .i64 l.length)
  get : ∀ j (h : j < l.length), ∃ p, indexAddrV Tryz.prog 30 v (.int .i64 j) = some p ∧ ∀ M', Sub M M' → loadV Tryz.prog 3 M' p = some (.int .i64 l[j])
  one : v.one = true
  cells : v.cells = [v]
  small : l.length < 2 ^ 40
theorem RdI.mono {M M' v l} (h : RdI M v l) (hs : Sub M M') : RdI M' v l :=
  ⟨h.len, fun j hj => by obtain ⟨p, h1, h2⟩ := h.get j hj; exact ⟨p, h1, fun M'' h3 => h2 M'' (sub_trans hs h3)⟩, h.one, h.cells, h.small⟩

def intV (n : Int) : V := .int .i64 n
/-- numbers that nobody changes -/
def intsV : Option (List Int) → V
  | none => .nils
  | some l => .psl (l.map intV) l.length false
def intsL : Option (List Int) → List Int
  | none => []
  | some l => l
theorem RdI_ints (M : Mem) (o : Option (List Int)) (h : (intsL o).length < 2 ^ 40) : RdI M (intsV o) (intsL o) := by
  cases o with
  | none => exact ⟨fun _ => by simp only [intsV, intsL, ln_nils, kd30]; rfl, fun j hj => absurd hj (by simp [intsL]), rfl, rfl, h⟩
  | some l =>
    refine ⟨fun _ => by simp only [intsV, intsL, ln_psl, kd30], fun j hj => ?_, rfl, rfl, h⟩
    have hj' : j < l.length := hj
    have h1 : ((j : Int) < (l.length : Int)) = True := by simp; omega
    refine ⟨.pptr ((l.map intV).drop j), ?_, fun M' _ => ?_⟩
    · simp (maxDischargeDepth := 80) only [push_cast, Nat.reduceBEq, reduceIte, reduceCtorEq, Nat.reduceEqDiff, Nat.reduceAdd, Nat.reduceMul, Nat.reduceSub, Nat.reduceLeDiff, Nat.reduceLT, Nat.reducePow, Int.reduceToNat, Int.reduceLT, Int.reduceLE, Int.reduceEq, Int.reduceAdd, Int.reduceSub, Int.reduceNeg, intsV, h1]
      simp
    · simp (maxDischargeDepth := 80) only [push_cast, Nat.reduceBEq, reduceIte, reduceCtorEq, Nat.reduceEqDiff, Nat.reduceAdd, Nat.reduceMul, Nat.reduceSub, Nat.reduceLeDiff, Nat.reduceLT, Nat.reducePow, Int.reduceToNat, Int.reduceLT, Int.reduceLE, Int.reduceEq, Int.reduceAdd, Int.reduceSub, Int.reduceNeg]
      simp [intsL, hj', intV]

def risesL : List Int → Int → Bool
  | [], _ => true
  | x :: l, a => if x ≤ a ∨ 15 < x then false else risesL l x

theorem rises_E (v : V) (l : List Int) (s : Id) (M : Mem) (hM : FreshM s M) (hv : RdI M v l) :
    Fn env false 156 [v] s M = some (.bool (risesL l 0), M) := by
  have hl := hv.small
  rw [Fn_body Tryz.func156 (by decide) rfl rfl]
  simp (maxDischargeDepth := 80) only [push_cast, Nat.reduceBEq, reduceIte, reduceCtorEq, Nat.reduceEqDiff, Nat.reduceAdd, Nat.reduceMul, Nat.reduceSub, Nat.reduceLeDiff, Nat.reduceLT, Nat.reducePow, Int.reduceToNat, Int.reduceLT, Int.reduceLE, Int.reduceEq, Int.reduceAdd, Int.reduceSub, Int.reduceNeg, hv.len]
  refine lp_rule (fun s1 j f M' => ∃ a, f 3 = .int .i64 a ∧ f 6 = v ∧ f 7 = .int .i64 l.length ∧ f 8 = .int .i64 j ∧ risesL l 0 = risesL (l.drop j) a ∧ Sub M M' ∧ ∀ k, j ≤ k → FreshM (k :: s1) M') l.length ?_ (Nat.zero_le _) ?_ ?_
  · refine ⟨0, ?_, ?_, ?_, ?_, ?_, ?_, ?_⟩ <;> simp (maxDischargeDepth := 80) only [push_cast, Nat.reduceBEq, reduceIte, reduceCtorEq, Nat.reduceEqDiff, Nat.reduceAdd, Nat.reduceMul, Nat.reduceSub, Nat.reduceLeDiff, Nat.reduceLT, Nat.reducePow, Int.reduceToNat, Int.reduceLT, Int.reduceLE, Int.reduceEq, Int.reduceAdd, Int.reduceSub, Int.reduceNeg]
    intro k _; simp (maxDischargeDepth := 80) only [push_cast, Nat.reduceBEq, reduceIte, reduceCtorEq, Nat.reduceEqDiff, Nat.reduceAdd, Nat.reduceMul, Nat.reduceSub, Nat.reduceLeDiff, Nat.reduceLT, Nat.reducePow, Int.reduceToNat, Int.reduceLT, Int.reduceLE, Int.reduceEq, Int.reduceAdd, Int.reduceSub, Int.reduceNeg, fresh_dn hM, fresh_at hM]
  · rintro j f M' hj ⟨a, h3, h6, h7, h8, hr, hsub, hF⟩ ih
    obtain ⟨p, hp1, hp2⟩ := hv.get j hj
    have hp3 := hp2 M' hsub
    have hjj : ((j : Int) < (l.length : Int)) = True := by simp; omega
    have hx : l.drop j = l[j] :: l.drop (j + 1) := List.drop_eq_getElem_cons hj
    have hFj := hF j (Nat.le_refl _)
    by_cases c1 : l[j] ≤ a
    · have e : risesL l 0 = false := by rw [hr, hx, risesL, if_pos (.inl c1)]
      simp (maxDischargeDepth := 80) only [push_cast, Nat.reduceBEq, reduceIte, reduceCtorEq, Nat.reduceEqDiff, Nat.reduceAdd, Nat.reduceMul, Nat.reduceSub, Nat.reduceLeDiff, Nat.reduceLT, Nat.reducePow, Int.reduceToNat, Int.reduceLT, Int.reduceLE, Int.reduceEq, Int.reduceAdd, Int.reduceSub, Int.reduceNeg, h3, h6, h7, h8, hp1, hp3, hjj, c1, e, hsub, fresh_dn hFj, fresh_at hFj, fresh_dn hM, fresh_at hM]
    · by_cases c2 : 15 < l[j]
      · have e : risesL l 0 = false := by rw [hr, hx, risesL, if_pos (.inr c2)]
        simp (maxDischargeDepth := 80) only [push_cast, Nat.reduceBEq, reduceIte, reduceCtorEq, Nat.reduceEqDiff, Nat.reduceAdd, Nat.reduceMul, Nat.reduceSub, Nat.reduceLeDiff, Nat.reduceLT, Nat.reducePow, Int.reduceToNat, Int.reduceLT, Int.reduceLE, Int.reduceEq, Int.reduceAdd, Int.reduceSub, Int.reduceNeg, h3, h6, h7, h8, hp1, hp3, hjj, c1, c2, e, hsub, fresh_dn hFj, fresh_at hFj, fresh_dn hM, fresh_at hM]
      · simp (maxDischargeDepth := 80) only [push_cast, Nat.reduceBEq, reduceIte, reduceCtorEq, Nat.reduceEqDiff, Nat.reduceAdd, Nat.reduceMul, Nat.reduceSub, Nat.reduceLeDiff, Nat.reduceLT, Nat.reducePow, Int.reduceToNat, Int.reduceLT, Int.reduceLE, Int.reduceEq, Int.reduceAdd, Int.reduceSub, Int.reduceNeg, h3, h6, h7, h8, hp1, hp3, hjj, c1, c2, fresh_dn hFj, fresh_at hFj, fresh_dn hM, fresh_at hM]
        refine ih _ _ ⟨l[j], ?_, ?_, ?_, ?_, ?_, ?_, ?_⟩
        · simp (maxDischargeDepth := 80) only [push_cast, Nat.reduceBEq, reduceIte, reduceCtorEq, Nat.reduceEqDiff, Nat.reduceAdd, Nat.reduceMul, Nat.reduceSub, Nat.reduceLeDiff, Nat.reduceLT, Nat.reducePow, Int.reduceToNat, Int.reduceLT, Int.reduceLE, Int.reduceEq, Int.reduceAdd, Int.reduceSub, Int.reduceNeg]
        · simp (maxDischargeDepth := 80) only [push_cast, Nat.reduceBEq, reduceIte, reduceCtorEq, Nat.reduceEqDiff, Nat.reduceAdd, Nat.reduceMul, Nat.reduceSub, Nat.reduceLeDiff, Nat.reduceLT, Nat.reducePow, Int.reduceToNat, Int.reduceLT, Int.reduceLE, Int.reduceEq, Int.reduceAdd, Int.reduceSub, Int.reduceNeg, h6]
        · simp (maxDischargeDepth := 80) only [push_cast, Nat.reduceBEq, reduceIte, reduceCtorEq, Nat.reduceEqDiff, Nat.reduceAdd, Nat.reduceMul, Nat.reduceSub, Nat.reduceLeDiff, Nat.reduceLT, Nat.reducePow, Int.reduceToNat, Int.reduceLT, Int.reduceLE, Int.reduceEq, Int.reduceAdd, Int.reduceSub, Int.reduceNeg, h7]
        · simp (maxDischargeDepth := 80) only [push_cast, Nat.reduceBEq, reduceIte, reduceCtorEq, Nat.reduceEqDiff, Nat.reduceAdd, Nat.reduceMul, Nat.reduceSub, Nat.reduceLeDiff, Nat.reduceLT, Nat.reducePow, Int.reduceToNat, Int.reduceLT, Int.reduceLE, Int.reduceEq, Int.reduceAdd, Int.reduceSub, Int.reduceNeg, h8]
          exact congrArg (V.int IntKind.i64) (wrap_nat j (by omega))
        · rw [hr, hx, risesL, if_neg (by simp [c1, c2])]
        · simp (maxDischargeDepth := 80) only [push_cast, Nat.reduceBEq, reduceIte, reduceCtorEq, Nat.reduceEqDiff, Nat.reduceAdd, Nat.reduceMul, Nat.reduceSub, Nat.reduceLeDiff, Nat.reduceLT, Nat.reducePow, Int.reduceToNat, Int.reduceLT, Int.reduceLE, Int.reduceEq, Int.reduceAdd, Int.reduceSub, Int.reduceNeg, hsub, fresh_dn hM, fresh_at hM]
        · intro k hk
          simp (maxDischargeDepth := 80) only [push_cast, Nat.reduceBEq, reduceIte, reduceCtorEq, Nat.reduceEqDiff, Nat.reduceAdd, Nat.reduceMul, Nat.reduceSub, Nat.reduceLeDiff, Nat.reduceLT, Nat.reducePow, Int.reduceToNat, Int.reduceLT, Int.reduceLE, Int.reduceEq, Int.reduceAdd, Int.reduceSub, Int.reduceNeg, fresh_dn (hF k (by omega)), Off_deep (show k ≠ j by omega), eq_false (show ¬ k = j by omega)]
  · rintro f M' ⟨a, h3, h6, h7, h8, hr, hsub, hF⟩
    have hjj : ((l.length : Int) < (l.length : Int)) = False := by simp
    simp (maxDischargeDepth := 80) only [push_cast, Nat.reduceBEq, reduceIte, reduceCtorEq, Nat.reduceEqDiff, Nat.reduceAdd, Nat.reduceMul, Nat.reduceSub, Nat.reduceLeDiff, Nat.reduceLT, Nat.reducePow, Int.reduceToNat, Int.reduceLT, Int.reduceLE, Int.reduceEq, Int.reduceAdd, Int.reduceSub, Int.reduceNeg, h3, h6, h7, h8, hjj, hsub]
    rw [hr]
    simp [risesL]

def indexL : List Int → Int → Nat → Int
  | [], _, _ => -1
  | x :: l, a, j => if a = x then j else indexL l a (j + 1)
theorem indexL_neg (l : List Int) (a : Int) (j : Nat) : decide (0 ≤ indexL l a j) = l.contains a := by
  induction l generalizing j with
  | nil => simp [indexL]
  | cons x l ih =>
    simp only [indexL]
    by_cases h : a = x
    · simp [h]
    · simp only [if_neg h, ih]; simp [h]

theorem index_E (v : V) (l : List Int) (a : Int) (s : Id) (M : Mem) (hM : FreshM s M) (hv : RdI M v l) :
    Fn env false 162 [v, .int .i64 a] s M = some (.int .i64 (indexL l a 0), M) := by
  have hl := hv.small
  rw [Fn_body Tryz.func162 (by decide) rfl rfl]
  simp (maxDischargeDepth := 80) only [push_cast, Nat.reduceBEq, reduceIte, reduceCtorEq, Nat.reduceEqDiff, Nat.reduceAdd, Nat.reduceMul, Nat.reduceSub, Nat.reduceLeDiff, Nat.reduceLT, Nat.reducePow, Int.reduceToNat, Int.reduceLT, Int.reduceLE, Int.reduceEq, Int.reduceAdd, Int.reduceSub, Int.reduceNeg, hv.len]
  refine lp_rule (fun s1 j f M' => f 0 = v ∧ f 1 = .int .i64 a ∧ f 7 = .int .i64 l.length ∧ f 8 = .int .i64 j ∧ indexL l a 0 = indexL (l.drop j) a j ∧ Sub M M' ∧ ∀ k, j ≤ k → FreshM (k :: s1) M') l.length ?_ (Nat.zero_le _) ?_ ?_
  · refine ⟨?_, ?_, ?_, ?_, ?_, ?_, ?_⟩ <;> simp (maxDischargeDepth := 80) only [push_cast, Nat.reduceBEq, reduceIte, reduceCtorEq, Nat.reduceEqDiff, Nat.reduceAdd, Nat.reduceMul, Nat.reduceSub, Nat.reduceLeDiff, Nat.reduceLT, Nat.reducePow, Int.reduceToNat, Int.reduceLT, Int.reduceLE, Int.reduceEq, Int.reduceAdd, Int.reduceSub, Int.reduceNeg]
    intro k _; simp (maxDischargeDepth := 80) only [push_cast, Nat.reduceBEq, reduceIte, reduceCtorEq, Nat.reduceEqDiff, Nat.reduceAdd, Nat.reduceMul, Nat.reduceSub, Nat.reduceLeDiff, Nat.reduceLT, Nat.reducePow, Int.reduceToNat, Int.reduceLT, Int.reduceLE, Int.reduceEq, Int.reduceAdd, Int.reduceSub, Int.reduceNeg, fresh_dn hM, fresh_at hM]
  · rintro j f M' hj ⟨h0, h1, h7, h8, hr, hsub, hF⟩ ih
    obtain ⟨p, hp1, hp2⟩ := hv.get j hj
    have hp3 := hp2 M' hsub
    have hjj : ((j : Int) < (l.length : Int)) = True := by simp; omega
    have hx : l.drop j = l[j] :: l.drop (j + 1) := List.drop_eq_getElem_cons hj
    have hFj := hF j (Nat.le_refl _)
    by_cases c1 : a = l[j]
    · have e : indexL l a 0 = j := by rw [hr, hx, indexL, if_pos c1]
      simp (maxDischargeDepth := 80) only [push_cast, Nat.reduceBEq, reduceIte, reduceCtorEq, Nat.reduceEqDiff, Nat.reduceAdd, Nat.reduceMul, Nat.reduceSub, Nat.reduceLeDiff, Nat.reduceLT, Nat.reducePow, Int.reduceToNat, Int.reduceLT, Int.reduceLE, Int.reduceEq, Int.reduceAdd, Int.reduceSub, Int.reduceNeg, h0, h1, h7, h8, hp1, hp3, hjj, ← c1, e, hsub, fresh_dn hFj, fresh_at hFj, fresh_dn hM, fresh_at hM]
    · simp (maxDischargeDepth := 80) only [push_cast, Nat.reduceBEq, reduceIte, reduceCtorEq, Nat.reduceEqDiff, Nat.reduceAdd, Nat.reduceMul, Nat.reduceSub, Nat.reduceLeDiff, Nat.reduceLT, Nat.reducePow, Int.reduceToNat, Int.reduceLT, Int.reduceLE, Int.reduceEq, Int.reduceAdd, Int.reduceSub, Int.reduceNeg, h0, h1, h7, h8, hp1, hp3, hjj, c1, fresh_dn hFj, fresh_at hFj, fresh_dn hM, fresh_at hM]
      refine ih _ _ ⟨?_, ?_, ?_, ?_, ?_, ?_, ?_⟩
      · simp (maxDischargeDepth := 80) only [push_cast, Nat.reduceBEq, reduceIte, reduceCtorEq, Nat.reduceEqDiff, Nat.reduceAdd, Nat.reduceMul, Nat.reduceSub, Nat.reduceLeDiff, Nat.reduceLT, Nat.reducePow, Int.reduceToNat, Int.reduceLT, Int.reduceLE, Int.reduceEq, Int.reduceAdd, Int.reduceSub, Int.reduceNeg, h0]
      · simp (maxDischargeDepth := 80) only [push_cast, Nat.reduceBEq, reduceIte, reduceCtorEq, Nat.reduceEqDiff, Nat.reduceAdd, Nat.reduceMul, Nat.reduceSub, Nat.reduceLeDiff, Nat.reduceLT, Nat.reducePow, Int.reduceToNat, Int.reduceLT, Int.reduceLE, Int.reduceEq, Int.reduceAdd, Int.reduceSub, Int.reduceNeg, h1]
      · simp (maxDischargeDepth := 80) only [push_cast, Nat.reduceBEq, reduceIte, reduceCtorEq, Nat.reduceEqDiff, Nat.reduceAdd, Nat.reduceMul, Nat.reduceSub, Nat.reduceLeDiff, Nat.reduceLT, Nat.reducePow, Int.reduceToNat, Int.reduceLT, Int.reduceLE, Int.reduceEq, Int.reduceAdd, Int.reduceSub, Int.reduceNeg, h7]
      · simp (maxDischargeDepth := 80) only [push_cast, Nat.reduceBEq, reduceIte, reduceCtorEq, Nat.reduceEqDiff, Nat.reduceAdd, Nat.reduceMul, Nat.reduceSub, Nat.reduceLeDiff, Nat.reduceLT, Nat.reducePow, Int.reduceToNat, Int.reduceLT, Int.reduceLE, Int.reduceEq, Int.reduceAdd, Int.reduceSub, Int.reduceNeg, h8]
        exact congrArg (V.int IntKind.i64) (wrap_nat j (by omega))
      · rw [hr, hx, indexL, if_neg c1]
      · simp (maxDischargeDepth := 80) only [push_cast, Nat.reduceBEq, reduceIte, reduceCtorEq, Nat.reduceEqDiff, Nat.reduceAdd, Nat.reduceMul, Nat.reduceSub, Nat.reduceLeDiff, Nat.reduceLT, Nat.reducePow, Int.reduceToNat, Int.reduceLT, Int.reduceLE, Int.reduceEq, Int.reduceAdd, Int.reduceSub, Int.reduceNeg, hsub, fresh_dn hM, fresh_at hM]
      · intro k hk
        simp (maxDischargeDepth := 80) only [push_cast, Nat.reduceBEq, reduceIte, reduceCtorEq, Nat.reduceEqDiff, Nat.reduceAdd, Nat.reduceMul, Nat.reduceSub, Nat.reduceLeDiff, Nat.reduceLT, Nat.reducePow, Int.reduceToNat, Int.reduceLT, Int.reduceLE, Int.reduceEq, Int.reduceAdd, Int.reduceSub, Int.reduceNeg, fresh_dn (hF k (by omega)), Off_deep (show k ≠ j by omega), eq_false (show ¬ k = j by omega)]
  · rintro f M' ⟨h0, h1, h7, h8, hr, hsub, hF⟩
    have hjj : ((l.length : Int) < (l.length : Int)) = False := by simp
    simp (maxDischargeDepth := 80) only [push_cast, Nat.reduceBEq, reduceIte, reduceCtorEq, Nat.reduceEqDiff, Nat.reduceAdd, Nat.reduceMul, Nat.reduceSub, Nat.reduceLeDiff, Nat.reduceLT, Nat.reducePow, Int.reduceToNat, Int.reduceLT, Int.reduceLE, Int.reduceEq, Int.reduceAdd, Int.reduceSub, Int.reduceNeg, h0, h1, h7, h8, hjj, hsub]
    rw [hr]
    simp [indexL]

theorem contains_E (v : V) (l : List Int) (a : Int) (s : Id) (M : Mem) (hM : FreshM s M) (hv : RdI M v l) :
    Fn env false 95 [v, .int .i64 a] s M = some (.bool (l.contains a), M) := by
  rw [Fn_body Tryz.func95 (by decide) rfl rfl]
  have hi := fun s' M' (h1 : FreshM s' M') (h2 : Sub M M') => index_E v l a s' M' h1 (hv.mono h2)
  simp (maxDischargeDepth := 80) only [push_cast, Nat.reduceBEq, reduceIte, reduceCtorEq, Nat.reduceEqDiff, Nat.reduceAdd, Nat.reduceMul, Nat.reduceSub, Nat.reduceLeDiff, Nat.reduceLT, Nat.reducePow, Int.reduceToNat, Int.reduceLT, Int.reduceLE, Int.reduceEq, Int.reduceAdd, Int.reduceSub, Int.reduceNeg, hi, fresh_dn hM, fresh_at hM, indexL_neg]

theorem amongC_E (i : Id) (w : V) (l : List Int) (a : Int) (s : Id) (M : Mem) (hM : FreshM s M) (hi : M i = some (.cells [w])) (hw : RdI M w l) :
    Fn env false 165 [.int .i64 a, .ptr i 0] s M = some (.bool (l.contains a), M) := by
  rw [Fn_body Tryz.func165 (by decide) rfl rfl]
  have hc := fun s' M' (h1 : FreshM s' M') (h2 : Sub M M') => contains_E w l a s' M' h1 (hw.mono h2)
  simp (maxDischargeDepth := 80) only [push_cast, Nat.reduceBEq, reduceIte, reduceCtorEq, Nat.reduceEqDiff, Nat.reduceAdd, Nat.reduceMul, Nat.reduceSub, Nat.reduceLeDiff, Nat.reduceLT, Nat.reducePow, Int.reduceToNat, Int.reduceLT, Int.reduceLE, Int.reduceEq, Int.reduceAdd, Int.reduceSub, Int.reduceNeg, hc, hi, fresh_dn hM, fresh_at hM]

def countL (l l2 : List Int) : Nat := l.countP fun x => l2.contains x

theorem count_E (v w : V) (l l2 : List Int) (i : Id) (s : Id) (M : Mem) (hM : FreshM s M) (hv : RdI M v l) (hi : M i = some (.cells [w])) (hw : RdI M w l2) :
    Fn env false 111 [v, .fn (.func 165) [] [.ptr i 0]] s M = some (.int .i64 (countL l l2), M) := by
  have hl := hv.small
  rw [Fn_body Tryz.func111 (by decide) rfl rfl]
  simp (maxDischargeDepth := 80) only [push_cast, Nat.reduceBEq, reduceIte, reduceCtorEq, Nat.reduceEqDiff, Nat.reduceAdd, Nat.reduceMul, Nat.reduceSub, Nat.reduceLeDiff, Nat.reduceLT, Nat.reducePow, Int.reduceToNat, Int.reduceLT, Int.reduceLE, Int.reduceEq, Int.reduceAdd, Int.reduceSub, Int.reduceNeg, hv.len]
  refine lp_rule (fun s1 j f M' => f 1 = .fn (.func 165) [] [.ptr i 0] ∧ f 5 = .int .i64 (countL (l.take j) l2) ∧ f 8 = v ∧ f 9 = .int .i64 l.length ∧ f 10 = .int .i64 j ∧ Sub M M' ∧ ∀ k, j ≤ k → FreshM (k :: s1) M') l.length ?_ (Nat.zero_le _) ?_ ?_
  · refine ⟨?_, ?_, ?_, ?_, ?_, ?_, ?_⟩ <;> simp (maxDischargeDepth := 80) only [push_cast, Nat.reduceBEq, reduceIte, reduceCtorEq, Nat.reduceEqDiff, Nat.reduceAdd, Nat.reduceMul, Nat.reduceSub, Nat.reduceLeDiff, Nat.reduceLT, Nat.reducePow, Int.reduceToNat, Int.reduceLT, Int.reduceLE, Int.reduceEq, Int.reduceAdd, Int.reduceSub, Int.reduceNeg]
    · simp [countL]
    · intro k _; simp (maxDischargeDepth := 80) only [push_cast, Nat.reduceBEq, reduceIte, reduceCtorEq, Nat.reduceEqDiff, Nat.reduceAdd, Nat.reduceMul, Nat.reduceSub, Nat.reduceLeDiff, Nat.reduceLT, Nat.reducePow, Int.reduceToNat, Int.reduceLT, Int.reduceLE, Int.reduceEq, Int.reduceAdd, Int.reduceSub, Int.reduceNeg, fresh_dn hM, fresh_at hM]
  · rintro j f M' hj ⟨h1, h5, h8, h9, h10, hsub, hF⟩ ih
    obtain ⟨p, hp1, hp2⟩ := hv.get j hj
    have hp3 := hp2 M' hsub
    have hjj : ((j : Int) < (l.length : Int)) = True := by simp; omega
    have hFj := hF j (Nat.le_refl _)
    have ha := fun s' M'' (q1 : FreshM s' M'') (q2 : Sub M' M'') => amongC_E i w l2 l[j] s' M'' q1 (q2 _ _ (hsub _ _ hi)) (hw.mono (sub_trans hsub q2))
    have hcnt : countL (l.take (j + 1)) l2 = countL (l.take j) l2 + if l2.contains l[j] then 1 else 0 := by
      rw [List.take_succ_eq_append_getElem hj, countL, List.countP_append]; simp [countL, List.countP_cons]
    have hcj : countL (l.take j) l2 ≤ j := Nat.le_trans List.countP_le_length (by simp; omega)
    cases c1 : l2.contains l[j] with
    | true =>
      simp (maxDischargeDepth := 80) only [push_cast, Nat.reduceBEq, reduceIte, reduceCtorEq, Nat.reduceEqDiff, Nat.reduceAdd, Nat.reduceMul, Nat.reduceSub, Nat.reduceLeDiff, Nat.reduceLT, Nat.reducePow, Int.reduceToNat, Int.reduceLT, Int.reduceLE, Int.reduceEq, Int.reduceAdd, Int.reduceSub, Int.reduceNeg, h1, h5, h8, h9, h10, hp1, hp3, hjj, ha, c1, fresh_dn hFj, fresh_at hFj, fresh_dn hM, fresh_at hM]
      refine ih _ _ ⟨?_, ?_, ?_, ?_, ?_, ?_, ?_⟩
      · simp (maxDischargeDepth := 80) only [push_cast, Nat.reduceBEq, reduceIte, reduceCtorEq, Nat.reduceEqDiff, Nat.reduceAdd, Nat.reduceMul, Nat.reduceSub, Nat.reduceLeDiff, Nat.reduceLT, Nat.reducePow, Int.reduceToNat, Int.reduceLT, Int.reduceLE, Int.reduceEq, Int.reduceAdd, Int.reduceSub, Int.reduceNeg, h1]
      · simp (maxDischargeDepth := 80) only [push_cast, Nat.reduceBEq, reduceIte, reduceCtorEq, Nat.reduceEqDiff, Nat.reduceAdd, Nat.reduceMul, Nat.reduceSub, Nat.reduceLeDiff, Nat.reduceLT, Nat.reducePow, Int.reduceToNat, Int.reduceLT, Int.reduceLE, Int.reduceEq, Int.reduceAdd, Int.reduceSub, Int.reduceNeg, hcnt, c1, h5]
        exact congrArg (V.int IntKind.i64) (wrap_nat _ (by omega))
      · simp (maxDischargeDepth := 80) only [push_cast, Nat.reduceBEq, reduceIte, reduceCtorEq, Nat.reduceEqDiff, Nat.reduceAdd, Nat.reduceMul, Nat.reduceSub, Nat.reduceLeDiff, Nat.reduceLT, Nat.reducePow, Int.reduceToNat, Int.reduceLT, Int.reduceLE, Int.reduceEq, Int.reduceAdd, Int.reduceSub, Int.reduceNeg, h8]
      · simp (maxDischargeDepth := 80) only [push_cast, Nat.reduceBEq, reduceIte, reduceCtorEq, Nat.reduceEqDiff, Nat.reduceAdd, Nat.reduceMul, Nat.reduceSub, Nat.reduceLeDiff, Nat.reduceLT, Nat.reducePow, Int.reduceToNat, Int.reduceLT, Int.reduceLE, Int.reduceEq, Int.reduceAdd, Int.reduceSub, Int.reduceNeg, h9]
      · simp (maxDischargeDepth := 80) only [push_cast, Nat.reduceBEq, reduceIte, reduceCtorEq, Nat.reduceEqDiff, Nat.reduceAdd, Nat.reduceMul, Nat.reduceSub, Nat.reduceLeDiff, Nat.reduceLT, Nat.reducePow, Int.reduceToNat, Int.reduceLT, Int.reduceLE, Int.reduceEq, Int.reduceAdd, Int.reduceSub, Int.reduceNeg, h10]
        exact congrArg (V.int IntKind.i64) (wrap_nat j (by omega))
      · simp (maxDischargeDepth := 80) only [push_cast, Nat.reduceBEq, reduceIte, reduceCtorEq, Nat.reduceEqDiff, Nat.reduceAdd, Nat.reduceMul, Nat.reduceSub, Nat.reduceLeDiff, Nat.reduceLT, Nat.reducePow, Int.reduceToNat, Int.reduceLT, Int.reduceLE, Int.reduceEq, Int.reduceAdd, Int.reduceSub, Int.reduceNeg, hsub, fresh_dn hM, fresh_at hM]
      · intro k hk
        simp (maxDischargeDepth := 80) only [push_cast, Nat.reduceBEq, reduceIte, reduceCtorEq, Nat.reduceEqDiff, Nat.reduceAdd, Nat.reduceMul, Nat.reduceSub, Nat.reduceLeDiff, Nat.reduceLT, Nat.reducePow, Int.reduceToNat, Int.reduceLT, Int.reduceLE, Int.reduceEq, Int.reduceAdd, Int.reduceSub, Int.reduceNeg, fresh_dn (hF k (by omega)), Off_deep (show k ≠ j by omega), eq_false (show ¬ k = j by omega)]
    | false =>
      simp (maxDischargeDepth := 80) only [push_cast, Nat.reduceBEq, reduceIte, reduceCtorEq, Nat.reduceEqDiff, Nat.reduceAdd, Nat.reduceMul, Nat.reduceSub, Nat.reduceLeDiff, Nat.reduceLT, Nat.reducePow, Int.reduceToNat, Int.reduceLT, Int.reduceLE, Int.reduceEq, Int.reduceAdd, Int.reduceSub, Int.reduceNeg, h1, h5, h8, h9, h10, hp1, hp3, hjj, ha, c1, fresh_dn hFj, fresh_at hFj, fresh_dn hM, fresh_at hM]
      refine ih _ _ ⟨?_, ?_, ?_, ?_, ?_, ?_, ?_⟩
      · simp (maxDischargeDepth := 80) only [push_cast, Nat.reduceBEq, reduceIte, reduceCtorEq, Nat.reduceEqDiff, Nat.reduceAdd, Nat.reduceMul, Nat.reduceSub, Nat.reduceLeDiff, Nat.reduceLT, Nat.reducePow, Int.reduceToNat, Int.reduceLT, Int.reduceLE, Int.reduceEq, Int.reduceAdd, Int.reduceSub, Int.reduceNeg, h1]
      · simp (maxDischargeDepth := 80) only [push_cast, Nat.reduceBEq, reduceIte, reduceCtorEq, Nat.reduceEqDiff, Nat.reduceAdd, Nat.reduceMul, Nat.reduceSub, Nat.reduceLeDiff, Nat.reduceLT, Nat.reducePow, Int.reduceToNat, Int.reduceLT, Int.reduceLE, Int.reduceEq, Int.reduceAdd, Int.reduceSub, Int.reduceNeg, hcnt, c1, h5]
      · simp (maxDischargeDepth := 80) only [push_cast, Nat.reduceBEq, reduceIte, reduceCtorEq, Nat.reduceEqDiff, Nat.reduceAdd, Nat.reduceMul, Nat.reduceSub, Nat.reduceLeDiff, Nat.reduceLT, Nat.reducePow, Int.reduceToNat, Int.reduceLT, Int.reduceLE, Int.reduceEq, Int.reduceAdd, Int.reduceSub, Int.reduceNeg, h8]
      · simp (maxDischargeDepth := 80) only [push_cast, Nat.reduceBEq, reduceIte, reduceCtorEq, Nat.reduceEqDiff, Nat.reduceAdd, Nat.reduceMul, Nat.reduceSub, Nat.reduceLeDiff, Nat.reduceLT, Nat.reducePow, Int.reduceToNat, Int.reduceLT, Int.reduceLE, Int.reduceEq, Int.reduceAdd, Int.reduceSub, Int.reduceNeg, h9]
      · simp (maxDischargeDepth := 80) only [push_cast, Nat.reduceBEq, reduceIte, reduceCtorEq, Nat.reduceEqDiff, Nat.reduceAdd, Nat.reduceMul, Nat.reduceSub, Nat.reduceLeDiff, Nat.reduceLT, Nat.reducePow, Int.reduceToNat, Int.reduceLT, Int.reduceLE, Int.reduceEq, Int.reduceAdd, Int.reduceSub, Int.reduceNeg, h10]
        exact congrArg (V.int IntKind.i64) (wrap_nat j (by omega))
      · simp (maxDischargeDepth := 80) only [push_cast, Nat.reduceBEq, reduceIte, reduceCtorEq, Nat.reduceEqDiff, Nat.reduceAdd, Nat.reduceMul, Nat.reduceSub, Nat.reduceLeDiff, Nat.reduceLT, Nat.reducePow, Int.reduceToNat, Int.reduceLT, Int.reduceLE, Int.reduceEq, Int.reduceAdd, Int.reduceSub, Int.reduceNeg, hsub, fresh_dn hM, fresh_at hM]
      · intro k hk
        simp (maxDischargeDepth := 80) only [push_cast, Nat.reduceBEq, reduceIte, reduceCtorEq, Nat.reduceEqDiff, Nat.reduceAdd, Nat.reduceMul, Nat.reduceSub, Nat.reduceLeDiff, Nat.reduceLT, Nat.reducePow, Int.reduceToNat, Int.reduceLT, Int.reduceLE, Int.reduceEq, Int.reduceAdd, Int.reduceSub, Int.reduceNeg, fresh_dn (hF k (by omega)), Off_deep (show k ≠ j by omega), eq_false (show ¬ k = j by omega)]
  · rintro f M' ⟨h1, h5, h8, h9, h10, hsub, hF⟩
    have hjj : ((l.length : Int) < (l.length : Int)) = False := by simp
    simp (maxDischargeDepth := 80) only [push_cast, Nat.reduceBEq, reduceIte, reduceCtorEq, Nat.reduceEqDiff, Nat.reduceAdd, Nat.reduceMul, Nat.reduceSub, Nat.reduceLeDiff, Nat.reduceLT, Nat.reducePow, Int.reduceToNat, Int.reduceLT, Int.reduceLE, Int.reduceEq, Int.reduceAdd, Int.reduceSub, Int.reduceNeg, h1, h5, h8, h9, h10, hjj, hsub]
    simp
end Go.Ab.R
