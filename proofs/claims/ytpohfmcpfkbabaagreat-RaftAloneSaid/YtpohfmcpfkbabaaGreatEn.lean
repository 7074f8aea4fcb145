/- Slices of entries in the memory. Conditions: none. -/
import Derived.Test.YtpohfmcpfkbabaaGreatQv
set_option linter.unusedSimpArgs false
set_option linter.unusedVariables false
namespace Go.Ab.R
open Go Go.Proofs
set_option maxRecDepth 100000

def flatE (l : List Ent) : List V := l.flatMap Ent.cells
theorem flatE_nil : flatE [] = [] := rfl
theorem flatE_cons (e : Ent) (l : List Ent) : flatE (e :: l) = e.cells ++ flatE l := rfl
theorem flatE_append (a b : List Ent) : flatE (a ++ b) = flatE a ++ flatE b := List.flatMap_append
theorem cells_len (e : Ent) : e.cells.length = 4 := rfl
theorem flatE_len (l : List Ent) : (flatE l).length = l.length * 4 := by
  induction l with
  | nil => rfl
  | cons e l ih => rw [flatE_cons, List.length_append, ih, cells_len, List.length_cons]; omega
theorem flatE_drop (l : List Ent) (j : Nat) : (flatE l).drop (j * 4) = flatE (l.drop j) := by
  induction l generalizing j with
  | nil => simp [flatE_nil]
  | cons e l ih =>
    cases j with
    | zero => simp
    | succ j =>
      rw [flatE_cons, List.drop_succ_cons, ← ih, List.drop_append, cells_len, List.drop_eq_nil_of_le (by rw [cells_len]; omega), List.nil_append]
      congr 1; omega
theorem flatE_take (l : List Ent) (j : Nat) : (flatE l).take (j * 4) = flatE (l.take j) := by
  induction l generalizing j with
  | nil => simp [flatE_nil]
  | cons e l ih =>
    cases j with
    | zero => simp [flatE_nil]
    | succ j =>
      rw [flatE_cons, List.take_succ_cons, flatE_cons, ← ih, List.take_append, cells_len, List.take_of_length_le (by rw [cells_len]; omega)]
      congr 2; omega
theorem flatE_all (l : List Ent) : (flatE l).all V.one = true := by
  induction l with
  | nil => rfl
  | cons e l ih => rw [flatE_cons, List.all_append, ih]; simp only [Ent.cells, List.all_cons, List.all_nil, one_data, one_int, Bool.and_true]

/-- where the entries of a slice lie -/
inductive EntsV (M : Mem) : V → List Ent → Prop
  | nils : EntsV M .nils []
  | sl (i : Id) (off : Nat) (cap : Option Nat) (cs : List V) (l : List Ent) (h : M i = some (.cells cs)) (h1 : off + l.length * 4 ≤ cs.length) (h2 : (cs.drop off).take (l.length * 4) = flatE l)
      (h3 : ∀ c, cap = some c → l.length ≤ c) : EntsV M (.sl i off l.length 4 cap) l
  | psl (l : List Ent) (b : Bool) : EntsV M (.psl (flatE l) l.length b) l

theorem EntsV.mono {M M' v l} (h : EntsV M v l) (hs : Sub M M') : EntsV M' v l := by
  cases h with
  | nils => exact .nils
  | sl i off cap cs l h h1 h2 h3 => exact .sl i off cap cs l (hs _ _ h) h1 h2 h3
  | psl l b => exact .psl l b

/-- reading one entry -/
structure RdX (M : Mem) (v : V) (l : List Ent) : Prop where
  len : ∀ M', lenV Tryz.prog 46 M' v = some (.int .i64 l.length)
  get : ∀ j (h : j < l.length), ∃ p q0 q1, indexAddrV Tryz.prog 46 v (.int .i64 j) = some p ∧ fieldAddrV Tryz.prog 52 p 0 = some q0 ∧ fieldAddrV Tryz.prog 52 p 1 = some q1 ∧
    ∀ M', Sub M M' → loadV Tryz.prog 52 M' p = some (.agg l[j].cells) ∧ loadV Tryz.prog 3 M' q0 = some (.int .i64 l[j].index) ∧ loadV Tryz.prog 3 M' q1 = some (.int .i64 l[j].term)
  one : v.one = true
  cells : v.cells = [v]

theorem RdX.toE {M v l} (h : RdX M v l) : RdE M v l :=
  ⟨h.len, fun j hj => by obtain ⟨p, _, _, h1, _, _, h2⟩ := h.get j hj; exact ⟨p, h1, fun M' hs => (h2 M' hs).1⟩⟩
theorem RdX.mono {M M' v l} (h : RdX M v l) (hs : Sub M M') : RdX M' v l :=
  ⟨h.len, fun j hj => by obtain ⟨p, q0, q1, h1, h2, h3, h4⟩ := h.get j hj; exact ⟨p, q0, q1, h1, h2, h3, fun M'' h => h4 M'' (sub_trans hs h)⟩, h.one, h.cells⟩

theorem flat_at (l : List Ent) (j : Nat) (hj : j < l.length) : ((flatE l).drop (j * 4)).take 4 = l[j].cells := by
  rw [flatE_drop, List.drop_eq_getElem_cons hj, flatE_cons, List.take_append_of_le_length (by rw [cells_len]; omega), List.take_of_length_le (by rw [cells_len]; omega)]
theorem take4 {cs : List V} {o : Nat} {e : Ent} (h : (cs.drop o).take 4 = e.cells) : o + 4 ≤ cs.length ∧ cs[o]? = some (.int .i64 e.index) ∧ cs[o + 1]? = some (.int .i64 e.term) := by
  have hl := congrArg List.length h
  rw [List.length_take, List.length_drop, cells_len] at hl
  refine ⟨by omega, ?_, ?_⟩
  · have := congrArg (fun x => x[0]?) h
    simp only [List.getElem?_take, List.getElem?_drop] at this
    simpa [Ent.cells] using this
  · have := congrArg (fun x => x[1]?) h
    simp only [List.getElem?_take, List.getElem?_drop] at this
    simpa [Ent.cells] using this

theorem EntsV.rd {M v l} (h : EntsV M v l) : RdX M v l := by
  cases h with
  | nils => exact ⟨fun _ => by simp (maxDischargeDepth := 80) only [push_cast, Nat.reduceBEq, reduceIte, reduceCtorEq, Nat.reduceEqDiff, Nat.reduceAdd, Nat.reduceMul, Nat.reduceSub, Nat.reduceLeDiff, Nat.reduceLT, Nat.reducePow, Int.reduceToNat, Int.reduceLT, Int.reduceLE, Int.reduceEq, Int.reduceAdd, Int.reduceSub, Int.reduceNeg]; try rfl, fun j hj => absurd hj (by simp), rfl, rfl⟩
  | sl i off cap cs l h h1 h2 h3 =>
    refine ⟨fun _ => by simp (maxDischargeDepth := 80) only [push_cast, Nat.reduceBEq, reduceIte, reduceCtorEq, Nat.reduceEqDiff, Nat.reduceAdd, Nat.reduceMul, Nat.reduceSub, Nat.reduceLeDiff, Nat.reduceLT, Nat.reducePow, Int.reduceToNat, Int.reduceLT, Int.reduceLE, Int.reduceEq, Int.reduceAdd, Int.reduceSub, Int.reduceNeg], fun j hj => ?_, rfl, rfl⟩
    have hjj : ((j : Int) < (l.length : Int)) = True := by simp; omega
    have hx : (cs.drop (off + j * 4)).take 4 = l[j].cells := by
      have := flat_at l j hj
      rw [← h2, List.drop_take, List.drop_drop, List.take_take] at this
      rw [← this]; congr 1; omega
    obtain ⟨k1, k2, k3⟩ := take4 hx
    refine ⟨.ptr i (off + j * 4), .ptr i (off + j * 4 + 0), .ptr i (off + j * 4 + 1), ?_, ?_, ?_, fun M' hs => ⟨?_, ?_, ?_⟩⟩
    · simp (maxDischargeDepth := 80) only [push_cast, Nat.reduceBEq, reduceIte, reduceCtorEq, Nat.reduceEqDiff, Nat.reduceAdd, Nat.reduceMul, Nat.reduceSub, Nat.reduceLeDiff, Nat.reduceLT, Nat.reducePow, Int.reduceToNat, Int.reduceLT, Int.reduceLE, Int.reduceEq, Int.reduceAdd, Int.reduceSub, Int.reduceNeg, hjj]; simp
    · simp (maxDischargeDepth := 80) only [push_cast, Nat.reduceBEq, reduceIte, reduceCtorEq, Nat.reduceEqDiff, Nat.reduceAdd, Nat.reduceMul, Nat.reduceSub, Nat.reduceLeDiff, Nat.reduceLT, Nat.reducePow, Int.reduceToNat, Int.reduceLT, Int.reduceLE, Int.reduceEq, Int.reduceAdd, Int.reduceSub, Int.reduceNeg]
    · simp (maxDischargeDepth := 80) only [push_cast, Nat.reduceBEq, reduceIte, reduceCtorEq, Nat.reduceEqDiff, Nat.reduceAdd, Nat.reduceMul, Nat.reduceSub, Nat.reduceLeDiff, Nat.reduceLT, Nat.reducePow, Int.reduceToNat, Int.reduceLT, Int.reduceLE, Int.reduceEq, Int.reduceAdd, Int.reduceSub, Int.reduceNeg]
    · simp (maxDischargeDepth := 80) only [push_cast, Nat.reduceBEq, reduceIte, reduceCtorEq, Nat.reduceEqDiff, Nat.reduceAdd, Nat.reduceMul, Nat.reduceSub, Nat.reduceLeDiff, Nat.reduceLT, Nat.reducePow, Int.reduceToNat, Int.reduceLT, Int.reduceLE, Int.reduceEq, Int.reduceAdd, Int.reduceSub, Int.reduceNeg, hs _ _ h, k1, hx]
    · simp (maxDischargeDepth := 80) only [push_cast, Nat.reduceBEq, reduceIte, reduceCtorEq, Nat.reduceEqDiff, Nat.reduceAdd, Nat.reduceMul, Nat.reduceSub, Nat.reduceLeDiff, Nat.reduceLT, Nat.reducePow, Int.reduceToNat, Int.reduceLT, Int.reduceLE, Int.reduceEq, Int.reduceAdd, Int.reduceSub, Int.reduceNeg, hs _ _ h, k2]
    · simp (maxDischargeDepth := 80) only [push_cast, Nat.reduceBEq, reduceIte, reduceCtorEq, Nat.reduceEqDiff, Nat.reduceAdd, Nat.reduceMul, Nat.reduceSub, Nat.reduceLeDiff, Nat.reduceLT, Nat.reducePow, Int.reduceToNat, Int.reduceLT, Int.reduceLE, Int.reduceEq, Int.reduceAdd, Int.reduceSub, Int.reduceNeg, hs _ _ h, k3]
  | psl l b =>
    refine ⟨fun _ => by simp (maxDischargeDepth := 80) only [push_cast, Nat.reduceBEq, reduceIte, reduceCtorEq, Nat.reduceEqDiff, Nat.reduceAdd, Nat.reduceMul, Nat.reduceSub, Nat.reduceLeDiff, Nat.reduceLT, Nat.reducePow, Int.reduceToNat, Int.reduceLT, Int.reduceLE, Int.reduceEq, Int.reduceAdd, Int.reduceSub, Int.reduceNeg], fun j hj => ?_, rfl, rfl⟩
    have hjj : ((j : Int) < (l.length : Int)) = True := by simp; omega
    have hx : ((flatE l).drop (j * 4)).take 4 = l[j].cells := flat_at l j hj
    obtain ⟨k1, k2, k3⟩ := take4 hx
    have k1' : 4 ≤ (flatE l).length - j * 4 := by omega
    refine ⟨.pptr ((flatE l).drop (j * 4)), .pptr ((flatE l).drop (j * 4)), .pptr ((flatE l).drop (j * 4 + 1)), ?_, ?_, ?_, fun M' hs => ⟨?_, ?_, ?_⟩⟩
    · simp (maxDischargeDepth := 80) only [push_cast, Nat.reduceBEq, reduceIte, reduceCtorEq, Nat.reduceEqDiff, Nat.reduceAdd, Nat.reduceMul, Nat.reduceSub, Nat.reduceLeDiff, Nat.reduceLT, Nat.reducePow, Int.reduceToNat, Int.reduceLT, Int.reduceLE, Int.reduceEq, Int.reduceAdd, Int.reduceSub, Int.reduceNeg, hjj]; simp
    · simp (maxDischargeDepth := 80) only [push_cast, Nat.reduceBEq, reduceIte, reduceCtorEq, Nat.reduceEqDiff, Nat.reduceAdd, Nat.reduceMul, Nat.reduceSub, Nat.reduceLeDiff, Nat.reduceLT, Nat.reducePow, Int.reduceToNat, Int.reduceLT, Int.reduceLE, Int.reduceEq, Int.reduceAdd, Int.reduceSub, Int.reduceNeg]
    · simp (maxDischargeDepth := 80) only [push_cast, Nat.reduceBEq, reduceIte, reduceCtorEq, Nat.reduceEqDiff, Nat.reduceAdd, Nat.reduceMul, Nat.reduceSub, Nat.reduceLeDiff, Nat.reduceLT, Nat.reducePow, Int.reduceToNat, Int.reduceLT, Int.reduceLE, Int.reduceEq, Int.reduceAdd, Int.reduceSub, Int.reduceNeg]
      simp
    · simp (maxDischargeDepth := 80) only [push_cast, Nat.reduceBEq, reduceIte, reduceCtorEq, Nat.reduceEqDiff, Nat.reduceAdd, Nat.reduceMul, Nat.reduceSub, Nat.reduceLeDiff, Nat.reduceLT, Nat.reducePow, Int.reduceToNat, Int.reduceLT, Int.reduceLE, Int.reduceEq, Int.reduceAdd, Int.reduceSub, Int.reduceNeg, k1', hx]
    · simp (maxDischargeDepth := 80) only [push_cast, Nat.reduceBEq, reduceIte, reduceCtorEq, Nat.reduceEqDiff, Nat.reduceAdd, Nat.reduceMul, Nat.reduceSub, Nat.reduceLeDiff, Nat.reduceLT, Nat.reducePow, Int.reduceToNat, Int.reduceLT, Int.reduceLE, Int.reduceEq, Int.reduceAdd, Int.reduceSub, Int.reduceNeg, List.getElem?_drop, k2]
    · simp (maxDischargeDepth := 80) only [push_cast, Nat.reduceBEq, reduceIte, reduceCtorEq, Nat.reduceEqDiff, Nat.reduceAdd, Nat.reduceMul, Nat.reduceSub, Nat.reduceLeDiff, Nat.reduceLT, Nat.reducePow, Int.reduceToNat, Int.reduceLT, Int.reduceLE, Int.reduceEq, Int.reduceAdd, Int.reduceSub, Int.reduceNeg, List.getElem?_drop, k3]

theorem EntsV.from_ {M v l} (h : EntsV M v l) (a : Nat) (ha : a ≤ l.length) : ∃ v', sliceV Tryz.prog 46 v (some (a : Int)) none none = some v' ∧ EntsV M v' (l.drop a) := by
  cases h with
  | nils =>
    have h0 : a = 0 := by simpa using ha
    subst h0
    exact ⟨.nils, by simp only [sliceV, kd46]; rfl, .nils⟩
  | sl i off cap cs l h h1 h2 h3 =>
    have c1 : ((a : Int) ≤ (l.length : Int)) = True := by simp; omega
    have c2 : ((l.length : Int) ≤ ((cap.getD l.length : Nat) : Int)) := by
      cases cap with
      | none => simp
      | some c => have := h3 c rfl; simp; omega
    refine ⟨.sl i (off + a * 4) (l.drop a).length 4 (cap.map (· - a)), ?_, ?_⟩
    · have hc : cutB l.length (cap.getD l.length) (some (a : Int)) none none = some (a, l.length, none) := by
        simp only [cutB, Option.getD_some, Option.getD_none, Option.isSome_none]
        rw [if_pos ⟨by omega, by omega, c2, by omega, by simp⟩]
        simp
      simp only [sliceV, kd46, if_true, hc]
      simp
    · refine .sl i _ _ cs _ h ?_ ?_ ?_
      · simp; omega
      · rw [List.length_drop, ← flatE_drop, ← h2, List.drop_take, List.drop_drop]; congr 1; omega
      · intro c hc
        cases cap with
        | none => simp at hc
        | some c' => have := h3 c' rfl; simp at hc; simp; omega
  | psl l b =>
    refine ⟨.psl (flatE (l.drop a)) (l.drop a).length (cut2 b l.length l.length none), ?_, .psl _ _⟩
    have hc : cutB l.length l.length (some (a : Int)) none none = some (a, l.length, none) := by
      simp only [cutB, Option.getD_some, Option.getD_none, Option.isSome_none]
      rw [if_pos ⟨by omega, by omega, by omega, by omega, by simp⟩]
      simp
    simp only [sliceV, kd46, hc, flatE_len, if_true]
    simp only [flatE_drop, List.length_drop]
    rw [flatE_take, List.take_of_length_le (by simp)]

theorem EntsV.upTo {M v l} (h : EntsV M v l) (a : Nat) (ha : a ≤ l.length) : ∃ v', sliceV Tryz.prog 46 v none (some (a : Int)) none = some v' ∧ EntsV M v' (l.take a) := by
  cases h with
  | nils =>
    have h0 : a = 0 := by simpa using ha
    subst h0
    exact ⟨.nils, by simp only [sliceV, kd46]; rfl, .nils⟩
  | sl i off cap cs l h h1 h2 h3 =>
    have c1 : ((a : Int) ≤ (l.length : Int)) = True := by simp; omega
    have c2 : ((l.length : Int) ≤ ((cap.getD l.length : Nat) : Int)) := by
      cases cap with
      | none => simp
      | some c => have := h3 c rfl; simp; omega
    refine ⟨.sl i off (l.take a).length 4 cap, ?_, ?_⟩
    · have hc : cutB l.length (cap.getD l.length) none (some (a : Int)) none = some (0, a, none) := by
        simp only [cutB, Option.getD_some, Option.getD_none, Option.isSome_none]
        rw [if_pos ⟨by omega, by omega, by omega, by omega, by simp⟩]
        simp
      simp only [sliceV, kd46, if_true, hc]
      simp [ha]
    · refine .sl i _ _ cs _ h ?_ ?_ ?_
      · simp; omega
      · rw [List.length_take, Nat.min_eq_left ha, ← flatE_take, ← h2, List.take_take]; congr 1; omega
      · intro c hc
        have := h3 c hc; simp; omega
  | psl l b =>
    refine ⟨.psl (flatE (l.take a)) (l.take a).length (cut2 b a l.length none), ?_, .psl _ _⟩
    have hc : cutB l.length l.length none (some (a : Int)) none = some (0, a, none) := by
      simp only [cutB, Option.getD_some, Option.getD_none, Option.isSome_none]
      rw [if_pos ⟨by omega, by omega, by omega, by omega, by simp⟩]
      simp
    simp only [sliceV, kd46, hc, flatE_len, if_true]
    simp only [Nat.zero_mul, List.drop_zero, Nat.sub_zero, flatE_take, List.length_take, Nat.min_eq_left ha]

theorem EntsV.src {M v l} (h : EntsV M v l) : srcV 4 M v = some (l.length, flatE l) := by
  cases h with
  | nils => rfl
  | sl i off cap cs l h h1 h2 h3 => simp only [srcV, h, if_pos h1, h2]
  | psl l b => simp only [srcV, if_pos (flatE_len l)]
theorem wrap_id {x : Int} (h1 : -(2 ^ 62) ≤ x) (h2 : x < 2 ^ 62) : IntKind.wrap .i64 x = x := by
  unfold IntKind.wrap
  simp only [IntKind.signed, IntKind.bits]
  simp
  omega
end Go.Ab.R
