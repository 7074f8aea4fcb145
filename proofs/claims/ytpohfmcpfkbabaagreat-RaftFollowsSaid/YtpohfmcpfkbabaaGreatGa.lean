/- The program's data over the evaluator's memory: bytes, entries. Conditions: none. -/
import Derived.Test.YtpohfmcpfkbabaaGreatAbSim
set_option linter.unusedSimpArgs false
set_option linter.unusedVariables false
namespace Go.Ab.R
open Go Go.Proofs
set_option maxRecDepth 100000
def byteV (b : UInt8) : V := .int .u8 b.toNat
def dataV : Option (List UInt8) → V
  | none => .nils
  | some l => .psl (l.map byteV) l.length false

theorem take_len {α : Type} (l : List α) (n : Nat) (h : l.length = n) : l.take n = l := by subst h; simp

theorem cloneB_E (d : Option (List UInt8)) (hd : ∀ l, d = some l → l.length ≤ mostLen) (s : Id) (M : Mem) (hM : FreshM s M) : Fn env true 48 [dataV d] s M = some (dataV d, M) := by
  rw [Fn_body Tryz.func48 (by decide) rfl rfl]
  cases d with
  | none => simp (maxDischargeDepth := 80) only [push_cast, Nat.reduceBEq, reduceIte, reduceCtorEq, Nat.reduceEqDiff, Nat.reduceAdd, Nat.reduceMul, Nat.reduceSub, Nat.reduceLeDiff, Nat.reduceLT, Nat.reducePow, Int.reduceToNat, Int.reduceLT, Int.reduceLE, Int.reduceEq, Int.reduceAdd, Int.reduceSub, Int.reduceNeg, dataV]
  | some l =>
    have h1 := hd l rfl
    cases l with
    | nil => simp (maxDischargeDepth := 80) only [push_cast, Nat.reduceBEq, reduceIte, reduceCtorEq, Nat.reduceEqDiff, Nat.reduceAdd, Nat.reduceMul, Nat.reduceSub, Nat.reduceLeDiff, Nat.reduceLT, Nat.reducePow, Int.reduceToNat, Int.reduceLT, Int.reduceLE, Int.reduceEq, Int.reduceAdd, Int.reduceSub, Int.reduceNeg, dataV, fresh_dn hM, fresh_at hM]
    | cons b l =>
      simp only [List.length_cons] at h1
      simp (maxDischargeDepth := 80) only [push_cast, Nat.reduceBEq, reduceIte, reduceCtorEq, Nat.reduceEqDiff, Nat.reduceAdd, Nat.reduceMul, Nat.reduceSub, Nat.reduceLeDiff, Nat.reduceLT, Nat.reducePow, Int.reduceToNat, Int.reduceLT, Int.reduceLE, Int.reduceEq, Int.reduceAdd, Int.reduceSub, Int.reduceNeg, dataV, h1, fresh_dn hM, fresh_at hM, take_len]
structure Ent where
  index : Int
  term : Int
  kind : Int
  data : Option (List UInt8)

def Ent.cells (e : Ent) : List V := [.int .i64 e.index, .int .i64 e.term, .int .i64 e.kind, dataV e.data]
theorem Ent.cells_eq (e : Ent) : e.cells = [.int .i64 e.index, .int .i64 e.term, .int .i64 e.kind, dataV e.data] := rfl
theorem one_data (d : Option (List UInt8)) : (dataV d).one = true := by cases d <;> rfl

/-- a value that is a slice of entries -/
structure RdE (M : Mem) (v : V) (l : List Ent) : Prop where
  len : ∀ M', lenV Tryz.prog 46 M' v = some (.int .i64 l.length)
  get : ∀ j (h : j < l.length), ∃ p, indexAddrV Tryz.prog 46 v (.int .i64 j) = some p ∧ ∀ M', Sub M M' → loadV Tryz.prog 52 M' p = some (.agg l[j].cells)

theorem sub_trans {M M' M'' : Mem} (h : Sub M M') (k : Sub M' M'') : Sub M M'' := fun i o e => k i o (h i o e)
theorem RdE.mono {M M' v l} (h : RdE M v l) (hs : Sub M M') : RdE M' v l :=
  ⟨h.len, fun j hj => by obtain ⟨p, h1, h2⟩ := h.get j hj; exact ⟨p, h1, fun M'' h3 => h2 M'' (sub_trans hs h3)⟩⟩

def followL : List Ent → Int → Int → Bool
  | [], _, _ => true
  | x :: l, i, t => if IntKind.wrap .i64 (x.index - 1) ≠ i ∨ x.term < t then false else followL l x.index x.term

theorem wrap_nat (n : Nat) (h : n + 1 < 2 ^ 63) : IntKind.wrap .i64 ((n : Int) + 1) = ((n + 1 : Nat) : Int) := by
  unfold IntKind.wrap
  simp [IntKind.signed, IntKind.bits]
  omega

theorem follow_E (v : V) (l : List Ent) (i t : Int) (s : Id) (M : Mem) (hM : FreshM s M) (hv : RdE M v l) (hl : l.length < 2 ^ 40) :
    Fn env false 85 [v, .int .i64 i, .int .i64 t] s M = some (.bool (followL l i t), M) := by
  rw [Fn_body Tryz.func85 (by decide) rfl rfl]
  simp (maxDischargeDepth := 80) only [push_cast, Nat.reduceBEq, reduceIte, reduceCtorEq, Nat.reduceEqDiff, Nat.reduceAdd, Nat.reduceMul, Nat.reduceSub, Nat.reduceLeDiff, Nat.reduceLT, Nat.reducePow, Int.reduceToNat, Int.reduceLT, Int.reduceLE, Int.reduceEq, Int.reduceAdd, Int.reduceSub, Int.reduceNeg, hv.len]
  refine lp_rule (fun s1 j f M' => ∃ i' t', f 1 = .int .i64 i' ∧ f 2 = .int .i64 t' ∧ f 9 = v ∧ f 10 = .int .i64 l.length ∧ f 11 = .int .i64 j ∧ followL l i t = followL (l.drop j) i' t' ∧ Sub M M' ∧ ∀ k, j ≤ k → FreshM (k :: s1) M') l.length ?_ (Nat.zero_le _) ?_ ?_
  · refine ⟨i, t, ?_, ?_, ?_, ?_, ?_, ?_, ?_, ?_⟩ <;> simp (maxDischargeDepth := 80) only [push_cast, Nat.reduceBEq, reduceIte, reduceCtorEq, Nat.reduceEqDiff, Nat.reduceAdd, Nat.reduceMul, Nat.reduceSub, Nat.reduceLeDiff, Nat.reduceLT, Nat.reducePow, Int.reduceToNat, Int.reduceLT, Int.reduceLE, Int.reduceEq, Int.reduceAdd, Int.reduceSub, Int.reduceNeg]
    intro k _; simp (maxDischargeDepth := 80) only [push_cast, Nat.reduceBEq, reduceIte, reduceCtorEq, Nat.reduceEqDiff, Nat.reduceAdd, Nat.reduceMul, Nat.reduceSub, Nat.reduceLeDiff, Nat.reduceLT, Nat.reducePow, Int.reduceToNat, Int.reduceLT, Int.reduceLE, Int.reduceEq, Int.reduceAdd, Int.reduceSub, Int.reduceNeg, fresh_dn hM, fresh_at hM]
  · rintro j f M' hj ⟨i', t', h1, h2, h9, h10, h11, hfol, hsub, hF⟩ ih
    obtain ⟨p, hp1, hp2⟩ := hv.get j hj
    have hp3 := hp2 M' hsub
    have hjj : ((j : Int) < (l.length : Int)) = True := by simp; omega
    have hx : l.drop j = l[j] :: l.drop (j + 1) := List.drop_eq_getElem_cons hj
    have hFj := hF j (Nat.le_refl _)
    by_cases c1 : IntKind.wrap .i64 (l[j].index - 1) = i'
    · by_cases c2 : l[j].term < t'
      · have e : followL l i t = false := by rw [hfol, hx, followL, if_pos (.inr c2)]
        simp (maxDischargeDepth := 80) only [push_cast, Nat.reduceBEq, reduceIte, reduceCtorEq, Nat.reduceEqDiff, Nat.reduceAdd, Nat.reduceMul, Nat.reduceSub, Nat.reduceLeDiff, Nat.reduceLT, Nat.reducePow, Int.reduceToNat, Int.reduceLT, Int.reduceLE, Int.reduceEq, Int.reduceAdd, Int.reduceSub, Int.reduceNeg, h1, h2, h9, h10, h11, hp1, hp3, hjj, Ent.cells_eq, one_data, c1, c2, e, hsub, fresh_dn hFj, fresh_at hFj, fresh_dn hM, fresh_at hM]
      · simp (maxDischargeDepth := 80) only [push_cast, Nat.reduceBEq, reduceIte, reduceCtorEq, Nat.reduceEqDiff, Nat.reduceAdd, Nat.reduceMul, Nat.reduceSub, Nat.reduceLeDiff, Nat.reduceLT, Nat.reducePow, Int.reduceToNat, Int.reduceLT, Int.reduceLE, Int.reduceEq, Int.reduceAdd, Int.reduceSub, Int.reduceNeg, h1, h2, h9, h10, h11, hp1, hp3, hjj, Ent.cells_eq, one_data, c1, c2, fresh_dn hFj, fresh_at hFj, fresh_dn hM, fresh_at hM]
        refine ih _ _ ⟨l[j].index, l[j].term, ?_, ?_, ?_, ?_, ?_, ?_, ?_, ?_⟩
        · simp (maxDischargeDepth := 80) only [push_cast, Nat.reduceBEq, reduceIte, reduceCtorEq, Nat.reduceEqDiff, Nat.reduceAdd, Nat.reduceMul, Nat.reduceSub, Nat.reduceLeDiff, Nat.reduceLT, Nat.reducePow, Int.reduceToNat, Int.reduceLT, Int.reduceLE, Int.reduceEq, Int.reduceAdd, Int.reduceSub, Int.reduceNeg]
        · simp (maxDischargeDepth := 80) only [push_cast, Nat.reduceBEq, reduceIte, reduceCtorEq, Nat.reduceEqDiff, Nat.reduceAdd, Nat.reduceMul, Nat.reduceSub, Nat.reduceLeDiff, Nat.reduceLT, Nat.reducePow, Int.reduceToNat, Int.reduceLT, Int.reduceLE, Int.reduceEq, Int.reduceAdd, Int.reduceSub, Int.reduceNeg]
        · simp (maxDischargeDepth := 80) only [push_cast, Nat.reduceBEq, reduceIte, reduceCtorEq, Nat.reduceEqDiff, Nat.reduceAdd, Nat.reduceMul, Nat.reduceSub, Nat.reduceLeDiff, Nat.reduceLT, Nat.reducePow, Int.reduceToNat, Int.reduceLT, Int.reduceLE, Int.reduceEq, Int.reduceAdd, Int.reduceSub, Int.reduceNeg, h9]
        · simp (maxDischargeDepth := 80) only [push_cast, Nat.reduceBEq, reduceIte, reduceCtorEq, Nat.reduceEqDiff, Nat.reduceAdd, Nat.reduceMul, Nat.reduceSub, Nat.reduceLeDiff, Nat.reduceLT, Nat.reducePow, Int.reduceToNat, Int.reduceLT, Int.reduceLE, Int.reduceEq, Int.reduceAdd, Int.reduceSub, Int.reduceNeg, h10]
        · simp (maxDischargeDepth := 80) only [push_cast, Nat.reduceBEq, reduceIte, reduceCtorEq, Nat.reduceEqDiff, Nat.reduceAdd, Nat.reduceMul, Nat.reduceSub, Nat.reduceLeDiff, Nat.reduceLT, Nat.reducePow, Int.reduceToNat, Int.reduceLT, Int.reduceLE, Int.reduceEq, Int.reduceAdd, Int.reduceSub, Int.reduceNeg, h11]
          exact congrArg (V.int IntKind.i64) (wrap_nat j (by omega))
        · rw [hfol, hx, followL, if_neg (by simp [c1, c2])]
        · simp (maxDischargeDepth := 80) only [push_cast, Nat.reduceBEq, reduceIte, reduceCtorEq, Nat.reduceEqDiff, Nat.reduceAdd, Nat.reduceMul, Nat.reduceSub, Nat.reduceLeDiff, Nat.reduceLT, Nat.reducePow, Int.reduceToNat, Int.reduceLT, Int.reduceLE, Int.reduceEq, Int.reduceAdd, Int.reduceSub, Int.reduceNeg, hsub, fresh_dn hM, fresh_at hM]
        · intro k hk
          simp (maxDischargeDepth := 80) only [push_cast, Nat.reduceBEq, reduceIte, reduceCtorEq, Nat.reduceEqDiff, Nat.reduceAdd, Nat.reduceMul, Nat.reduceSub, Nat.reduceLeDiff, Nat.reduceLT, Nat.reducePow, Int.reduceToNat, Int.reduceLT, Int.reduceLE, Int.reduceEq, Int.reduceAdd, Int.reduceSub, Int.reduceNeg, fresh_dn (hF k (by omega)), Off_deep (show k ≠ j by omega), eq_false (show ¬ k = j by omega)]
    · have e : followL l i t = false := by rw [hfol, hx, followL, if_pos (.inl c1)]
      simp (maxDischargeDepth := 80) only [push_cast, Nat.reduceBEq, reduceIte, reduceCtorEq, Nat.reduceEqDiff, Nat.reduceAdd, Nat.reduceMul, Nat.reduceSub, Nat.reduceLeDiff, Nat.reduceLT, Nat.reducePow, Int.reduceToNat, Int.reduceLT, Int.reduceLE, Int.reduceEq, Int.reduceAdd, Int.reduceSub, Int.reduceNeg, h1, h2, h9, h10, h11, hp1, hp3, hjj, Ent.cells_eq, one_data, c1, e, hsub, fresh_dn hFj, fresh_at hFj, fresh_dn hM, fresh_at hM]
  · rintro f M' ⟨i', t', h1, h2, h9, h10, h11, hfol, hsub, hF⟩
    have hjj : ((l.length : Int) < (l.length : Int)) = False := by simp
    simp (maxDischargeDepth := 80) only [push_cast, Nat.reduceBEq, reduceIte, reduceCtorEq, Nat.reduceEqDiff, Nat.reduceAdd, Nat.reduceMul, Nat.reduceSub, Nat.reduceLeDiff, Nat.reduceLT, Nat.reducePow, Int.reduceToNat, Int.reduceLT, Int.reduceLE, Int.reduceEq, Int.reduceAdd, Int.reduceSub, Int.reduceNeg, h1, h2, h9, h10, h11, hjj, hsub]
    rw [hfol]
    simp [followL]
end Go.Ab.R

/- The log's small functions. Conditions: none. -/
namespace Go.Ab.R
open Go Go.Proofs
set_option maxRecDepth 100000

def withinL (n : Int) : Bool := decide (0 ≤ n) && decide (n ≤ 1099511627776)
theorem within_E (n : Int) (s : Id) (M : Mem) : Fn env false 83 [.int .i64 n] s M = some (.bool (withinL n), M) := by
  rw [Fn_body Tryz.func83 (by decide) rfl rfl]
  by_cases h : 0 ≤ n
  · simp (maxDischargeDepth := 80) only [push_cast, Nat.reduceBEq, reduceIte, reduceCtorEq, Nat.reduceEqDiff, Nat.reduceAdd, Nat.reduceMul, Nat.reduceSub, Nat.reduceLeDiff, Nat.reduceLT, Nat.reducePow, Int.reduceToNat, Int.reduceLT, Int.reduceLE, Int.reduceEq, Int.reduceAdd, Int.reduceSub, Int.reduceNeg, h, withinL]
  · simp (maxDischargeDepth := 80) only [push_cast, Nat.reduceBEq, reduceIte, reduceCtorEq, Nat.reduceEqDiff, Nat.reduceAdd, Nat.reduceMul, Nat.reduceSub, Nat.reduceLeDiff, Nat.reduceLT, Nat.reducePow, Int.reduceToNat, Int.reduceLT, Int.reduceLE, Int.reduceEq, Int.reduceAdd, Int.reduceSub, Int.reduceNeg, h, withinL]

def dlen : Option (List UInt8) → Nat
  | none => 0
  | some l => l.length
theorem len_data (d : Option (List UInt8)) (M : Mem) : lenV Tryz.prog 33 M (dataV d) = some (.int .i64 (dlen d)) := by
  cases d <;> simp only [dataV, ln_nils, ln_psl, kd33, dlen] <;> rfl

def oddL (e : Ent) : Bool := decide (e.index < 1) || !withinL e.index || !withinL e.term || decide (e.kind < 0) || decide (7 < e.kind) || decide (4096 < (dlen e.data : Int))
theorem odd_E (e : Ent) (s : Id) (M : Mem) (hM : FreshM s M) : Fn env false 84 [.agg e.cells] s M = some (.bool (oddL e), M) := by
  rw [Fn_body Tryz.func84 (by decide) rfl rfl]
  by_cases c1 : e.index < 1
  · simp (maxDischargeDepth := 80) only [push_cast, Nat.reduceBEq, reduceIte, reduceCtorEq, Nat.reduceEqDiff, Nat.reduceAdd, Nat.reduceMul, Nat.reduceSub, Nat.reduceLeDiff, Nat.reduceLT, Nat.reducePow, Int.reduceToNat, Int.reduceLT, Int.reduceLE, Int.reduceEq, Int.reduceAdd, Int.reduceSub, Int.reduceNeg, Ent.cells_eq, one_data, c1, within_E, fresh_dn hM, fresh_at hM, oddL, Bool.true_or]
  cases c2 : withinL e.index with
  | false => simp (maxDischargeDepth := 80) only [push_cast, Nat.reduceBEq, reduceIte, reduceCtorEq, Nat.reduceEqDiff, Nat.reduceAdd, Nat.reduceMul, Nat.reduceSub, Nat.reduceLeDiff, Nat.reduceLT, Nat.reducePow, Int.reduceToNat, Int.reduceLT, Int.reduceLE, Int.reduceEq, Int.reduceAdd, Int.reduceSub, Int.reduceNeg, Ent.cells_eq, one_data, c1, c2, within_E, fresh_dn hM, fresh_at hM, oddL]
  | true =>
  cases c3 : withinL e.term with
  | false => simp (maxDischargeDepth := 80) only [push_cast, Nat.reduceBEq, reduceIte, reduceCtorEq, Nat.reduceEqDiff, Nat.reduceAdd, Nat.reduceMul, Nat.reduceSub, Nat.reduceLeDiff, Nat.reduceLT, Nat.reducePow, Int.reduceToNat, Int.reduceLT, Int.reduceLE, Int.reduceEq, Int.reduceAdd, Int.reduceSub, Int.reduceNeg, Ent.cells_eq, one_data, c1, c2, c3, within_E, fresh_dn hM, fresh_at hM, oddL]
  | true =>
  by_cases c4 : e.kind < 0
  · simp (maxDischargeDepth := 80) only [push_cast, Nat.reduceBEq, reduceIte, reduceCtorEq, Nat.reduceEqDiff, Nat.reduceAdd, Nat.reduceMul, Nat.reduceSub, Nat.reduceLeDiff, Nat.reduceLT, Nat.reducePow, Int.reduceToNat, Int.reduceLT, Int.reduceLE, Int.reduceEq, Int.reduceAdd, Int.reduceSub, Int.reduceNeg, Ent.cells_eq, one_data, c1, c2, c3, c4, within_E, fresh_dn hM, fresh_at hM, oddL]
  by_cases c5 : 7 < e.kind
  · simp (maxDischargeDepth := 80) only [push_cast, Nat.reduceBEq, reduceIte, reduceCtorEq, Nat.reduceEqDiff, Nat.reduceAdd, Nat.reduceMul, Nat.reduceSub, Nat.reduceLeDiff, Nat.reduceLT, Nat.reducePow, Int.reduceToNat, Int.reduceLT, Int.reduceLE, Int.reduceEq, Int.reduceAdd, Int.reduceSub, Int.reduceNeg, Ent.cells_eq, one_data, c1, c2, c3, c4, c5, within_E, fresh_dn hM, fresh_at hM, oddL]
  · simp (maxDischargeDepth := 80) only [push_cast, Nat.reduceBEq, reduceIte, reduceCtorEq, Nat.reduceEqDiff, Nat.reduceAdd, Nat.reduceMul, Nat.reduceSub, Nat.reduceLeDiff, Nat.reduceLT, Nat.reducePow, Int.reduceToNat, Int.reduceLT, Int.reduceLE, Int.reduceEq, Int.reduceAdd, Int.reduceSub, Int.reduceNeg, Ent.cells_eq, one_data, c1, c2, c3, c4, c5, within_E, len_data, fresh_dn hM, fresh_at hM, oddL]
end Go.Ab.R

/- Groups and majorities: what the quorum's functions come to. Conditions: none. -/
namespace Go.Ab.R
open Go Go.Proofs
set_option maxRecDepth 100000

/-- a value that is a slice of numbers -/
structure RdI (M : Mem) (v : V) (l : List Int) : Prop where
  len : ∀ M', lenV Tryz.prog 30 M' v = some (.int .i64 l.length)
  get : ∀ j (h : j < l.length), ∃ p, indexAddrV Tryz.prog 30 v (.int .i64 j) = some p ∧ ∀ M', Sub M M' → loadV Tryz.prog 3 M' p = some (.int .i64 l[j])
  one : v.one = true
  cells : v.cells = [v]
  small : l.length < 2 ^ 63
theorem RdI.mono {M M' v l} (h : RdI M v l) (hs : Sub M M') : RdI M' v l :=
  ⟨h.len, fun j hj => by obtain ⟨p, h1, h2⟩ := h.get j hj; exact ⟨p, h1, fun M'' h3 => h2 M'' (sub_trans hs h3)⟩, h.one, h.cells, h.small⟩

def intV (n : Int) : V := .int .i64 n
/-- numbers that nobody changes -/
def intsV : Option (List Int) → V
  | none => .nils
  | some l => .psl (l.map intV) l.length false
def intsL : Option (List Int) → List Int
  | none => []
  | some l => l
theorem RdI_ints (M : Mem) (o : Option (List Int)) (h : (intsL o).length < 2 ^ 63) : RdI M (intsV o) (intsL o) := by
  cases o with
  | none => exact ⟨fun _ => by simp only [intsV, intsL, ln_nils, kd30]; rfl, fun j hj => absurd hj (by simp [intsL]), rfl, rfl, h⟩
  | some l =>
    refine ⟨fun _ => by simp only [intsV, intsL, ln_psl, kd30], fun j hj => ?_, rfl, rfl, h⟩
    have hj' : j < l.length := hj
    have h1 : ((j : Int) < (l.length : Int)) = True := by simp; omega
    refine ⟨.pptr ((l.map intV).drop j), ?_, fun M' _ => ?_⟩
    · simp (maxDischargeDepth := 80) only [push_cast, Nat.reduceBEq, reduceIte, reduceCtorEq, Nat.reduceEqDiff, Nat.reduceAdd, Nat.reduceMul, Nat.reduceSub, Nat.reduceLeDiff, Nat.reduceLT, Nat.reducePow, Int.reduceToNat, Int.reduceLT, Int.reduceLE, Int.reduceEq, Int.reduceAdd, Int.reduceSub, Int.reduceNeg, intsV, h1]
      simp
    · simp (maxDischargeDepth := 80) only [push_cast, Nat.reduceBEq, reduceIte, reduceCtorEq, Nat.reduceEqDiff, Nat.reduceAdd, Nat.reduceMul, Nat.reduceSub, Nat.reduceLeDiff, Nat.reduceLT, Nat.reducePow, Int.reduceToNat, Int.reduceLT, Int.reduceLE, Int.reduceEq, Int.reduceAdd, Int.reduceSub, Int.reduceNeg]
      simp [intsL, hj', intV]

def risesL : List Int → Int → Bool
  | [], _ => true
  | x :: l, a => if x ≤ a ∨ 15 < x then false else risesL l x

theorem rises_E (v : V) (l : List Int) (s : Id) (M : Mem) (hM : FreshM s M) (hv : RdI M v l) :
    Fn env false 156 [v] s M = some (.bool (risesL l 0), M) := by
  have hl := hv.small
  rw [Fn_body Tryz.func156 (by decide) rfl rfl]
  simp (maxDischargeDepth := 80) only [push_cast, Nat.reduceBEq, reduceIte, reduceCtorEq, Nat.reduceEqDiff, Nat.reduceAdd, Nat.reduceMul, Nat.reduceSub, Nat.reduceLeDiff, Nat.reduceLT, Nat.reducePow, Int.reduceToNat, Int.reduceLT, Int.reduceLE, Int.reduceEq, Int.reduceAdd, Int.reduceSub, Int.reduceNeg, hv.len]
  refine lp_rule (fun s1 j f M' => ∃ a, f 3 = .int .i64 a ∧ f 6 = v ∧ f 7 = .int .i64 l.length ∧ f 8 = .int .i64 j ∧ risesL l 0 = risesL (l.drop j) a ∧ Sub M M' ∧ ∀ k, j ≤ k → FreshM (k :: s1) M') l.length ?_ (Nat.zero_le _) ?_ ?_
  · refine ⟨0, ?_, ?_, ?_, ?_, ?_, ?_, ?_⟩ <;> simp (maxDischargeDepth := 80) only [push_cast, Nat.reduceBEq, reduceIte, reduceCtorEq, Nat.reduceEqDiff, Nat.reduceAdd, Nat.reduceMul, Nat.reduceSub, Nat.reduceLeDiff, Nat.reduceLT, Nat.reducePow, Int.reduceToNat, Int.reduceLT, Int.reduceLE, Int.reduceEq, Int.reduceAdd, Int.reduceSub, Int.reduceNeg]
    intro k _; simp (maxDischargeDepth := 80) only [push_cast, Nat.reduceBEq, reduceIte, reduceCtorEq, Nat.reduceEqDiff, Nat.reduceAdd, Nat.reduceMul, Nat.reduceSub, Nat.reduceLeDiff, Nat.reduceLT, Nat.reducePow, Int.reduceToNat, Int.reduceLT, Int.reduceLE, Int.reduceEq, Int.reduceAdd, Int.reduceSub, Int.reduceNeg, fresh_dn hM, fresh_at hM]
  · rintro j f M' hj ⟨a, h3, h6, h7, h8, hr, hsub, hF⟩ ih
    obtain ⟨p, hp1, hp2⟩ := hv.get j hj
    have hp3 := hp2 M' hsub
    have hjj : ((j : Int) < (l.length : Int)) = True := by simp; omega
    have hx : l.drop j = l[j] :: l.drop (j + 1) := List.drop_eq_getElem_cons hj
    have hFj := hF j (Nat.le_refl _)
    by_cases c1 : l[j] ≤ a
    · have e : risesL l 0 = false := by rw [hr, hx, risesL, if_pos (.inl c1)]
      simp (maxDischargeDepth := 80) only [push_cast, Nat.reduceBEq, reduceIte, reduceCtorEq, Nat.reduceEqDiff, Nat.reduceAdd, Nat.reduceMul, Nat.reduceSub, Nat.reduceLeDiff, Nat.reduceLT, Nat.reducePow, Int.reduceToNat, Int.reduceLT, Int.reduceLE, Int.reduceEq, Int.reduceAdd, Int.reduceSub, Int.reduceNeg, h3, h6, h7, h8, hp1, hp3, hjj, c1, e, hsub, fresh_dn hFj, fresh_at hFj, fresh_dn hM, fresh_at hM]
    · by_cases c2 : 15 < l[j]
      · have e : risesL l 0 = false := by rw [hr, hx, risesL, if_pos (.inr c2)]
        simp (maxDischargeDepth := 80) only [push_cast, Nat.reduceBEq, reduceIte, reduceCtorEq, Nat.reduceEqDiff, Nat.reduceAdd, Nat.reduceMul, Nat.reduceSub, Nat.reduceLeDiff, Nat.reduceLT, Nat.reducePow, Int.reduceToNat, Int.reduceLT, Int.reduceLE, Int.reduceEq, Int.reduceAdd, Int.reduceSub, Int.reduceNeg, h3, h6, h7, h8, hp1, hp3, hjj, c1, c2, e, hsub, fresh_dn hFj, fresh_at hFj, fresh_dn hM, fresh_at hM]
      · simp (maxDischargeDepth := 80) only [push_cast, Nat.reduceBEq, reduceIte, reduceCtorEq, Nat.reduceEqDiff, Nat.reduceAdd, Nat.reduceMul, Nat.reduceSub, Nat.reduceLeDiff, Nat.reduceLT, Nat.reducePow, Int.reduceToNat, Int.reduceLT, Int.reduceLE, Int.reduceEq, Int.reduceAdd, Int.reduceSub, Int.reduceNeg, h3, h6, h7, h8, hp1, hp3, hjj, c1, c2, fresh_dn hFj, fresh_at hFj, fresh_dn hM, fresh_at hM]
        refine ih _ _ ⟨l[j], ?_, ?_, ?_, ?_, ?_, ?_, ?_⟩
        · simp (maxDischargeDepth := 80) only [push_cast, Nat.reduceBEq, reduceIte, reduceCtorEq, Nat.reduceEqDiff, Nat.reduceAdd, Nat.reduceMul, Nat.reduceSub, Nat.reduceLeDiff, Nat.reduceLT, Nat.reducePow, Int.reduceToNat, Int.reduceLT, Int.reduceLE, Int.reduceEq, Int.reduceAdd, Int.reduceSub, Int.reduceNeg]
        · simp (maxDischargeDepth := 80) only [push_cast, Nat.reduceBEq, reduceIte, reduceCtorEq, Nat.reduceEqDiff, Nat.reduceAdd, Nat.reduceMul, Nat.reduceSub, Nat.reduceLeDiff, Nat.reduceLT, Nat.reducePow, Int.reduceToNat, Int.reduceLT, Int.reduceLE, Int.reduceEq, Int.reduceAdd, Int.reduceSub, Int.reduceNeg, h6]
        · simp (maxDischargeDepth := 80) only [push_cast, Nat.reduceBEq, reduceIte, reduceCtorEq, Nat.reduceEqDiff, Nat.reduceAdd, Nat.reduceMul, Nat.reduceSub, Nat.reduceLeDiff, Nat.reduceLT, Nat.reducePow, Int.reduceToNat, Int.reduceLT, Int.reduceLE, Int.reduceEq, Int.reduceAdd, Int.reduceSub, Int.reduceNeg, h7]
        · simp (maxDischargeDepth := 80) only [push_cast, Nat.reduceBEq, reduceIte, reduceCtorEq, Nat.reduceEqDiff, Nat.reduceAdd, Nat.reduceMul, Nat.reduceSub, Nat.reduceLeDiff, Nat.reduceLT, Nat.reducePow, Int.reduceToNat, Int.reduceLT, Int.reduceLE, Int.reduceEq, Int.reduceAdd, Int.reduceSub, Int.reduceNeg, h8]
          exact congrArg (V.int IntKind.i64) (wrap_nat j (by omega))
        · rw [hr, hx, risesL, if_neg (by simp [c1, c2])]
        · simp (maxDischargeDepth := 80) only [push_cast, Nat.reduceBEq, reduceIte, reduceCtorEq, Nat.reduceEqDiff, Nat.reduceAdd, Nat.reduceMul, Nat.reduceSub, Nat.reduceLeDiff, Nat.reduceLT, Nat.reducePow, Int.reduceToNat, Int.reduceLT, Int.reduceLE, Int.reduceEq, Int.reduceAdd, Int.reduceSub, Int.reduceNeg, hsub, fresh_dn hM, fresh_at hM]
        · intro k hk
          simp (maxDischargeDepth := 80) only [push_cast, Nat.reduceBEq, reduceIte, reduceCtorEq, Nat.reduceEqDiff, Nat.reduceAdd, Nat.reduceMul, Nat.reduceSub, Nat.reduceLeDiff, Nat.reduceLT, Nat.reducePow, Int.reduceToNat, Int.reduceLT, Int.reduceLE, Int.reduceEq, Int.reduceAdd, Int.reduceSub, Int.reduceNeg, fresh_dn (hF k (by omega)), Off_deep (show k ≠ j by omega), eq_false (show ¬ k = j by omega)]
  · rintro f M' ⟨a, h3, h6, h7, h8, hr, hsub, hF⟩
    have hjj : ((l.length : Int) < (l.length : Int)) = False := by simp
    simp (maxDischargeDepth := 80) only [push_cast, Nat.reduceBEq, reduceIte, reduceCtorEq, Nat.reduceEqDiff, Nat.reduceAdd, Nat.reduceMul, Nat.reduceSub, Nat.reduceLeDiff, Nat.reduceLT, Nat.reducePow, Int.reduceToNat, Int.reduceLT, Int.reduceLE, Int.reduceEq, Int.reduceAdd, Int.reduceSub, Int.reduceNeg, h3, h6, h7, h8, hjj, hsub]
    rw [hr]
    simp [risesL]

def indexL : List Int → Int → Nat → Int
  | [], _, _ => -1
  | x :: l, a, j => if a = x then j else indexL l a (j + 1)
theorem indexL_neg (l : List Int) (a : Int) (j : Nat) : decide (0 ≤ indexL l a j) = l.contains a := by
  induction l generalizing j with
  | nil => simp [indexL]
  | cons x l ih =>
    simp only [indexL]
    by_cases h : a = x
    · simp [h]
    · simp only [if_neg h, ih]; simp [h]

theorem index_E (v : V) (l : List Int) (a : Int) (s : Id) (M : Mem) (hM : FreshM s M) (hv : RdI M v l) :
    Fn env false 162 [v, .int .i64 a] s M = some (.int .i64 (indexL l a 0), M) := by
  have hl := hv.small
  rw [Fn_body Tryz.func162 (by decide) rfl rfl]
  simp (maxDischargeDepth := 80) only [push_cast, Nat.reduceBEq, reduceIte, reduceCtorEq, Nat.reduceEqDiff, Nat.reduceAdd, Nat.reduceMul, Nat.reduceSub, Nat.reduceLeDiff, Nat.reduceLT, Nat.reducePow, Int.reduceToNat, Int.reduceLT, Int.reduceLE, Int.reduceEq, Int.reduceAdd, Int.reduceSub, Int.reduceNeg, hv.len]
  refine lp_rule (fun s1 j f M' => f 0 = v ∧ f 1 = .int .i64 a ∧ f 7 = .int .i64 l.length ∧ f 8 = .int .i64 j ∧ indexL l a 0 = indexL (l.drop j) a j ∧ Sub M M' ∧ ∀ k, j ≤ k → FreshM (k :: s1) M') l.length ?_ (Nat.zero_le _) ?_ ?_
  · refine ⟨?_, ?_, ?_, ?_, ?_, ?_, ?_⟩ <;> simp (maxDischargeDepth := 80) only [push_cast, Nat.reduceBEq, reduceIte, reduceCtorEq, Nat.reduceEqDiff, Nat.reduceAdd, Nat.reduceMul, Nat.reduceSub, Nat.reduceLeDiff, Nat.reduceLT, Nat.reducePow, Int.reduceToNat, Int.reduceLT, Int.reduceLE, Int.reduceEq, Int.reduceAdd, Int.reduceSub, Int.reduceNeg]
    intro k _; simp (maxDischargeDepth := 80) only [push_cast, Nat.reduceBEq, reduceIte, reduceCtorEq, Nat.reduceEqDiff, Nat.reduceAdd, Nat.reduceMul, Nat.reduceSub, Nat.reduceLeDiff, Nat.reduceLT, Nat.reducePow, Int.reduceToNat, Int.reduceLT, Int.reduceLE, Int.reduceEq, Int.reduceAdd, Int.reduceSub, Int.reduceNeg, fresh_dn hM, fresh_at hM]
  · rintro j f M' hj ⟨h0, h1, h7, h8, hr, hsub, hF⟩ ih
    obtain ⟨p, hp1, hp2⟩ := hv.get j hj
    have hp3 := hp2 M' hsub
    have hjj : ((j : Int) < (l.length : Int)) = True := by simp; omega
    have hx : l.drop j = l[j] :: l.drop (j + 1) := List.drop_eq_getElem_cons hj
    have hFj := hF j (Nat.le_refl _)
    by_cases c1 : a = l[j]
    · have e : indexL l a 0 = j := by rw [hr, hx, indexL, if_pos c1]
      simp (maxDischargeDepth := 80) only [push_cast, Nat.reduceBEq, reduceIte, reduceCtorEq, Nat.reduceEqDiff, Nat.reduceAdd, Nat.reduceMul, Nat.reduceSub, Nat.reduceLeDiff, Nat.reduceLT, Nat.reducePow, Int.reduceToNat, Int.reduceLT, Int.reduceLE, Int.reduceEq, Int.reduceAdd, Int.reduceSub, Int.reduceNeg, h0, h1, h7, h8, hp1, hp3, hjj, ← c1, e, hsub, fresh_dn hFj, fresh_at hFj, fresh_dn hM, fresh_at hM]
    · simp (maxDischargeDepth := 80) only [push_cast, Nat.reduceBEq, reduceIte, reduceCtorEq, Nat.reduceEqDiff, Nat.reduceAdd, Nat.reduceMul, Nat.reduceSub, Nat.reduceLeDiff, Nat.reduceLT, Nat.reducePow, Int.reduceToNat, Int.reduceLT, Int.reduceLE, Int.reduceEq, Int.reduceAdd, Int.reduceSub, Int.reduceNeg, h0, h1, h7, h8, hp1, hp3, hjj, c1, fresh_dn hFj, fresh_at hFj, fresh_dn hM, fresh_at hM]
      refine ih _ _ ⟨?_, ?_, ?_, ?_, ?_, ?_, ?_⟩
      · simp (maxDischargeDepth := 80) only [push_cast, Nat.reduceBEq, reduceIte, reduceCtorEq, Nat.reduceEqDiff, Nat.reduceAdd, Nat.reduceMul, Nat.reduceSub, Nat.reduceLeDiff, Nat.reduceLT, Nat.reducePow, Int.reduceToNat, Int.reduceLT, Int.reduceLE, Int.reduceEq, Int.reduceAdd, Int.reduceSub, Int.reduceNeg, h0]
      · simp (maxDischargeDepth := 80) only [push_cast, Nat.reduceBEq, reduceIte, reduceCtorEq, Nat.reduceEqDiff, Nat.reduceAdd, Nat.reduceMul, Nat.reduceSub, Nat.reduceLeDiff, Nat.reduceLT, Nat.reducePow, Int.reduceToNat, Int.reduceLT, Int.reduceLE, Int.reduceEq, Int.reduceAdd, Int.reduceSub, Int.reduceNeg, h1]
      · simp (maxDischargeDepth := 80) only [push_cast, Nat.reduceBEq, reduceIte, reduceCtorEq, Nat.reduceEqDiff, Nat.reduceAdd, Nat.reduceMul, Nat.reduceSub, Nat.reduceLeDiff, Nat.reduceLT, Nat.reducePow, Int.reduceToNat, Int.reduceLT, Int.reduceLE, Int.reduceEq, Int.reduceAdd, Int.reduceSub, Int.reduceNeg, h7]
      · simp (maxDischargeDepth := 80) only [push_cast, Nat.reduceBEq, reduceIte, reduceCtorEq, Nat.reduceEqDiff, Nat.reduceAdd, Nat.reduceMul, Nat.reduceSub, Nat.reduceLeDiff, Nat.reduceLT, Nat.reducePow, Int.reduceToNat, Int.reduceLT, Int.reduceLE, Int.reduceEq, Int.reduceAdd, Int.reduceSub, Int.reduceNeg, h8]
        exact congrArg (V.int IntKind.i64) (wrap_nat j (by omega))
      · rw [hr, hx, indexL, if_neg c1]
      · simp (maxDischargeDepth := 80) only [push_cast, Nat.reduceBEq, reduceIte, reduceCtorEq, Nat.reduceEqDiff, Nat.reduceAdd, Nat.reduceMul, Nat.reduceSub, Nat.reduceLeDiff, Nat.reduceLT, Nat.reducePow, Int.reduceToNat, Int.reduceLT, Int.reduceLE, Int.reduceEq, Int.reduceAdd, Int.reduceSub, Int.reduceNeg, hsub, fresh_dn hM, fresh_at hM]
      · intro k hk
        simp (maxDischargeDepth := 80) only [push_cast, Nat.reduceBEq, reduceIte, reduceCtorEq, Nat.reduceEqDiff, Nat.reduceAdd, Nat.reduceMul, Nat.reduceSub, Nat.reduceLeDiff, Nat.reduceLT, Nat.reducePow, Int.reduceToNat, Int.reduceLT, Int.reduceLE, Int.reduceEq, Int.reduceAdd, Int.reduceSub, Int.reduceNeg, fresh_dn (hF k (by omega)), Off_deep (show k ≠ j by omega), eq_false (show ¬ k = j by omega)]
  · rintro f M' ⟨h0, h1, h7, h8, hr, hsub, hF⟩
    have hjj : ((l.length : Int) < (l.length : Int)) = False := by simp
    simp (maxDischargeDepth := 80) only [push_cast, Nat.reduceBEq, reduceIte, reduceCtorEq, Nat.reduceEqDiff, Nat.reduceAdd, Nat.reduceMul, Nat.reduceSub, Nat.reduceLeDiff, Nat.reduceLT, Nat.reducePow, Int.reduceToNat, Int.reduceLT, Int.reduceLE, Int.reduceEq, Int.reduceAdd, Int.reduceSub, Int.reduceNeg, h0, h1, h7, h8, hjj, hsub]
    rw [hr]
    simp [indexL]

theorem contains_E (v : V) (l : List Int) (a : Int) (s : Id) (M : Mem) (hM : FreshM s M) (hv : RdI M v l) :
    Fn env false 95 [v, .int .i64 a] s M = some (.bool (l.contains a), M) := by
  rw [Fn_body Tryz.func95 (by decide) rfl rfl]
  have hi := fun s' M' (h1 : FreshM s' M') (h2 : Sub M M') => index_E v l a s' M' h1 (hv.mono h2)
  simp (maxDischargeDepth := 80) only [push_cast, Nat.reduceBEq, reduceIte, reduceCtorEq, Nat.reduceEqDiff, Nat.reduceAdd, Nat.reduceMul, Nat.reduceSub, Nat.reduceLeDiff, Nat.reduceLT, Nat.reducePow, Int.reduceToNat, Int.reduceLT, Int.reduceLE, Int.reduceEq, Int.reduceAdd, Int.reduceSub, Int.reduceNeg, hi, fresh_dn hM, fresh_at hM, indexL_neg]

theorem amongC_E (i : Id) (w : V) (l : List Int) (a : Int) (s : Id) (M : Mem) (hM : FreshM s M) (hi : M i = some (.cells [w])) (hw : RdI M w l) :
    Fn env false 165 [.int .i64 a, .ptr i 0] s M = some (.bool (l.contains a), M) := by
  rw [Fn_body Tryz.func165 (by decide) rfl rfl]
  have hc := fun s' M' (h1 : FreshM s' M') (h2 : Sub M M') => contains_E w l a s' M' h1 (hw.mono h2)
  simp (maxDischargeDepth := 80) only [push_cast, Nat.reduceBEq, reduceIte, reduceCtorEq, Nat.reduceEqDiff, Nat.reduceAdd, Nat.reduceMul, Nat.reduceSub, Nat.reduceLeDiff, Nat.reduceLT, Nat.reducePow, Int.reduceToNat, Int.reduceLT, Int.reduceLE, Int.reduceEq, Int.reduceAdd, Int.reduceSub, Int.reduceNeg, hc, hi, fresh_dn hM, fresh_at hM]

def countL (l l2 : List Int) : Nat := l.countP fun x => l2.contains x

theorem count_E (v w : V) (l l2 : List Int) (i : Id) (s : Id) (M : Mem) (hM : FreshM s M) (hv : RdI M v l) (hi : M i = some (.cells [w])) (hw : RdI M w l2) :
    Fn env false 111 [v, .fn (.func 165) [] [.ptr i 0]] s M = some (.int .i64 (countL l l2), M) := by
  have hl := hv.small
  rw [Fn_body Tryz.func111 (by decide) rfl rfl]
  simp (maxDischargeDepth := 80) only [push_cast, Nat.reduceBEq, reduceIte, reduceCtorEq, Nat.reduceEqDiff, Nat.reduceAdd, Nat.reduceMul, Nat.reduceSub, Nat.reduceLeDiff, Nat.reduceLT, Nat.reducePow, Int.reduceToNat, Int.reduceLT, Int.reduceLE, Int.reduceEq, Int.reduceAdd, Int.reduceSub, Int.reduceNeg, hv.len]
  refine lp_rule (fun s1 j f M' => f 1 = .fn (.func 165) [] [.ptr i 0] ∧ f 5 = .int .i64 (countL (l.take j) l2) ∧ f 8 = v ∧ f 9 = .int .i64 l.length ∧ f 10 = .int .i64 j ∧ Sub M M' ∧ ∀ k, j ≤ k → FreshM (k :: s1) M') l.length ?_ (Nat.zero_le _) ?_ ?_
  · refine ⟨?_, ?_, ?_, ?_, ?_, ?_, ?_⟩ <;> simp (maxDischargeDepth := 80) only [push_cast, Nat.reduceBEq, reduceIte, reduceCtorEq, Nat.reduceEqDiff, Nat.reduceAdd, Nat.reduceMul, Nat.reduceSub, Nat.reduceLeDiff, Nat.reduceLT, Nat.reducePow, Int.reduceToNat, Int.reduceLT, Int.reduceLE, Int.reduceEq, Int.reduceAdd, Int.reduceSub, Int.reduceNeg]
    · simp [countL]
    · intro k _; simp (maxDischargeDepth := 80) only [push_cast, Nat.reduceBEq, reduceIte, reduceCtorEq, Nat.reduceEqDiff, Nat.reduceAdd, Nat.reduceMul, Nat.reduceSub, Nat.reduceLeDiff, Nat.reduceLT, Nat.reducePow, Int.reduceToNat, Int.reduceLT, Int.reduceLE, Int.reduceEq, Int.reduceAdd, Int.reduceSub, Int.reduceNeg, fresh_dn hM, fresh_at hM]
  · rintro j f M' hj ⟨h1, h5, h8, h9, h10, hsub, hF⟩ ih
    obtain ⟨p, hp1, hp2⟩ := hv.get j hj
    have hp3 := hp2 M' hsub
    have hjj : ((j : Int) < (l.length : Int)) = True := by simp; omega
    have hFj := hF j (Nat.le_refl _)
    have ha := fun s' M'' (q1 : FreshM s' M'') (q2 : Sub M' M'') => amongC_E i w l2 l[j] s' M'' q1 (q2 _ _ (hsub _ _ hi)) (hw.mono (sub_trans hsub q2))
    have hcnt : countL (l.take (j + 1)) l2 = countL (l.take j) l2 + if l2.contains l[j] then 1 else 0 := by
      rw [List.take_succ_eq_append_getElem hj, countL, List.countP_append]; simp [countL, List.countP_cons]
    have hcj : countL (l.take j) l2 ≤ j := Nat.le_trans List.countP_le_length (by simp; omega)
    cases c1 : l2.contains l[j] with
    | true =>
      simp (maxDischargeDepth := 80) only [push_cast, Nat.reduceBEq, reduceIte, reduceCtorEq, Nat.reduceEqDiff, Nat.reduceAdd, Nat.reduceMul, Nat.reduceSub, Nat.reduceLeDiff, Nat.reduceLT, Nat.reducePow, Int.reduceToNat, Int.reduceLT, Int.reduceLE, Int.reduceEq, Int.reduceAdd, Int.reduceSub, Int.reduceNeg, h1, h5, h8, h9, h10, hp1, hp3, hjj, ha, c1, fresh_dn hFj, fresh_at hFj, fresh_dn hM, fresh_at hM]
      refine ih _ _ ⟨?_, ?_, ?_, ?_, ?_, ?_, ?_⟩
      · simp (maxDischargeDepth := 80) only [push_cast, Nat.reduceBEq, reduceIte, reduceCtorEq, Nat.reduceEqDiff, Nat.reduceAdd, Nat.reduceMul, Nat.reduceSub, Nat.reduceLeDiff, Nat.reduceLT, Nat.reducePow, Int.reduceToNat, Int.reduceLT, Int.reduceLE, Int.reduceEq, Int.reduceAdd, Int.reduceSub, Int.reduceNeg, h1]
      · simp (maxDischargeDepth := 80) only [push_cast, Nat.reduceBEq, reduceIte, reduceCtorEq, Nat.reduceEqDiff, Nat.reduceAdd, Nat.reduceMul, Nat.reduceSub, Nat.reduceLeDiff, Nat.reduceLT, Nat.reducePow, Int.reduceToNat, Int.reduceLT, Int.reduceLE, Int.reduceEq, Int.reduceAdd, Int.reduceSub, Int.reduceNeg, hcnt, c1, h5]
        exact congrArg (V.int IntKind.i64) (wrap_nat _ (by omega))
      · simp (maxDischargeDepth := 80) only [push_cast, Nat.reduceBEq, reduceIte, reduceCtorEq, Nat.reduceEqDiff, Nat.reduceAdd, Nat.reduceMul, Nat.reduceSub, Nat.reduceLeDiff, Nat.reduceLT, Nat.reducePow, Int.reduceToNat, Int.reduceLT, Int.reduceLE, Int.reduceEq, Int.reduceAdd, Int.reduceSub, Int.reduceNeg, h8]
      · simp (maxDischargeDepth := 80) only [push_cast, Nat.reduceBEq, reduceIte, reduceCtorEq, Nat.reduceEqDiff, Nat.reduceAdd, Nat.reduceMul, Nat.reduceSub, Nat.reduceLeDiff, Nat.reduceLT, Nat.reducePow, Int.reduceToNat, Int.reduceLT, Int.reduceLE, Int.reduceEq, Int.reduceAdd, Int.reduceSub, Int.reduceNeg, h9]
      · simp (maxDischargeDepth := 80) only [push_cast, Nat.reduceBEq, reduceIte, reduceCtorEq, Nat.reduceEqDiff, Nat.reduceAdd, Nat.reduceMul, Nat.reduceSub, Nat.reduceLeDiff, Nat.reduceLT, Nat.reducePow, Int.reduceToNat, Int.reduceLT, Int.reduceLE, Int.reduceEq, Int.reduceAdd, Int.reduceSub, Int.reduceNeg, h10]
        exact congrArg (V.int IntKind.i64) (wrap_nat j (by omega))
      · simp (maxDischargeDepth := 80) only [push_cast, Nat.reduceBEq, reduceIte, reduceCtorEq, Nat.reduceEqDiff, Nat.reduceAdd, Nat.reduceMul, Nat.reduceSub, Nat.reduceLeDiff, Nat.reduceLT, Nat.reducePow, Int.reduceToNat, Int.reduceLT, Int.reduceLE, Int.reduceEq, Int.reduceAdd, Int.reduceSub, Int.reduceNeg, hsub, fresh_dn hM, fresh_at hM]
      · intro k hk
        simp (maxDischargeDepth := 80) only [push_cast, Nat.reduceBEq, reduceIte, reduceCtorEq, Nat.reduceEqDiff, Nat.reduceAdd, Nat.reduceMul, Nat.reduceSub, Nat.reduceLeDiff, Nat.reduceLT, Nat.reducePow, Int.reduceToNat, Int.reduceLT, Int.reduceLE, Int.reduceEq, Int.reduceAdd, Int.reduceSub, Int.reduceNeg, fresh_dn (hF k (by omega)), Off_deep (show k ≠ j by omega), eq_false (show ¬ k = j by omega)]
    | false =>
      simp (maxDischargeDepth := 80) only [push_cast, Nat.reduceBEq, reduceIte, reduceCtorEq, Nat.reduceEqDiff, Nat.reduceAdd, Nat.reduceMul, Nat.reduceSub, Nat.reduceLeDiff, Nat.reduceLT, Nat.reducePow, Int.reduceToNat, Int.reduceLT, Int.reduceLE, Int.reduceEq, Int.reduceAdd, Int.reduceSub, Int.reduceNeg, h1, h5, h8, h9, h10, hp1, hp3, hjj, ha, c1, fresh_dn hFj, fresh_at hFj, fresh_dn hM, fresh_at hM]
      refine ih _ _ ⟨?_, ?_, ?_, ?_, ?_, ?_, ?_⟩
      · simp (maxDischargeDepth := 80) only [push_cast, Nat.reduceBEq, reduceIte, reduceCtorEq, Nat.reduceEqDiff, Nat.reduceAdd, Nat.reduceMul, Nat.reduceSub, Nat.reduceLeDiff, Nat.reduceLT, Nat.reducePow, Int.reduceToNat, Int.reduceLT, Int.reduceLE, Int.reduceEq, Int.reduceAdd, Int.reduceSub, Int.reduceNeg, h1]
      · simp (maxDischargeDepth := 80) only [push_cast, Nat.reduceBEq, reduceIte, reduceCtorEq, Nat.reduceEqDiff, Nat.reduceAdd, Nat.reduceMul, Nat.reduceSub, Nat.reduceLeDiff, Nat.reduceLT, Nat.reducePow, Int.reduceToNat, Int.reduceLT, Int.reduceLE, Int.reduceEq, Int.reduceAdd, Int.reduceSub, Int.reduceNeg, hcnt, c1, h5]
      · simp (maxDischargeDepth := 80) only [push_cast, Nat.reduceBEq, reduceIte, reduceCtorEq, Nat.reduceEqDiff, Nat.reduceAdd, Nat.reduceMul, Nat.reduceSub, Nat.reduceLeDiff, Nat.reduceLT, Nat.reducePow, Int.reduceToNat, Int.reduceLT, Int.reduceLE, Int.reduceEq, Int.reduceAdd, Int.reduceSub, Int.reduceNeg, h8]
      · simp (maxDischargeDepth := 80) only [push_cast, Nat.reduceBEq, reduceIte, reduceCtorEq, Nat.reduceEqDiff, Nat.reduceAdd, Nat.reduceMul, Nat.reduceSub, Nat.reduceLeDiff, Nat.reduceLT, Nat.reducePow, Int.reduceToNat, Int.reduceLT, Int.reduceLE, Int.reduceEq, Int.reduceAdd, Int.reduceSub, Int.reduceNeg, h9]
      · simp (maxDischargeDepth := 80) only [push_cast, Nat.reduceBEq, reduceIte, reduceCtorEq, Nat.reduceEqDiff, Nat.reduceAdd, Nat.reduceMul, Nat.reduceSub, Nat.reduceLeDiff, Nat.reduceLT, Nat.reducePow, Int.reduceToNat, Int.reduceLT, Int.reduceLE, Int.reduceEq, Int.reduceAdd, Int.reduceSub, Int.reduceNeg, h10]
        exact congrArg (V.int IntKind.i64) (wrap_nat j (by omega))
      · simp (maxDischargeDepth := 80) only [push_cast, Nat.reduceBEq, reduceIte, reduceCtorEq, Nat.reduceEqDiff, Nat.reduceAdd, Nat.reduceMul, Nat.reduceSub, Nat.reduceLeDiff, Nat.reduceLT, Nat.reducePow, Int.reduceToNat, Int.reduceLT, Int.reduceLE, Int.reduceEq, Int.reduceAdd, Int.reduceSub, Int.reduceNeg, hsub, fresh_dn hM, fresh_at hM]
      · intro k hk
        simp (maxDischargeDepth := 80) only [push_cast, Nat.reduceBEq, reduceIte, reduceCtorEq, Nat.reduceEqDiff, Nat.reduceAdd, Nat.reduceMul, Nat.reduceSub, Nat.reduceLeDiff, Nat.reduceLT, Nat.reducePow, Int.reduceToNat, Int.reduceLT, Int.reduceLE, Int.reduceEq, Int.reduceAdd, Int.reduceSub, Int.reduceNeg, fresh_dn (hF k (by omega)), Off_deep (show k ≠ j by omega), eq_false (show ¬ k = j by omega)]
  · rintro f M' ⟨h1, h5, h8, h9, h10, hsub, hF⟩
    have hjj : ((l.length : Int) < (l.length : Int)) = False := by simp
    simp (maxDischargeDepth := 80) only [push_cast, Nat.reduceBEq, reduceIte, reduceCtorEq, Nat.reduceEqDiff, Nat.reduceAdd, Nat.reduceMul, Nat.reduceSub, Nat.reduceLeDiff, Nat.reduceLT, Nat.reducePow, Int.reduceToNat, Int.reduceLT, Int.reduceLE, Int.reduceEq, Int.reduceAdd, Int.reduceSub, Int.reduceNeg, h1, h5, h8, h9, h10, hjj, hsub]
    simp
end Go.Ab.R

/- Groups: may one be, who wins. Conditions: none. -/
namespace Go.Ab.R
open Go Go.Proofs
set_option maxRecDepth 100000

theorem among_E (v : V) (s : Id) (M : Mem) (hM : FreshM s M) (h1 : v.one = true) (h2 : v.cells = [v]) :
    Fn env false 112 [v] s M = some (.fn (.func 165) [] [.ptr (0 :: 0 :: 0 :: s) 0], M.set (0 :: 0 :: 0 :: s) (.cells [v])) := by
  rw [Fn_body Tryz.func112 (by decide) rfl rfl]
  simp (maxDischargeDepth := 80) only [push_cast, Nat.reduceBEq, reduceIte, reduceCtorEq, Nat.reduceEqDiff, Nat.reduceAdd, Nat.reduceMul, Nat.reduceSub, Nat.reduceLeDiff, Nat.reduceLT, Nat.reducePow, Int.reduceToNat, Int.reduceLT, Int.reduceLE, Int.reduceEq, Int.reduceAdd, Int.reduceSub, Int.reduceNeg, h1, h2, fresh_dn hM, fresh_at hM]

def rightL (l l2 : List Int) : Bool := risesL l 0 && risesL l2 0 && decide (0 < (l.length : Int)) && decide ((countL l l2 : Int) = 0)

theorem right_E (v w : V) (l l2 : List Int) (s : Id) (M : Mem) (hM : FreshM s M) (hv : RdI M v l) (hw : RdI M w l2) :
    Fn env false 81 [.agg [v, w]] s M = some (.bool (rightL l l2), M) := by
  rw [Fn_body Tryz.func81 (by decide) rfl rfl]
  have r1 := fun s' M' (q1 : FreshM s' M') (q2 : Sub M M') => rises_E v l s' M' q1 (hv.mono q2)
  have r2 := fun s' M' (q1 : FreshM s' M') (q2 : Sub M M') => rises_E w l2 s' M' q1 (hw.mono q2)
  have r3 := fun s' M' (q1 : FreshM s' M') => among_E w s' M' q1 hw.one hw.cells
  have r4 := fun i s' M' (q1 : FreshM s' M') (q2 : Sub M M') (q3 : M' i = some (.cells [w])) => count_E v w l l2 i s' M' q1 (hv.mono q2) q3 (hw.mono q2)
  cases c1 : risesL l 0 with
  | false => simp (maxDischargeDepth := 80) only [push_cast, Nat.reduceBEq, reduceIte, reduceCtorEq, Nat.reduceEqDiff, Nat.reduceAdd, Nat.reduceMul, Nat.reduceSub, Nat.reduceLeDiff, Nat.reduceLT, Nat.reducePow, Int.reduceToNat, Int.reduceLT, Int.reduceLE, Int.reduceEq, Int.reduceAdd, Int.reduceSub, Int.reduceNeg, hv.one, hv.cells, hw.one, hw.cells, r1, c1, rightL, fresh_dn hM, fresh_at hM]
  | true =>
  cases c2 : risesL l2 0 with
  | false => simp (maxDischargeDepth := 80) only [push_cast, Nat.reduceBEq, reduceIte, reduceCtorEq, Nat.reduceEqDiff, Nat.reduceAdd, Nat.reduceMul, Nat.reduceSub, Nat.reduceLeDiff, Nat.reduceLT, Nat.reducePow, Int.reduceToNat, Int.reduceLT, Int.reduceLE, Int.reduceEq, Int.reduceAdd, Int.reduceSub, Int.reduceNeg, hv.one, hv.cells, hw.one, hw.cells, r1, r2, c1, c2, rightL, fresh_dn hM, fresh_at hM]
  | true =>
  by_cases c3 : 0 < (l.length : Int)
  · simp (maxDischargeDepth := 80) only [push_cast, Nat.reduceBEq, reduceIte, reduceCtorEq, Nat.reduceEqDiff, Nat.reduceAdd, Nat.reduceMul, Nat.reduceSub, Nat.reduceLeDiff, Nat.reduceLT, Nat.reducePow, Int.reduceToNat, Int.reduceLT, Int.reduceLE, Int.reduceEq, Int.reduceAdd, Int.reduceSub, Int.reduceNeg, hv.one, hv.cells, hw.one, hw.cells, hv.len, r1, r2, r3, r4, c1, c2, c3, rightL, fresh_dn hM, fresh_at hM]
  · simp (maxDischargeDepth := 80) only [push_cast, Nat.reduceBEq, reduceIte, reduceCtorEq, Nat.reduceEqDiff, Nat.reduceAdd, Nat.reduceMul, Nat.reduceSub, Nat.reduceLeDiff, Nat.reduceLT, Nat.reducePow, Int.reduceToNat, Int.reduceLT, Int.reduceLE, Int.reduceEq, Int.reduceAdd, Int.reduceSub, Int.reduceNeg, hv.one, hv.cells, hw.one, hw.cells, hv.len, r1, r2, c1, c2, c3, rightL, fresh_dn hM, fresh_at hM]

def needL (l l2 : List Int) : Int := if rightL l l2 then IntKind.wrap .i64 (IntKind.wrap .i64 ((l.length : Int).tdiv 2) + 1) else 0

theorem need_E (v w : V) (l l2 : List Int) (s : Id) (M : Mem) (hM : FreshM s M) (hv : RdI M v l) (hw : RdI M w l2) :
    Fn env false 113 [.agg [v, w]] s M = some (.int .i64 (needL l l2), M) := by
  rw [Fn_body Tryz.func113 (by decide) rfl rfl]
  have r1 := fun s' M' (q1 : FreshM s' M') (q2 : Sub M M') => right_E v w l l2 s' M' q1 (hv.mono q2) (hw.mono q2)
  cases c1 : rightL l l2 <;> simp (maxDischargeDepth := 80) only [push_cast, Nat.reduceBEq, reduceIte, reduceCtorEq, Nat.reduceEqDiff, Nat.reduceAdd, Nat.reduceMul, Nat.reduceSub, Nat.reduceLeDiff, Nat.reduceLT, Nat.reducePow, Int.reduceToNat, Int.reduceLT, Int.reduceLE, Int.reduceEq, Int.reduceAdd, Int.reduceSub, Int.reduceNeg, hv.one, hv.cells, hw.one, hw.cells, hv.len, r1, c1, needL, fresh_dn hM, fresh_at hM]

/-- l: voters, l2: learners, x: who said so -/
def winsL (l l2 x : List Int) : Bool := rightL l l2 && decide (needL l l2 ≤ (countL l x : Int))

theorem wins_E (v w u : V) (l l2 x : List Int) (s : Id) (M : Mem) (hM : FreshM s M) (hv : RdI M v l) (hw : RdI M w l2) (hu : RdI M u x) :
    Fn env false 51 [.agg [v, w], u] s M = some (.bool (winsL l l2 x), M) := by
  rw [Fn_body Tryz.func51 (by decide) rfl rfl]
  have r1 := fun s' M' (q1 : FreshM s' M') (q2 : Sub M M') => right_E v w l l2 s' M' q1 (hv.mono q2) (hw.mono q2)
  have r2 := fun s' M' (q1 : FreshM s' M') (q2 : Sub M M') => need_E v w l l2 s' M' q1 (hv.mono q2) (hw.mono q2)
  have r3 := fun s' M' (q1 : FreshM s' M') => among_E u s' M' q1 hu.one hu.cells
  have r4 := fun i s' M' (q1 : FreshM s' M') (q2 : Sub M M') (q3 : M' i = some (.cells [u])) => count_E v u l x i s' M' q1 (hv.mono q2) q3 (hu.mono q2)
  cases c1 : rightL l l2 with
  | false => simp (maxDischargeDepth := 80) only [push_cast, Nat.reduceBEq, reduceIte, reduceCtorEq, Nat.reduceEqDiff, Nat.reduceAdd, Nat.reduceMul, Nat.reduceSub, Nat.reduceLeDiff, Nat.reduceLT, Nat.reducePow, Int.reduceToNat, Int.reduceLT, Int.reduceLE, Int.reduceEq, Int.reduceAdd, Int.reduceSub, Int.reduceNeg, hv.one, hv.cells, hw.one, hw.cells, r1, c1, winsL, fresh_dn hM, fresh_at hM]
  | true => simp (maxDischargeDepth := 80) only [push_cast, Nat.reduceBEq, reduceIte, reduceCtorEq, Nat.reduceEqDiff, Nat.reduceAdd, Nat.reduceMul, Nat.reduceSub, Nat.reduceLeDiff, Nat.reduceLT, Nat.reducePow, Int.reduceToNat, Int.reduceLT, Int.reduceLE, Int.reduceEq, Int.reduceAdd, Int.reduceSub, Int.reduceNeg, hv.one, hv.cells, hw.one, hw.cells, r1, r2, r3, r4, c1, winsL, fresh_dn hM, fresh_at hM]

def withinR (n a b : Int) : Bool := decide (a ≤ n) && decide (n ≤ b)
theorem within80_E (n b : Int) (s : Id) (M : Mem) : Fn env false 80 [.int .i64 n, .int .i64 b] s M = some (.bool (withinR n 0 b), M) := by
  rw [Fn_body Tryz.func80 (by decide) rfl rfl]
  by_cases c : 0 ≤ n <;> simp (maxDischargeDepth := 80) only [push_cast, Nat.reduceBEq, reduceIte, reduceCtorEq, Nat.reduceEqDiff, Nat.reduceAdd, Nat.reduceMul, Nat.reduceSub, Nat.reduceLeDiff, Nat.reduceLT, Nat.reducePow, Int.reduceToNat, Int.reduceLT, Int.reduceLE, Int.reduceEq, Int.reduceAdd, Int.reduceSub, Int.reduceNeg, c, withinR]
theorem within82_E (n a b : Int) (s : Id) (M : Mem) : Fn env false 82 [.int .i64 n, .int .i64 a, .int .i64 b] s M = some (.bool (withinR n a b), M) := by
  rw [Fn_body Tryz.func82 (by decide) rfl rfl]
  by_cases c : a ≤ n <;> simp (maxDischargeDepth := 80) only [push_cast, Nat.reduceBEq, reduceIte, reduceCtorEq, Nat.reduceEqDiff, Nat.reduceAdd, Nat.reduceMul, Nat.reduceSub, Nat.reduceLeDiff, Nat.reduceLT, Nat.reducePow, Int.reduceToNat, Int.reduceLT, Int.reduceLE, Int.reduceEq, Int.reduceAdd, Int.reduceSub, Int.reduceNeg, c, withinR]
end Go.Ab.R

/- Slices of entries in the memory. Conditions: none. -/
namespace Go.Ab.R
open Go Go.Proofs
set_option maxRecDepth 100000

def flatE (l : List Ent) : List V := l.flatMap Ent.cells
theorem flatE_nil : flatE [] = [] := rfl
theorem flatE_cons (e : Ent) (l : List Ent) : flatE (e :: l) = e.cells ++ flatE l := rfl
theorem flatE_append (a b : List Ent) : flatE (a ++ b) = flatE a ++ flatE b := List.flatMap_append
theorem cells_len (e : Ent) : e.cells.length = 4 := rfl
theorem flatE_len (l : List Ent) : (flatE l).length = l.length * 4 := by
  induction l with
  | nil => rfl
  | cons e l ih => rw [flatE_cons, List.length_append, ih, cells_len, List.length_cons]; omega
theorem flatE_drop (l : List Ent) (j : Nat) : (flatE l).drop (j * 4) = flatE (l.drop j) := by
  induction l generalizing j with
  | nil => simp [flatE_nil]
  | cons e l ih =>
    cases j with
    | zero => simp
    | succ j =>
      rw [flatE_cons, List.drop_succ_cons, ← ih, List.drop_append, cells_len, List.drop_eq_nil_of_le (by rw [cells_len]; omega), List.nil_append]
      congr 1; omega
theorem flatE_take (l : List Ent) (j : Nat) : (flatE l).take (j * 4) = flatE (l.take j) := by
  induction l generalizing j with
  | nil => simp [flatE_nil]
  | cons e l ih =>
    cases j with
    | zero => simp [flatE_nil]
    | succ j =>
      rw [flatE_cons, List.take_succ_cons, flatE_cons, ← ih, List.take_append, cells_len, List.take_of_length_le (by rw [cells_len]; omega)]
      congr 2; omega
theorem flatE_all (l : List Ent) : (flatE l).all V.one = true := by
  induction l with
  | nil => rfl
  | cons e l ih => rw [flatE_cons, List.all_append, ih]; simp only [Ent.cells, List.all_cons, List.all_nil, one_data, one_int, Bool.and_true]

/-- where the entries of a slice lie -/
inductive EntsV (M : Mem) : V → List Ent → Prop
  | nils : EntsV M .nils []
  | sl (i : Id) (off : Nat) (cap : Option Nat) (cs : List V) (l : List Ent) (h : M i = some (.cells cs)) (h1 : off + l.length * 4 ≤ cs.length) (h2 : (cs.drop off).take (l.length * 4) = flatE l)
      (h3 : ∀ c, cap = some c → l.length ≤ c) : EntsV M (.sl i off l.length 4 cap) l
  | psl (l : List Ent) (b : Bool) : EntsV M (.psl (flatE l) l.length b) l

theorem EntsV.mono {M M' v l} (h : EntsV M v l) (hs : Sub M M') : EntsV M' v l := by
  cases h with
  | nils => exact .nils
  | sl i off cap cs l h h1 h2 h3 => exact .sl i off cap cs l (hs _ _ h) h1 h2 h3
  | psl l b => exact .psl l b

/-- reading one entry -/
structure RdX (M : Mem) (v : V) (l : List Ent) : Prop where
  len : ∀ M', lenV Tryz.prog 46 M' v = some (.int .i64 l.length)
  get : ∀ j (h : j < l.length), ∃ p q0 q1, indexAddrV Tryz.prog 46 v (.int .i64 j) = some p ∧ fieldAddrV Tryz.prog 52 p 0 = some q0 ∧ fieldAddrV Tryz.prog 52 p 1 = some q1 ∧
    ∀ M', Sub M M' → loadV Tryz.prog 52 M' p = some (.agg l[j].cells) ∧ loadV Tryz.prog 3 M' q0 = some (.int .i64 l[j].index) ∧ loadV Tryz.prog 3 M' q1 = some (.int .i64 l[j].term)
  one : v.one = true
  cells : v.cells = [v]

theorem RdX.toE {M v l} (h : RdX M v l) : RdE M v l :=
  ⟨h.len, fun j hj => by obtain ⟨p, _, _, h1, _, _, h2⟩ := h.get j hj; exact ⟨p, h1, fun M' hs => (h2 M' hs).1⟩⟩
theorem RdX.mono {M M' v l} (h : RdX M v l) (hs : Sub M M') : RdX M' v l :=
  ⟨h.len, fun j hj => by obtain ⟨p, q0, q1, h1, h2, h3, h4⟩ := h.get j hj; exact ⟨p, q0, q1, h1, h2, h3, fun M'' h => h4 M'' (sub_trans hs h)⟩, h.one, h.cells⟩

theorem flat_at (l : List Ent) (j : Nat) (hj : j < l.length) : ((flatE l).drop (j * 4)).take 4 = l[j].cells := by
  rw [flatE_drop, List.drop_eq_getElem_cons hj, flatE_cons, List.take_append_of_le_length (by rw [cells_len]; omega), List.take_of_length_le (by rw [cells_len]; omega)]
theorem take4 {cs : List V} {o : Nat} {e : Ent} (h : (cs.drop o).take 4 = e.cells) : o + 4 ≤ cs.length ∧ cs[o]? = some (.int .i64 e.index) ∧ cs[o + 1]? = some (.int .i64 e.term) := by
  have hl := congrArg List.length h
  rw [List.length_take, List.length_drop, cells_len] at hl
  refine ⟨by omega, ?_, ?_⟩
  · have := congrArg (fun x => x[0]?) h
    simp only [List.getElem?_take, List.getElem?_drop] at this
    simpa [Ent.cells] using this
  · have := congrArg (fun x => x[1]?) h
    simp only [List.getElem?_take, List.getElem?_drop] at this
    simpa [Ent.cells] using this

theorem EntsV.rd {M v l} (h : EntsV M v l) : RdX M v l := by
  cases h with
  | nils => exact ⟨fun _ => by simp (maxDischargeDepth := 80) only [push_cast, Nat.reduceBEq, reduceIte, reduceCtorEq, Nat.reduceEqDiff, Nat.reduceAdd, Nat.reduceMul, Nat.reduceSub, Nat.reduceLeDiff, Nat.reduceLT, Nat.reducePow, Int.reduceToNat, Int.reduceLT, Int.reduceLE, Int.reduceEq, Int.reduceAdd, Int.reduceSub, Int.reduceNeg]; try rfl, fun j hj => absurd hj (by simp), rfl, rfl⟩
  | sl i off cap cs l h h1 h2 h3 =>
    refine ⟨fun _ => by simp (maxDischargeDepth := 80) only [push_cast, Nat.reduceBEq, reduceIte, reduceCtorEq, Nat.reduceEqDiff, Nat.reduceAdd, Nat.reduceMul, Nat.reduceSub, Nat.reduceLeDiff, Nat.reduceLT, Nat.reducePow, Int.reduceToNat, Int.reduceLT, Int.reduceLE, Int.reduceEq, Int.reduceAdd, Int.reduceSub, Int.reduceNeg], fun j hj => ?_, rfl, rfl⟩
    have hjj : ((j : Int) < (l.length : Int)) = True := by simp; omega
    have hx : (cs.drop (off + j * 4)).take 4 = l[j].cells := by
      have := flat_at l j hj
      rw [← h2, List.drop_take, List.drop_drop, List.take_take] at this
      rw [← this]; congr 1; omega
    obtain ⟨k1, k2, k3⟩ := take4 hx
    refine ⟨.ptr i (off + j * 4), .ptr i (off + j * 4 + 0), .ptr i (off + j * 4 + 1), ?_, ?_, ?_, fun M' hs => ⟨?_, ?_, ?_⟩⟩
    · simp (maxDischargeDepth := 80) only [push_cast, Nat.reduceBEq, reduceIte, reduceCtorEq, Nat.reduceEqDiff, Nat.reduceAdd, Nat.reduceMul, Nat.reduceSub, Nat.reduceLeDiff, Nat.reduceLT, Nat.reducePow, Int.reduceToNat, Int.reduceLT, Int.reduceLE, Int.reduceEq, Int.reduceAdd, Int.reduceSub, Int.reduceNeg, hjj]; simp
    · simp (maxDischargeDepth := 80) only [push_cast, Nat.reduceBEq, reduceIte, reduceCtorEq, Nat.reduceEqDiff, Nat.reduceAdd, Nat.reduceMul, Nat.reduceSub, Nat.reduceLeDiff, Nat.reduceLT, Nat.reducePow, Int.reduceToNat, Int.reduceLT, Int.reduceLE, Int.reduceEq, Int.reduceAdd, Int.reduceSub, Int.reduceNeg]
    · simp (maxDischargeDepth := 80) only [push_cast, Nat.reduceBEq, reduceIte, reduceCtorEq, Nat.reduceEqDiff, Nat.reduceAdd, Nat.reduceMul, Nat.reduceSub, Nat.reduceLeDiff, Nat.reduceLT, Nat.reducePow, Int.reduceToNat, Int.reduceLT, Int.reduceLE, Int.reduceEq, Int.reduceAdd, Int.reduceSub, Int.reduceNeg]
    · simp (maxDischargeDepth := 80) only [push_cast, Nat.reduceBEq, reduceIte, reduceCtorEq, Nat.reduceEqDiff, Nat.reduceAdd, Nat.reduceMul, Nat.reduceSub, Nat.reduceLeDiff, Nat.reduceLT, Nat.reducePow, Int.reduceToNat, Int.reduceLT, Int.reduceLE, Int.reduceEq, Int.reduceAdd, Int.reduceSub, Int.reduceNeg, hs _ _ h, k1, hx]
    · simp (maxDischargeDepth := 80) only [push_cast, Nat.reduceBEq, reduceIte, reduceCtorEq, Nat.reduceEqDiff, Nat.reduceAdd, Nat.reduceMul, Nat.reduceSub, Nat.reduceLeDiff, Nat.reduceLT, Nat.reducePow, Int.reduceToNat, Int.reduceLT, Int.reduceLE, Int.reduceEq, Int.reduceAdd, Int.reduceSub, Int.reduceNeg, hs _ _ h, k2]
    · simp (maxDischargeDepth := 80) only [push_cast, Nat.reduceBEq, reduceIte, reduceCtorEq, Nat.reduceEqDiff, Nat.reduceAdd, Nat.reduceMul, Nat.reduceSub, Nat.reduceLeDiff, Nat.reduceLT, Nat.reducePow, Int.reduceToNat, Int.reduceLT, Int.reduceLE, Int.reduceEq, Int.reduceAdd, Int.reduceSub, Int.reduceNeg, hs _ _ h, k3]
  | psl l b =>
    refine ⟨fun _ => by simp (maxDischargeDepth := 80) only [push_cast, Nat.reduceBEq, reduceIte, reduceCtorEq, Nat.reduceEqDiff, Nat.reduceAdd, Nat.reduceMul, Nat.reduceSub, Nat.reduceLeDiff, Nat.reduceLT, Nat.reducePow, Int.reduceToNat, Int.reduceLT, Int.reduceLE, Int.reduceEq, Int.reduceAdd, Int.reduceSub, Int.reduceNeg], fun j hj => ?_, rfl, rfl⟩
    have hjj : ((j : Int) < (l.length : Int)) = True := by simp; omega
    have hx : ((flatE l).drop (j * 4)).take 4 = l[j].cells := flat_at l j hj
    obtain ⟨k1, k2, k3⟩ := take4 hx
    have k1' : 4 ≤ (flatE l).length - j * 4 := by omega
    refine ⟨.pptr ((flatE l).drop (j * 4)), .pptr ((flatE l).drop (j * 4)), .pptr ((flatE l).drop (j * 4 + 1)), ?_, ?_, ?_, fun M' hs => ⟨?_, ?_, ?_⟩⟩
    · simp (maxDischargeDepth := 80) only [push_cast, Nat.reduceBEq, reduceIte, reduceCtorEq, Nat.reduceEqDiff, Nat.reduceAdd, Nat.reduceMul, Nat.reduceSub, Nat.reduceLeDiff, Nat.reduceLT, Nat.reducePow, Int.reduceToNat, Int.reduceLT, Int.reduceLE, Int.reduceEq, Int.reduceAdd, Int.reduceSub, Int.reduceNeg, hjj]; simp
    · simp (maxDischargeDepth := 80) only [push_cast, Nat.reduceBEq, reduceIte, reduceCtorEq, Nat.reduceEqDiff, Nat.reduceAdd, Nat.reduceMul, Nat.reduceSub, Nat.reduceLeDiff, Nat.reduceLT, Nat.reducePow, Int.reduceToNat, Int.reduceLT, Int.reduceLE, Int.reduceEq, Int.reduceAdd, Int.reduceSub, Int.reduceNeg]
    · simp (maxDischargeDepth := 80) only [push_cast, Nat.reduceBEq, reduceIte, reduceCtorEq, Nat.reduceEqDiff, Nat.reduceAdd, Nat.reduceMul, Nat.reduceSub, Nat.reduceLeDiff, Nat.reduceLT, Nat.reducePow, Int.reduceToNat, Int.reduceLT, Int.reduceLE, Int.reduceEq, Int.reduceAdd, Int.reduceSub, Int.reduceNeg]
      simp
    · simp (maxDischargeDepth := 80) only [push_cast, Nat.reduceBEq, reduceIte, reduceCtorEq, Nat.reduceEqDiff, Nat.reduceAdd, Nat.reduceMul, Nat.reduceSub, Nat.reduceLeDiff, Nat.reduceLT, Nat.reducePow, Int.reduceToNat, Int.reduceLT, Int.reduceLE, Int.reduceEq, Int.reduceAdd, Int.reduceSub, Int.reduceNeg, k1', hx]
    · simp (maxDischargeDepth := 80) only [push_cast, Nat.reduceBEq, reduceIte, reduceCtorEq, Nat.reduceEqDiff, Nat.reduceAdd, Nat.reduceMul, Nat.reduceSub, Nat.reduceLeDiff, Nat.reduceLT, Nat.reducePow, Int.reduceToNat, Int.reduceLT, Int.reduceLE, Int.reduceEq, Int.reduceAdd, Int.reduceSub, Int.reduceNeg, List.getElem?_drop, k2]
    · simp (maxDischargeDepth := 80) only [push_cast, Nat.reduceBEq, reduceIte, reduceCtorEq, Nat.reduceEqDiff, Nat.reduceAdd, Nat.reduceMul, Nat.reduceSub, Nat.reduceLeDiff, Nat.reduceLT, Nat.reducePow, Int.reduceToNat, Int.reduceLT, Int.reduceLE, Int.reduceEq, Int.reduceAdd, Int.reduceSub, Int.reduceNeg, List.getElem?_drop, k3]

theorem EntsV.from_ {M v l} (h : EntsV M v l) (a : Nat) (ha : a ≤ l.length) : ∃ v', sliceV Tryz.prog 46 v (some (a : Int)) none none = some v' ∧ EntsV M v' (l.drop a) := by
  cases h with
  | nils =>
    have h0 : a = 0 := by simpa using ha
    subst h0
    exact ⟨.nils, by simp only [sliceV, kd46]; rfl, .nils⟩
  | sl i off cap cs l h h1 h2 h3 =>
    have c1 : ((a : Int) ≤ (l.length : Int)) = True := by simp; omega
    have c2 : ((l.length : Int) ≤ ((cap.getD l.length : Nat) : Int)) := by
      cases cap with
      | none => simp
      | some c => have := h3 c rfl; simp; omega
    refine ⟨.sl i (off + a * 4) (l.drop a).length 4 (cap.map (· - a)), ?_, ?_⟩
    · have hc : cutB l.length (cap.getD l.length) (some (a : Int)) none none = some (a, l.length, none) := by
        simp only [cutB, Option.getD_some, Option.getD_none, Option.isSome_none]
        rw [if_pos ⟨by omega, by omega, c2, by omega, by simp⟩]
        simp
      simp only [sliceV, kd46, if_true, hc]
      simp
    · refine .sl i _ _ cs _ h ?_ ?_ ?_
      · simp; omega
      · rw [List.length_drop, ← flatE_drop, ← h2, List.drop_take, List.drop_drop]; congr 1; omega
      · intro c hc
        cases cap with
        | none => simp at hc
        | some c' => have := h3 c' rfl; simp at hc; simp; omega
  | psl l b =>
    refine ⟨.psl (flatE (l.drop a)) (l.drop a).length (cut2 b l.length l.length none), ?_, .psl _ _⟩
    have hc : cutB l.length l.length (some (a : Int)) none none = some (a, l.length, none) := by
      simp only [cutB, Option.getD_some, Option.getD_none, Option.isSome_none]
      rw [if_pos ⟨by omega, by omega, by omega, by omega, by simp⟩]
      simp
    simp only [sliceV, kd46, hc, flatE_len, if_true]
    simp only [flatE_drop, List.length_drop]
    rw [flatE_take, List.take_of_length_le (by simp)]

theorem EntsV.upTo {M v l} (h : EntsV M v l) (a : Nat) (ha : a ≤ l.length) : ∃ v', sliceV Tryz.prog 46 v none (some (a : Int)) none = some v' ∧ EntsV M v' (l.take a) := by
  cases h with
  | nils =>
    have h0 : a = 0 := by simpa using ha
    subst h0
    exact ⟨.nils, by simp only [sliceV, kd46]; rfl, .nils⟩
  | sl i off cap cs l h h1 h2 h3 =>
    have c1 : ((a : Int) ≤ (l.length : Int)) = True := by simp; omega
    have c2 : ((l.length : Int) ≤ ((cap.getD l.length : Nat) : Int)) := by
      cases cap with
      | none => simp
      | some c => have := h3 c rfl; simp; omega
    refine ⟨.sl i off (l.take a).length 4 cap, ?_, ?_⟩
    · have hc : cutB l.length (cap.getD l.length) none (some (a : Int)) none = some (0, a, none) := by
        simp only [cutB, Option.getD_some, Option.getD_none, Option.isSome_none]
        rw [if_pos ⟨by omega, by omega, by omega, by omega, by simp⟩]
        simp
      simp only [sliceV, kd46, if_true, hc]
      simp [ha]
    · refine .sl i _ _ cs _ h ?_ ?_ ?_
      · simp; omega
      · rw [List.length_take, Nat.min_eq_left ha, ← flatE_take, ← h2, List.take_take]; congr 1; omega
      · intro c hc
        have := h3 c hc; simp; omega
  | psl l b =>
    refine ⟨.psl (flatE (l.take a)) (l.take a).length (cut2 b a l.length none), ?_, .psl _ _⟩
    have hc : cutB l.length l.length none (some (a : Int)) none = some (0, a, none) := by
      simp only [cutB, Option.getD_some, Option.getD_none, Option.isSome_none]
      rw [if_pos ⟨by omega, by omega, by omega, by omega, by simp⟩]
      simp
    simp only [sliceV, kd46, hc, flatE_len, if_true]
    simp only [Nat.zero_mul, List.drop_zero, Nat.sub_zero, flatE_take, List.length_take, Nat.min_eq_left ha]

theorem EntsV.src {M v l} (h : EntsV M v l) : srcV 4 M v = some (l.length, flatE l) := by
  cases h with
  | nils => rfl
  | sl i off cap cs l h h1 h2 h3 => simp only [srcV, h, if_pos h1, h2]
  | psl l b => simp only [srcV, if_pos (flatE_len l)]
theorem wrap_id {x : Int} (h1 : -(2 ^ 62) ≤ x) (h2 : x < 2 ^ 62) : IntKind.wrap .i64 x = x := by
  unfold IntKind.wrap
  simp only [IntKind.signed, IntKind.bits]
  simp
  omega
end Go.Ab.R
