/- The program's data over the evaluator's memory: bytes, entries. Conditions: none. -/
import Derived.Test.YtpohfmcpfkbabaaGreatAbSim
set_option linter.unusedSimpArgs false
set_option linter.unusedVariables false
namespace Go.Ab.R
open Go Go.Proofs
set_option maxRecDepth 100000
def byteV (b : UInt8) : V := .int .u8 b.toNat
def dataV : Option (List UInt8) → V
  | none => .nils
  | some l => .psl (l.map byteV) l.length false

theorem take_len {α : Type} (l : List α) (n : Nat) (h : l.length = n) : l.take n = l := by subst h; simp

theorem cloneB_E (d : Option (List UInt8)) (hd : ∀ l, d = some l → l.length ≤ mostLen) (s : Id) (M : Mem) (hM : FreshM s M) : Fn env true 48 [dataV d] s M = some (dataV d, M) := by
  rw [Fn_body Tryz.func48 (by decide) rfl rfl]
  cases d with
  | none => simp (maxDischargeDepth := 80) only [push_cast, Nat.reduceBEq, reduceIte, reduceCtorEq, Nat.reduceEqDiff, Nat.reduceAdd, Nat.reduceMul, Nat.reduceSub, Nat.reduceLeDiff, Nat.reduceLT, Nat.reducePow, Int.reduceToNat, Int.reduceLT, Int.reduceLE, Int.reduceEq, Int.reduceAdd, Int.reduceSub, Int.reduceNeg, dataV]
  | some l =>
    have h1 := hd l rfl
    cases l with
    | nil => simp (maxDischargeDepth := 80) only [push_cast, Nat.reduceBEq, reduceIte, reduceCtorEq, Nat.reduceEqDiff, Nat.reduceAdd, Nat.reduceMul, Nat.reduceSub, Nat.reduceLeDiff, Nat.reduceLT, Nat.reducePow, Int.reduceToNat, Int.reduceLT, Int.reduceLE, Int.reduceEq, Int.reduceAdd, Int.reduceSub, Int.reduceNeg, dataV, fresh_dn hM, fresh_at hM]
    | cons b l =>
      simp only [List.length_cons] at h1
      simp (maxDischargeDepth := 80) only [push_cast, Nat.reduceBEq, reduceIte, reduceCtorEq, Nat.reduceEqDiff, Nat.reduceAdd, Nat.reduceMul, Nat.reduceSub, Nat.reduceLeDiff, Nat.reduceLT, Nat.reducePow, Int.reduceToNat, Int.reduceLT, Int.reduceLE, Int.reduceEq, Int.reduceAdd, Int.reduceSub, Int.reduceNeg, dataV, h1, fresh_dn hM, fresh_at hM, take_len]
structure Ent where
  index : Int
  term : Int
  kind : Int
  data : Option (List UInt8)

def Ent.cells (e : Ent) : List V := [.int .i64 e.index, .int .i64 e.term, .int .i64 e.kind, dataV e.data]
theorem Ent.cells_eq (e : Ent) : e.cells = [.int .i64 e.index, .int .i64 e.term, .int .i64 e.kind, dataV e.data] := rfl
theorem one_data (d : Option (List UInt8)) : (dataV d).one = true := by cases d <;> rfl

/-- a value that is a slice of entries -/
structure RdE (M : Mem) (v : V) (l : List Ent) : Prop where
  len : ∀ M', lenV Tryz.prog 46 M' v = some (.int .i64 l.length)
  get : ∀ j (h : j < l.length), ∃ p, indexAddrV Tryz.prog 46 v (.int .i64 j) = some p ∧ ∀ M', Sub M M' → loadV Tryz.prog 52 M' p = some (.agg l[j].cells)

theorem sub_trans {M M' M'' : Mem} (h : Sub M M') (k : Sub M' M'') : Sub M M'' := fun i o e => k i o (h i o e)
theorem RdE.mono {M M' v l} (h : RdE M v l) (hs : Sub M M') : RdE M' v l :=
  ⟨h.len, fun j hj => by obtain ⟨p, h1, h2⟩ := h.get j hj; exact ⟨p, h1, fun M'' h3 => h2 M'' (sub_trans hs h3)⟩⟩

def followL : List Ent → Int → Int → Bool
  | [], _, _ => true
  | x :: l, i, t => if IntKind.wrap .i64 (x.index - 1) ≠ i ∨ x.term < t then false else followL l x.index x.term

theorem wrap_nat (n : Nat) (h : n < 2 ^ 62) : IntKind.wrap .i64 ((n : Int) + 1) = ((n + 1 : Nat) : Int) := by
  unfold IntKind.wrap
  simp [IntKind.signed, IntKind.bits]
  omega

theorem follow_E (v : V) (l : List Ent) (i t : Int) (s : Id) (M : Mem) (hM : FreshM s M) (hv : RdE M v l) (hl : l.length < 2 ^ 40) :
    Fn env false 85 [v, .int .i64 i, .int .i64 t] s M = some (.bool (followL l i t), M) := by
  rw [Fn_body Tryz.func85 (by decide) rfl rfl]
  simp (maxDischargeDepth := 80) only [push_cast, Nat.reduceBEq, reduceIte, reduceCtorEq, Nat.reduceEqDiff, Nat.reduceAdd, Nat.reduceMul, Nat.reduceSub, Nat.reduceLeDiff, Nat.reduceLT, Nat.reducePow, Int.reduceToNat, Int.reduceLT, Int.reduceLE, Int.reduceEq, Int.reduceAdd, Int.reduceSub, Int.reduceNeg, hv.len]
  refine lp_rule (fun s1 j f M' => ∃ i' t', f 1 = .int .i64 i' ∧ f 2 = .int .i64 t' ∧ f 9 = v ∧ f 10 = .int .i64 l.length ∧ f 11 = .int .i64 j ∧ followL l i t = followL (l.drop j) i' t' ∧ Sub M M' ∧ ∀ k, j ≤ k → FreshM (k :: s1) M') l.length ?_ (Nat.zero_le _) ?_ ?_
  · refine ⟨i, t, ?_, ?_, ?_, ?_, ?_, ?_, ?_, ?_⟩ <;> simp (maxDischargeDepth := 80) only [push_cast, Nat.reduceBEq, reduceIte, reduceCtorEq, Nat.reduceEqDiff, Nat.reduceAdd, Nat.reduceMul, Nat.reduceSub, Nat.reduceLeDiff, Nat.reduceLT, Nat.reducePow, Int.reduceToNat, Int.reduceLT, Int.reduceLE, Int.reduceEq, Int.reduceAdd, Int.reduceSub, Int.reduceNeg]
    intro k _; simp (maxDischargeDepth := 80) only [push_cast, Nat.reduceBEq, reduceIte, reduceCtorEq, Nat.reduceEqDiff, Nat.reduceAdd, Nat.reduceMul, Nat.reduceSub, Nat.reduceLeDiff, Nat.reduceLT, Nat.reducePow, Int.reduceToNat, Int.reduceLT, Int.reduceLE, Int.reduceEq, Int.reduceAdd, Int.reduceSub, Int.reduceNeg, fresh_dn hM, fresh_at hM]
  · rintro j f M' hj ⟨i', t', h1, h2, h9, h10, h11, hfol, hsub, hF⟩ ih
    obtain ⟨p, hp1, hp2⟩ := hv.get j hj
    have hp3 := hp2 M' hsub
    have hjj : ((j : Int) < (l.length : Int)) = True := by simp; omega
    have hx : l.drop j = l[j] :: l.drop (j + 1) := List.drop_eq_getElem_cons hj
    have hFj := hF j (Nat.le_refl _)
    by_cases c1 : IntKind.wrap .i64 (l[j].index - 1) = i'
    · by_cases c2 : l[j].term < t'
      · have e : followL l i t = false := by rw [hfol, hx, followL, if_pos (.inr c2)]
        simp (maxDischargeDepth := 80) only [push_cast, Nat.reduceBEq, reduceIte, reduceCtorEq, Nat.reduceEqDiff, Nat.reduceAdd, Nat.reduceMul, Nat.reduceSub, Nat.reduceLeDiff, Nat.reduceLT, Nat.reducePow, Int.reduceToNat, Int.reduceLT, Int.reduceLE, Int.reduceEq, Int.reduceAdd, Int.reduceSub, Int.reduceNeg, h1, h2, h9, h10, h11, hp1, hp3, hjj, Ent.cells_eq, one_data, c1, c2, e, hsub, fresh_dn hFj, fresh_at hFj, fresh_dn hM, fresh_at hM]
      · simp (maxDischargeDepth := 80) only [push_cast, Nat.reduceBEq, reduceIte, reduceCtorEq, Nat.reduceEqDiff, Nat.reduceAdd, Nat.reduceMul, Nat.reduceSub, Nat.reduceLeDiff, Nat.reduceLT, Nat.reducePow, Int.reduceToNat, Int.reduceLT, Int.reduceLE, Int.reduceEq, Int.reduceAdd, Int.reduceSub, Int.reduceNeg, h1, h2, h9, h10, h11, hp1, hp3, hjj, Ent.cells_eq, one_data, c1, c2, fresh_dn hFj, fresh_at hFj, fresh_dn hM, fresh_at hM]
        refine ih _ _ ⟨l[j].index, l[j].term, ?_, ?_, ?_, ?_, ?_, ?_, ?_, ?_⟩
        · simp (maxDischargeDepth := 80) only [push_cast, Nat.reduceBEq, reduceIte, reduceCtorEq, Nat.reduceEqDiff, Nat.reduceAdd, Nat.reduceMul, Nat.reduceSub, Nat.reduceLeDiff, Nat.reduceLT, Nat.reducePow, Int.reduceToNat, Int.reduceLT, Int.reduceLE, Int.reduceEq, Int.reduceAdd, Int.reduceSub, Int.reduceNeg]
        · simp (maxDischargeDepth := 80) only [push_cast, Nat.reduceBEq, reduceIte, reduceCtorEq, Nat.reduceEqDiff, Nat.reduceAdd, Nat.reduceMul, Nat.reduceSub, Nat.reduceLeDiff, Nat.reduceLT, Nat.reducePow, Int.reduceToNat, Int.reduceLT, Int.reduceLE, Int.reduceEq, Int.reduceAdd, Int.reduceSub, Int.reduceNeg]
        · simp (maxDischargeDepth := 80) only [push_cast, Nat.reduceBEq, reduceIte, reduceCtorEq, Nat.reduceEqDiff, Nat.reduceAdd, Nat.reduceMul, Nat.reduceSub, Nat.reduceLeDiff, Nat.reduceLT, Nat.reducePow, Int.reduceToNat, Int.reduceLT, Int.reduceLE, Int.reduceEq, Int.reduceAdd, Int.reduceSub, Int.reduceNeg, h9]
        · simp (maxDischargeDepth := 80) only [push_cast, Nat.reduceBEq, reduceIte, reduceCtorEq, Nat.reduceEqDiff, Nat.reduceAdd, Nat.reduceMul, Nat.reduceSub, Nat.reduceLeDiff, Nat.reduceLT, Nat.reducePow, Int.reduceToNat, Int.reduceLT, Int.reduceLE, Int.reduceEq, Int.reduceAdd, Int.reduceSub, Int.reduceNeg, h10]
        · simp (maxDischargeDepth := 80) only [push_cast, Nat.reduceBEq, reduceIte, reduceCtorEq, Nat.reduceEqDiff, Nat.reduceAdd, Nat.reduceMul, Nat.reduceSub, Nat.reduceLeDiff, Nat.reduceLT, Nat.reducePow, Int.reduceToNat, Int.reduceLT, Int.reduceLE, Int.reduceEq, Int.reduceAdd, Int.reduceSub, Int.reduceNeg, h11]
          exact congrArg (V.int IntKind.i64) (wrap_nat j (by omega))
        · rw [hfol, hx, followL, if_neg (by simp [c1, c2])]
        · simp (maxDischargeDepth := 80) only [push_cast, Nat.reduceBEq, reduceIte, reduceCtorEq, Nat.reduceEqDiff, Nat.reduceAdd, Nat.reduceMul, Nat.reduceSub, Nat.reduceLeDiff, Nat.reduceLT, Nat.reducePow, Int.reduceToNat, Int.reduceLT, Int.reduceLE, Int.reduceEq, Int.reduceAdd, Int.reduceSub, Int.reduceNeg, hsub, fresh_dn hM, fresh_at hM]
        · intro k hk
          simp (maxDischargeDepth := 80) only [push_cast, Nat.reduceBEq, reduceIte, reduceCtorEq, Nat.reduceEqDiff, Nat.reduceAdd, Nat.reduceMul, Nat.reduceSub, Nat.reduceLeDiff, Nat.reduceLT, Nat.reducePow, Int.reduceToNat, Int.reduceLT, Int.reduceLE, Int.reduceEq, Int.reduceAdd, Int.reduceSub, Int.reduceNeg, fresh_dn (hF k (by omega)), Off_deep (show k ≠ j by omega), eq_false (show ¬ k = j by omega)]
    · have e : followL l i t = false := by rw [hfol, hx, followL, if_pos (.inl c1)]
      simp (maxDischargeDepth := 80) only [push_cast, Nat.reduceBEq, reduceIte, reduceCtorEq, Nat.reduceEqDiff, Nat.reduceAdd, Nat.reduceMul, Nat.reduceSub, Nat.reduceLeDiff, Nat.reduceLT, Nat.reducePow, Int.reduceToNat, Int.reduceLT, Int.reduceLE, Int.reduceEq, Int.reduceAdd, Int.reduceSub, Int.reduceNeg, h1, h2, h9, h10, h11, hp1, hp3, hjj, Ent.cells_eq, one_data, c1, e, hsub, fresh_dn hFj, fresh_at hFj, fresh_dn hM, fresh_at hM]
  · rintro f M' ⟨i', t', h1, h2, h9, h10, h11, hfol, hsub, hF⟩
    have hjj : ((l.length : Int) < (l.length : Int)) = False := by simp
    simp (maxDischargeDepth := 80) only [push_cast, Nat.reduceBEq, reduceIte, reduceCtorEq, Nat.reduceEqDiff, Nat.reduceAdd, Nat.reduceMul, Nat.reduceSub, Nat.reduceLeDiff, Nat.reduceLT, Nat.reducePow, Int.reduceToNat, Int.reduceLT, Int.reduceLE, Int.reduceEq, Int.reduceAdd, Int.reduceSub, Int.reduceNeg, h1, h2, h9, h10, h11, hjj, hsub]
    rw [hfol]
    simp [followL]
end Go.Ab.R
