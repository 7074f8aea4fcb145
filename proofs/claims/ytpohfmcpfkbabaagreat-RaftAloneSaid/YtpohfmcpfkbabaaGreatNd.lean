/- The node's snapshot and group: copies, checks. Conditions: none. -/
import Derived.Test.YtpohfmcpfkbabaaGreatEl
set_option linter.unusedSimpArgs false
set_option linter.unusedVariables false
namespace Go.Ab.R
open Go Go.Proofs
set_option maxRecDepth 100000

/-- where numbers of a slice lie -/
inductive IntsV (M : Mem) : V → Option (List Int) → Prop
  | nils : IntsV M .nils none
  | sl (i : Id) (cap : Option Nat) (l : List Int) (h : M i = some (.cells (l.map intV))) : IntsV M (.sl i 0 l.length 1 cap) (some l)
  | psl (l : List Int) (b : Bool) : IntsV M (.psl (l.map intV) l.length b) (some l)
theorem IntsV.mono {M M' v o} (h : IntsV M v o) (hs : Sub M M') : IntsV M' v o := by
  cases h with
  | nils => exact .nils
  | sl i cap l h => exact .sl i cap l (hs _ _ h)
  | psl l b => exact .psl l b
theorem intsV_V (M : Mem) (o : Option (List Int)) : IntsV M (intsV o) o := by
  cases o with
  | none => exact .nils
  | some l => exact .psl l false
theorem IntsV.rd {M v o} (h : IntsV M v o) (hs : (intsL o).length < 2 ^ 40) : RdI M v (intsL o) := by
  cases h with
  | nils => exact RdI_ints M none hs
  | sl i cap l h =>
    refine ⟨fun _ => by simp (maxDischargeDepth := 80) only [push_cast, Nat.reduceBEq, reduceIte, reduceCtorEq, Nat.reduceEqDiff, Nat.reduceAdd, Nat.reduceMul, Nat.reduceSub, Nat.reduceLeDiff, Nat.reduceLT, Nat.reducePow, Int.reduceToNat, Int.reduceLT, Int.reduceLE, Int.reduceEq, Int.reduceAdd, Int.reduceSub, Int.reduceNeg, intsL], fun j hj => ?_, rfl, rfl, hs⟩
    have hj' : j < l.length := hj
    have h1 : ((j : Int) < (l.length : Int)) = True := by simp; omega
    refine ⟨.ptr i j, ?_, fun M' hs => ?_⟩
    · simp (maxDischargeDepth := 80) only [push_cast, Nat.reduceBEq, reduceIte, reduceCtorEq, Nat.reduceEqDiff, Nat.reduceAdd, Nat.reduceMul, Nat.reduceSub, Nat.reduceLeDiff, Nat.reduceLT, Nat.reducePow, Int.reduceToNat, Int.reduceLT, Int.reduceLE, Int.reduceEq, Int.reduceAdd, Int.reduceSub, Int.reduceNeg, h1]
      simp
    · simp (maxDischargeDepth := 80) only [push_cast, Nat.reduceBEq, reduceIte, reduceCtorEq, Nat.reduceEqDiff, Nat.reduceAdd, Nat.reduceMul, Nat.reduceSub, Nat.reduceLeDiff, Nat.reduceLT, Nat.reducePow, Int.reduceToNat, Int.reduceLT, Int.reduceLE, Int.reduceEq, Int.reduceAdd, Int.reduceSub, Int.reduceNeg, hs _ _ h]
      simp [intsL, hj', intV]
  | psl l b =>
    refine ⟨fun _ => by simp (maxDischargeDepth := 80) only [push_cast, Nat.reduceBEq, reduceIte, reduceCtorEq, Nat.reduceEqDiff, Nat.reduceAdd, Nat.reduceMul, Nat.reduceSub, Nat.reduceLeDiff, Nat.reduceLT, Nat.reducePow, Int.reduceToNat, Int.reduceLT, Int.reduceLE, Int.reduceEq, Int.reduceAdd, Int.reduceSub, Int.reduceNeg, intsL], fun j hj => ?_, rfl, rfl, hs⟩
    have hj' : j < l.length := hj
    have h1 : ((j : Int) < (l.length : Int)) = True := by simp; omega
    refine ⟨.pptr ((l.map intV).drop j), ?_, fun M' _ => ?_⟩
    · simp (maxDischargeDepth := 80) only [push_cast, Nat.reduceBEq, reduceIte, reduceCtorEq, Nat.reduceEqDiff, Nat.reduceAdd, Nat.reduceMul, Nat.reduceSub, Nat.reduceLeDiff, Nat.reduceLT, Nat.reducePow, Int.reduceToNat, Int.reduceLT, Int.reduceLE, Int.reduceEq, Int.reduceAdd, Int.reduceSub, Int.reduceNeg, h1]
      simp
    · simp (maxDischargeDepth := 80) only [push_cast, Nat.reduceBEq, reduceIte, reduceCtorEq, Nat.reduceEqDiff, Nat.reduceAdd, Nat.reduceMul, Nat.reduceSub, Nat.reduceLeDiff, Nat.reduceLT, Nat.reducePow, Int.reduceToNat, Int.reduceLT, Int.reduceLE, Int.reduceEq, Int.reduceAdd, Int.reduceSub, Int.reduceNeg]
      simp [intsL, hj', intV]
theorem IntsV.one {M v o} (h : IntsV M v o) : v.one = true := by cases h <;> rfl
theorem IntsV.cells {M v o} (h : IntsV M v o) : v.cells = [v] := by cases h <;> rfl
theorem intsV_one (o : Option (List Int)) : (intsV o).one = true := (intsV_V (fun _ => none) o).one
theorem intsV_cells (o : Option (List Int)) : (intsV o).cells = [intsV o] := (intsV_V (fun _ => none) o).cells
theorem data_cells (d : Option (List UInt8)) : (dataV d).cells = [dataV d] := by cases d <;> rfl

theorem cloneI_E (v : V) (o : Option (List Int)) (s : Id) (M : Mem) (hM : FreshM s M) (hv : IntsV M v o) (hs : (intsL o).length < 2 ^ 35) : Fn env true 88 [v] s M = some (intsV o, M) := by
  rw [Fn_body Tryz.func88 (by decide) rfl rfl]
  cases hv with
  | nils => simp (maxDischargeDepth := 80) only [push_cast, Nat.reduceBEq, reduceIte, reduceCtorEq, Nat.reduceEqDiff, Nat.reduceAdd, Nat.reduceMul, Nat.reduceSub, Nat.reduceLeDiff, Nat.reduceLT, Nat.reducePow, Int.reduceToNat, Int.reduceLT, Int.reduceLE, Int.reduceEq, Int.reduceAdd, Int.reduceSub, Int.reduceNeg, intsV]
  | sl i cap l h =>
    have hs' : l.length ≤ 68719476736 := by simp only [intsL] at hs; omega
    by_cases h0 : l.length = 0
    · obtain rfl := List.length_eq_zero_iff.1 h0
      simp (maxDischargeDepth := 80) only [push_cast, Nat.reduceBEq, reduceIte, reduceCtorEq, Nat.reduceEqDiff, Nat.reduceAdd, Nat.reduceMul, Nat.reduceSub, Nat.reduceLeDiff, Nat.reduceLT, Nat.reducePow, Int.reduceToNat, Int.reduceLT, Int.reduceLE, Int.reduceEq, Int.reduceAdd, Int.reduceSub, Int.reduceNeg, intsV, h, Off_dn (Off_of hM h), Off_ne (Off_of hM h), Off_ne' (Off_of hM h), fresh_dn hM, fresh_at hM, mostLen]
    · have h0' : ¬ l.length ≤ 0 := by omega
      simp (maxDischargeDepth := 80) only [push_cast, Nat.reduceBEq, reduceIte, reduceCtorEq, Nat.reduceEqDiff, Nat.reduceAdd, Nat.reduceMul, Nat.reduceSub, Nat.reduceLeDiff, Nat.reduceLT, Nat.reducePow, Int.reduceToNat, Int.reduceLT, Int.reduceLE, Int.reduceEq, Int.reduceAdd, Int.reduceSub, Int.reduceNeg, intsV, h0, h0', h, Off_dn (Off_of hM h), Off_ne (Off_of hM h), Off_ne' (Off_of hM h), hs', fresh_dn hM, fresh_at hM, mostLen, take_len]
  | psl l b =>
    have hs' : l.length ≤ 68719476736 := by simp only [intsL] at hs; omega
    by_cases h0 : l.length = 0
    · obtain rfl := List.length_eq_zero_iff.1 h0
      simp (maxDischargeDepth := 80) only [push_cast, Nat.reduceBEq, reduceIte, reduceCtorEq, Nat.reduceEqDiff, Nat.reduceAdd, Nat.reduceMul, Nat.reduceSub, Nat.reduceLeDiff, Nat.reduceLT, Nat.reducePow, Int.reduceToNat, Int.reduceLT, Int.reduceLE, Int.reduceEq, Int.reduceAdd, Int.reduceSub, Int.reduceNeg, intsV, fresh_dn hM, fresh_at hM, mostLen]
    · have h0' : ¬ l.length ≤ 0 := by omega
      simp (maxDischargeDepth := 80) only [push_cast, Nat.reduceBEq, reduceIte, reduceCtorEq, Nat.reduceEqDiff, Nat.reduceAdd, Nat.reduceMul, Nat.reduceSub, Nat.reduceLeDiff, Nat.reduceLT, Nat.reducePow, Int.reduceToNat, Int.reduceLT, Int.reduceLE, Int.reduceEq, Int.reduceAdd, Int.reduceSub, Int.reduceNeg, intsV, h0, h0', hs', fresh_dn hM, fresh_at hM, mostLen, take_len]

/-- a snapshot -/
structure Snp where
  index : Int
  term : Int
  vs : Option (List Int)
  ls : Option (List Int)
  data : Option (List UInt8)
def Snp.cs (x : Snp) : List V := [.int .i64 x.index, .int .i64 x.term, intsV x.vs, intsV x.ls, dataV x.data]
theorem Snp.cs_eq (x : Snp) : x.cs = [.int .i64 x.index, .int .i64 x.term, intsV x.vs, intsV x.ls, dataV x.data] := rfl
structure SnpAt (M : Mem) (vv lv dv : V) (x : Snp) : Prop where
  v : IntsV M vv x.vs
  l : IntsV M lv x.ls
  d : dv = dataV x.data
  sv : (intsL x.vs).length < 2 ^ 35
  sl : (intsL x.ls).length < 2 ^ 35
  sd : dlen x.data ≤ mostLen
theorem SnpAt.mono {M M' vv lv dv x} (h : SnpAt M vv lv dv x) (hs : Sub M M') : SnpAt M' vv lv dv x := ⟨h.v.mono hs, h.l.mono hs, h.d, h.sv, h.sl, h.sd⟩

theorem copied_snap_E (vv lv dv : V) (x : Snp) (s : Id) (M : Mem) (hM : FreshM s M) (h : SnpAt M vv lv dv x) :
    Fn env true 35 [.agg [.int .i64 x.index, .int .i64 x.term, vv, lv, dv]] s M = some (.agg x.cs, M) := by
  have r1 := fun s' M' (q1 : FreshM s' M') (q2 : Sub M M') => cloneI_E vv x.vs s' M' q1 (h.v.mono q2) h.sv
  have r2 := fun s' M' (q1 : FreshM s' M') (q2 : Sub M M') => cloneI_E lv x.ls s' M' q1 (h.l.mono q2) h.sl
  have r3 := fun s' M' (q1 : FreshM s' M') => cloneB_E x.data (fun l e => by have := h.sd; rw [e] at this; exact this) s' M' q1
  have f1 : ∀ M', freeze1 M' (intsV x.vs) = some (intsV x.vs, M') := fun M' => by cases x.vs <;> rfl
  have f2 : ∀ M', freeze1 M' (intsV x.ls) = some (intsV x.ls, M') := fun M' => by cases x.ls <;> rfl
  have f3 : ∀ M', freeze1 M' (dataV x.data) = some (dataV x.data, M') := fun M' => by cases x.data <;> rfl
  have hd := h.d
  subst hd
  rw [Fn_body Tryz.func35 (by decide) rfl rfl]
  simp (maxDischargeDepth := 80) only [push_cast, Nat.reduceBEq, reduceIte, reduceCtorEq, Nat.reduceEqDiff, Nat.reduceAdd, Nat.reduceMul, Nat.reduceSub, Nat.reduceLeDiff, Nat.reduceLT, Nat.reducePow, Int.reduceToNat, Int.reduceLT, Int.reduceLE, Int.reduceEq, Int.reduceAdd, Int.reduceSub, Int.reduceNeg, h.v.one, h.v.cells, h.l.one, h.l.cells, one_data, data_cells, intsV_one, intsV_cells, r1, r2, r3, f1, f2, f3, Snp.cs_eq, fresh_dn hM, fresh_at hM]

def Snp.right (x : Snp) : Bool := withinR x.index 0 1099511627776 && withinR x.term 0 1099511627776 && rightL (intsL x.vs) (intsL x.ls) && decide ((dlen x.data : Int) ≤ 60000)
theorem right_snap_E (vv lv dv : V) (x : Snp) (s : Id) (M : Mem) (hM : FreshM s M) (h : SnpAt M vv lv dv x) :
    Fn env false 31 [.agg [.int .i64 x.index, .int .i64 x.term, vv, lv, dv]] s M = some (.bool x.right, M) := by
  have r1 := fun n b s' M' => within80_E n b s' M'
  have r2 := fun s' M' (q1 : FreshM s' M') (q2 : Sub M M') => right_E vv lv (intsL x.vs) (intsL x.ls) s' M' q1 ((h.v.mono q2).rd (by have := h.sv; omega)) ((h.l.mono q2).rd (by have := h.sl; omega))
  have hd := h.d
  subst hd
  rw [Fn_body Tryz.func31 (by decide) rfl rfl]
  cases c1 : withinR x.index 0 1099511627776 with
  | false => simp (maxDischargeDepth := 80) only [push_cast, Nat.reduceBEq, reduceIte, reduceCtorEq, Nat.reduceEqDiff, Nat.reduceAdd, Nat.reduceMul, Nat.reduceSub, Nat.reduceLeDiff, Nat.reduceLT, Nat.reducePow, Int.reduceToNat, Int.reduceLT, Int.reduceLE, Int.reduceEq, Int.reduceAdd, Int.reduceSub, Int.reduceNeg, h.v.one, h.v.cells, h.l.one, h.l.cells, one_data, data_cells, r1, c1, Snp.right, fresh_dn hM, fresh_at hM]
  | true =>
  cases c2 : withinR x.term 0 1099511627776 with
  | false => simp (maxDischargeDepth := 80) only [push_cast, Nat.reduceBEq, reduceIte, reduceCtorEq, Nat.reduceEqDiff, Nat.reduceAdd, Nat.reduceMul, Nat.reduceSub, Nat.reduceLeDiff, Nat.reduceLT, Nat.reducePow, Int.reduceToNat, Int.reduceLT, Int.reduceLE, Int.reduceEq, Int.reduceAdd, Int.reduceSub, Int.reduceNeg, h.v.one, h.v.cells, h.l.one, h.l.cells, one_data, data_cells, r1, c1, c2, Snp.right, fresh_dn hM, fresh_at hM]
  | true =>
  cases c3 : rightL (intsL x.vs) (intsL x.ls) with
  | false => simp (maxDischargeDepth := 80) only [push_cast, Nat.reduceBEq, reduceIte, reduceCtorEq, Nat.reduceEqDiff, Nat.reduceAdd, Nat.reduceMul, Nat.reduceSub, Nat.reduceLeDiff, Nat.reduceLT, Nat.reducePow, Int.reduceToNat, Int.reduceLT, Int.reduceLE, Int.reduceEq, Int.reduceAdd, Int.reduceSub, Int.reduceNeg, h.v.one, h.v.cells, h.l.one, h.l.cells, one_data, data_cells, r1, r2, c1, c2, c3, Snp.right, fresh_dn hM, fresh_at hM]
  | true => simp (maxDischargeDepth := 80) only [push_cast, Nat.reduceBEq, reduceIte, reduceCtorEq, Nat.reduceEqDiff, Nat.reduceAdd, Nat.reduceMul, Nat.reduceSub, Nat.reduceLeDiff, Nat.reduceLT, Nat.reducePow, Int.reduceToNat, Int.reduceLT, Int.reduceLE, Int.reduceEq, Int.reduceAdd, Int.reduceSub, Int.reduceNeg, h.v.one, h.v.cells, h.l.one, h.l.cells, one_data, data_cells, len_data, r1, r2, c1, c2, c3, Snp.right, fresh_dn hM, fresh_at hM]
end Go.Ab.R
