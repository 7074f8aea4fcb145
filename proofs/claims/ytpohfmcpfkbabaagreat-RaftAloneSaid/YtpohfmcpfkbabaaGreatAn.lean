/- The law RaftAlone over the evaluator. Conditions: none. -/
import Derived.Test.YtpohfmcpfkbabaaGreatAm
set_option linter.unusedSimpArgs false
set_option linter.unusedVariables false
namespace Go.Ab.R
open Go Go.Proofs
set_option maxRecDepth 100000

/-- a value that is a slice of bytes' slices -/
structure RdB (v : V) (l : List (Option (List UInt8))) : Prop where
  len : ∀ M', lenV Tryz.prog 22 M' v = some (.int .i64 l.length)
  get : ∀ j (h : j < l.length), ∃ p, indexAddrV Tryz.prog 22 v (.int .i64 j) = some p ∧ ∀ M', loadV Tryz.prog 33 M' p = some (dataV l[j])

theorem bytes_cells (l : List UInt8) : bytesOfCells (l.map byteV) = some l := by
  induction l with
  | nil => rfl
  | cons b l ih =>
    simp only [List.map_cons, byteV, bytesOfCells]
    show (bytesOfCells (l.map byteV)).map _ = _
    rw [ih]
    simp
theorem conv_data (d : Option (List UInt8)) (M : Mem) : convV Tryz.prog 33 9 M (dataV d) = some (.str ⟨(d.getD []).toArray⟩) := by
  cases d with
  | none => simp only [dataV, convV, kd33, kd9]; rfl
  | some l =>
    simp only [dataV, convV, kd33, kd9, List.length_map, bytes_cells, if_true, true_and, Option.map_some, Option.getD_some]
    try rfl
theorem beq_self_list (l : List UInt8) : (l == l) = true := by simp

theorem alone_law (v0 : V) (l : List (Option (List UInt8))) (t : Int) (s : Id) (M : Mem) (hM : FreshM s M) (hv : RdB v0 l) : (Fn env false 3 [v0, .int .i64 t] s M).map Prod.fst = some (.bool true) := by
  have r8 := fun s' (q1 : FreshM s' M) => awake_E s' M q1 false rfl
  by_cases c1 : t < 0
  · rw [Fn_body Tryz.func3 (by decide) rfl rfl]
    simp (maxDischargeDepth := 80) only [push_cast, Nat.reduceBEq, reduceIte, reduceCtorEq, Nat.reduceEqDiff, Nat.reduceAdd, Nat.reduceMul, Nat.reduceSub, Nat.reduceLeDiff, Nat.reduceLT, Nat.reducePow, Int.reduceToNat, Int.reduceLT, Int.reduceLE, Int.reduceEq, Int.reduceAdd, Int.reduceSub, Int.reduceNeg, r8, c1, fresh_dn hM, fresh_at hM]
  by_cases c2 : 549755813888 < t
  · rw [Fn_body Tryz.func3 (by decide) rfl rfl]
    simp (maxDischargeDepth := 80) only [push_cast, Nat.reduceBEq, reduceIte, reduceCtorEq, Nat.reduceEqDiff, Nat.reduceAdd, Nat.reduceMul, Nat.reduceSub, Nat.reduceLeDiff, Nat.reduceLT, Nat.reducePow, Int.reduceToNat, Int.reduceLT, Int.reduceLE, Int.reduceEq, Int.reduceAdd, Int.reduceSub, Int.reduceNeg, r8, c1, c2, fresh_dn hM, fresh_at hM]
  have u1 : Un s (6 :: 0 :: 1 :: 1 :: 1 :: 0 :: s) := by simp (maxDischargeDepth := 80) only [push_cast, Nat.reduceBEq, reduceIte, reduceCtorEq, Nat.reduceEqDiff, Nat.reduceAdd, Nat.reduceMul, Nat.reduceSub, Nat.reduceLeDiff, Nat.reduceLT, Nat.reducePow, Int.reduceToNat, Int.reduceLT, Int.reduceLE, Int.reduceEq, Int.reduceAdd, Int.reduceSub, Int.reduceNeg]
  have u2 : Un s (1 :: 0 :: 1 :: 1 :: 1 :: 1 :: 1 :: 0 :: s) := by simp (maxDischargeDepth := 80) only [push_cast, Nat.reduceBEq, reduceIte, reduceCtorEq, Nat.reduceEqDiff, Nat.reduceAdd, Nat.reduceMul, Nat.reduceSub, Nat.reduceLeDiff, Nat.reduceLT, Nat.reducePow, Int.reduceToNat, Int.reduceLT, Int.reduceLE, Int.reduceEq, Int.reduceAdd, Int.reduceSub, Int.reduceNeg]
  obtain ⟨x, h1, h2, h3, h4⟩ := begin1_E t (by omega) (by omega) (2 :: 0 :: 1 :: 1 :: 1 :: 0 :: s) (some 1) (6 :: 0 :: 1 :: 1 :: 1 :: 0 :: s) (M.set (2 :: 0 :: 1 :: 1 :: 1 :: 0 :: s) (.cells [.int .i64 1])) (by simp (maxDischargeDepth := 80) only [push_cast, Nat.reduceBEq, reduceIte, reduceCtorEq, Nat.reduceEqDiff, Nat.reduceAdd, Nat.reduceMul, Nat.reduceSub, Nat.reduceLeDiff, Nat.reduceLT, Nat.reducePow, Int.reduceToNat, Int.reduceLT, Int.reduceLE, Int.reduceEq, Int.reduceAdd, Int.reduceSub, Int.reduceNeg, fresh_dn hM, fresh_at hM]) (by simp (maxDischargeDepth := 80) only [push_cast, Nat.reduceBEq, reduceIte, reduceCtorEq, Nat.reduceEqDiff, Nat.reduceAdd, Nat.reduceMul, Nat.reduceSub, Nat.reduceLeDiff, Nat.reduceLT, Nat.reducePow, Int.reduceToNat, Int.reduceLT, Int.reduceLE, Int.reduceEq, Int.reduceAdd, Int.reduceSub, Int.reduceNeg])
  have hF2 : FreshM (1 :: 0 :: 1 :: 1 :: 1 :: 1 :: 1 :: 0 :: s) x.1 := h3.fr (by simp (maxDischargeDepth := 80) only [push_cast, Nat.reduceBEq, reduceIte, reduceCtorEq, Nat.reduceEqDiff, Nat.reduceAdd, Nat.reduceMul, Nat.reduceSub, Nat.reduceLeDiff, Nat.reduceLT, Nat.reducePow, Int.reduceToNat, Int.reduceLT, Int.reduceLE, Int.reduceEq, Int.reduceAdd, Int.reduceSub, Int.reduceNeg, fresh_dn hM, fresh_at hM]) (by simp (maxDischargeDepth := 80) only [push_cast, Nat.reduceBEq, reduceIte, reduceCtorEq, Nat.reduceEqDiff, Nat.reduceAdd, Nat.reduceMul, Nat.reduceSub, Nat.reduceLeDiff, Nat.reduceLT, Nat.reducePow, Int.reduceToNat, Int.reduceLT, Int.reduceLE, Int.reduceEq, Int.reduceAdd, Int.reduceSub, Int.reduceNeg]) (by simp (maxDischargeDepth := 80) only [push_cast, Nat.reduceBEq, reduceIte, reduceCtorEq, Nat.reduceEqDiff, Nat.reduceAdd, Nat.reduceMul, Nat.reduceSub, Nat.reduceLeDiff, Nat.reduceLT, Nat.reducePow, Int.reduceToNat, Int.reduceLT, Int.reduceLE, Int.reduceEq, Int.reduceAdd, Int.reduceSub, Int.reduceNeg]) (fun _ hx => by cases hx)
  obtain ⟨y, k1, k2, k3, k4⟩ := ticked1_E t (by omega) (by omega) (1 :: 0 :: 1 :: 1 :: 1 :: 1 :: 1 :: 0 :: s) hF2 h2
  have hoff : ∀ u, Off u (6 :: 0 :: 1 :: 1 :: 1 :: 0 :: s) → Off (6 :: 0 :: 1 :: 1 :: 1 :: 0 :: s) u → ∀ j ∈ [x.2.1, x.2.2.1, x.2.2.2.1, x.2.2.2.2.1], Off u j := fun u a b j hj => by
    simp only [List.mem_cons, List.not_mem_nil, or_false] at hj
    rcases hj with rfl | rfl | rfl | rfl
    · exact Off_un a b h4.1
    · exact Off_un a b h4.2.1
    · exact Off_un a b h4.2.2.1
    · exact Off_un a b h4.2.2.2
  have hFl : ∀ k, FreshM (k :: 0 :: 1 :: 0 :: 1 :: 1 :: 1 :: 1 :: 1 :: 1 :: 0 :: s) y.1 := fun k => k3.fr (h3.fr (by simp (maxDischargeDepth := 80) only [push_cast, Nat.reduceBEq, reduceIte, reduceCtorEq, Nat.reduceEqDiff, Nat.reduceAdd, Nat.reduceMul, Nat.reduceSub, Nat.reduceLeDiff, Nat.reduceLT, Nat.reducePow, Int.reduceToNat, Int.reduceLT, Int.reduceLE, Int.reduceEq, Int.reduceAdd, Int.reduceSub, Int.reduceNeg, fresh_dn hM, fresh_at hM]) (by simp (maxDischargeDepth := 80) only [push_cast, Nat.reduceBEq, reduceIte, reduceCtorEq, Nat.reduceEqDiff, Nat.reduceAdd, Nat.reduceMul, Nat.reduceSub, Nat.reduceLeDiff, Nat.reduceLT, Nat.reducePow, Int.reduceToNat, Int.reduceLT, Int.reduceLE, Int.reduceEq, Int.reduceAdd, Int.reduceSub, Int.reduceNeg]) (by simp (maxDischargeDepth := 80) only [push_cast, Nat.reduceBEq, reduceIte, reduceCtorEq, Nat.reduceEqDiff, Nat.reduceAdd, Nat.reduceMul, Nat.reduceSub, Nat.reduceLeDiff, Nat.reduceLT, Nat.reducePow, Int.reduceToNat, Int.reduceLT, Int.reduceLE, Int.reduceEq, Int.reduceAdd, Int.reduceSub, Int.reduceNeg]) (fun _ hx => by cases hx)) (by simp (maxDischargeDepth := 80) only [push_cast, Nat.reduceBEq, reduceIte, reduceCtorEq, Nat.reduceEqDiff, Nat.reduceAdd, Nat.reduceMul, Nat.reduceSub, Nat.reduceLeDiff, Nat.reduceLT, Nat.reducePow, Int.reduceToNat, Int.reduceLT, Int.reduceLE, Int.reduceEq, Int.reduceAdd, Int.reduceSub, Int.reduceNeg]) (by simp (maxDischargeDepth := 80) only [push_cast, Nat.reduceBEq, reduceIte, reduceCtorEq, Nat.reduceEqDiff, Nat.reduceAdd, Nat.reduceMul, Nat.reduceSub, Nat.reduceLeDiff, Nat.reduceLT, Nat.reducePow, Int.reduceToNat, Int.reduceLT, Int.reduceLE, Int.reduceEq, Int.reduceAdd, Int.reduceSub, Int.reduceNeg]) (hoff _ (by simp (maxDischargeDepth := 80) only [push_cast, Nat.reduceBEq, reduceIte, reduceCtorEq, Nat.reduceEqDiff, Nat.reduceAdd, Nat.reduceMul, Nat.reduceSub, Nat.reduceLeDiff, Nat.reduceLT, Nat.reducePow, Int.reduceToNat, Int.reduceLT, Int.reduceLE, Int.reduceEq, Int.reduceAdd, Int.reduceSub, Int.reduceNeg]) (by simp (maxDischargeDepth := 80) only [push_cast, Nat.reduceBEq, reduceIte, reduceCtorEq, Nat.reduceEqDiff, Nat.reduceAdd, Nat.reduceMul, Nat.reduceSub, Nat.reduceLeDiff, Nat.reduceLT, Nat.reducePow, Int.reduceToNat, Int.reduceLT, Int.reduceLE, Int.reduceEq, Int.reduceAdd, Int.reduceSub, Int.reduceNeg]))
  have hFe : FreshM (4 :: 0 :: 1 :: 1 :: 1 :: 1 :: 1 :: 1 :: 1 :: 0 :: s) y.1 := k3.fr (h3.fr (by simp (maxDischargeDepth := 80) only [push_cast, Nat.reduceBEq, reduceIte, reduceCtorEq, Nat.reduceEqDiff, Nat.reduceAdd, Nat.reduceMul, Nat.reduceSub, Nat.reduceLeDiff, Nat.reduceLT, Nat.reducePow, Int.reduceToNat, Int.reduceLT, Int.reduceLE, Int.reduceEq, Int.reduceAdd, Int.reduceSub, Int.reduceNeg, fresh_dn hM, fresh_at hM]) (by simp (maxDischargeDepth := 80) only [push_cast, Nat.reduceBEq, reduceIte, reduceCtorEq, Nat.reduceEqDiff, Nat.reduceAdd, Nat.reduceMul, Nat.reduceSub, Nat.reduceLeDiff, Nat.reduceLT, Nat.reducePow, Int.reduceToNat, Int.reduceLT, Int.reduceLE, Int.reduceEq, Int.reduceAdd, Int.reduceSub, Int.reduceNeg]) (by simp (maxDischargeDepth := 80) only [push_cast, Nat.reduceBEq, reduceIte, reduceCtorEq, Nat.reduceEqDiff, Nat.reduceAdd, Nat.reduceMul, Nat.reduceSub, Nat.reduceLeDiff, Nat.reduceLT, Nat.reducePow, Int.reduceToNat, Int.reduceLT, Int.reduceLE, Int.reduceEq, Int.reduceAdd, Int.reduceSub, Int.reduceNeg]) (fun _ hx => by cases hx)) (by simp (maxDischargeDepth := 80) only [push_cast, Nat.reduceBEq, reduceIte, reduceCtorEq, Nat.reduceEqDiff, Nat.reduceAdd, Nat.reduceMul, Nat.reduceSub, Nat.reduceLeDiff, Nat.reduceLT, Nat.reducePow, Int.reduceToNat, Int.reduceLT, Int.reduceLE, Int.reduceEq, Int.reduceAdd, Int.reduceSub, Int.reduceNeg]) (by simp (maxDischargeDepth := 80) only [push_cast, Nat.reduceBEq, reduceIte, reduceCtorEq, Nat.reduceEqDiff, Nat.reduceAdd, Nat.reduceMul, Nat.reduceSub, Nat.reduceLeDiff, Nat.reduceLT, Nat.reducePow, Int.reduceToNat, Int.reduceLT, Int.reduceLE, Int.reduceEq, Int.reduceAdd, Int.reduceSub, Int.reduceNeg]) (hoff _ (by simp (maxDischargeDepth := 80) only [push_cast, Nat.reduceBEq, reduceIte, reduceCtorEq, Nat.reduceEqDiff, Nat.reduceAdd, Nat.reduceMul, Nat.reduceSub, Nat.reduceLeDiff, Nat.reduceLT, Nat.reducePow, Int.reduceToNat, Int.reduceLT, Int.reduceLE, Int.reduceEq, Int.reduceAdd, Int.reduceSub, Int.reduceNeg]) (by simp (maxDischargeDepth := 80) only [push_cast, Nat.reduceBEq, reduceIte, reduceCtorEq, Nat.reduceEqDiff, Nat.reduceAdd, Nat.reduceMul, Nat.reduceSub, Nat.reduceLeDiff, Nat.reduceLT, Nat.reducePow, Int.reduceToNat, Int.reduceLT, Int.reduceLE, Int.reduceEq, Int.reduceAdd, Int.reduceSub, Int.reduceNeg]))
  generalize hp : x.2.1 = p at *
  generalize hie : x.2.2.1 = ie at *
  generalize hil : x.2.2.2.1 = il at *
  clear h2 h4
  have wT : IntKind.wrap .i64 (t + 1) = t + 1 := wrap_id (by omega) (by omega)
  rw [Fn_body Tryz.func3 (by decide) rfl rfl]
  rw [Option.map_bind]
  simp only [Function.comp_def]
  simp (maxDischargeDepth := 80) only [push_cast, Nat.reduceBEq, reduceIte, reduceCtorEq, Nat.reduceEqDiff, Nat.reduceAdd, Nat.reduceMul, Nat.reduceSub, Nat.reduceLeDiff, Nat.reduceLT, Nat.reducePow, Int.reduceToNat, Int.reduceLT, Int.reduceLE, Int.reduceEq, Int.reduceAdd, Int.reduceSub, Int.reduceNeg, r8, c1, c2, h1, k1, fresh_dn hM, fresh_at hM]
  refine lp_rule (fun s1 j f M' => ∃ (es : List Ent) (ia im ims : Id) (v : V) (fr tt tv : Int), Lone M' p (lnd ie il im fr tt tv .nils) (lel (t + 1) ims) ia v (lg1 (t + 1) es) im ∧ (∀ e ∈ es, e.term = t + 1) ∧ es.length = j ∧
      f 0 = v0 ∧ f 1 = .int .i64 t ∧ f 6 = .ptr p 0 ∧ f 8 = .int .i64 j ∧ (∀ k, j ≤ k → FreshM (k :: s1) M') ∧ FreshM (4 :: 0 :: 1 :: 1 :: 1 :: 1 :: 1 :: 1 :: 1 :: 0 :: s) M') (min l.length 50) ?_ (Nat.zero_le _) ?_ ?_
  · refine ⟨[], y.2.1, y.2.2.2.1, y.2.2.2.2, y.2.2.1, 1, t, 0, k2, by simp, rfl, ?_, ?_, ?_, ?_, fun k _ => hFl k, hFe⟩ <;> simp (maxDischargeDepth := 80) only [push_cast, Nat.reduceBEq, reduceIte, reduceCtorEq, Nat.reduceEqDiff, Nat.reduceAdd, Nat.reduceMul, Nat.reduceSub, Nat.reduceLeDiff, Nat.reduceLT, Nat.reducePow, Int.reduceToNat, Int.reduceLT, Int.reduceLE, Int.reduceEq, Int.reduceAdd, Int.reduceSub, Int.reduceNeg]
  · rintro j f M' hj ⟨es, ia, im, ims, v, fr, tt, tv, hL, hes, hlen, f0, f1, f6, f8, hF, hFe'⟩ ih
    have hjl : j < l.length := by omega
    obtain ⟨q, hq1, hq2⟩ := hv.get j hjl
    have hj1 : ((j : Int) < (l.length : Int)) = True := by simp; omega
    have hj2 : ((j : Int) < 50) = True := by simp; omega
    by_cases c3 : 4096 < (dlen l[j] : Int)
    · simp (maxDischargeDepth := 80) only [push_cast, Nat.reduceBEq, reduceIte, reduceCtorEq, Nat.reduceEqDiff, Nat.reduceAdd, Nat.reduceMul, Nat.reduceSub, Nat.reduceLeDiff, Nat.reduceLT, Nat.reducePow, Int.reduceToNat, Int.reduceLT, Int.reduceLE, Int.reduceEq, Int.reduceAdd, Int.reduceSub, Int.reduceNeg, f0, f1, f6, f8, hv.len, hj1, hj2, hq1, hq2, len_data, c3]
    · have hFj := hF j (Nat.le_refl _)
      obtain ⟨M1, M2, M3, M4, rid, hn, a, b, f1', im', ia', v', g11, g12, g13, gM4, g14, g15, grid, gL, gfr, gia, gF3⟩ := iter1_E l[j] j (j :: 0 :: 1 :: 0 :: 1 :: 1 :: 1 :: 1 :: 1 :: 1 :: 0 :: s) hFj hL (by omega) hes (by omega) (by omega) (by omega)
      have hcl : copiedV [⟨(es.length : Int) + 2, t + 1, 1, l[j]⟩] = .psl [.int .i64 ((es.length : Int) + 2), .int .i64 (t + 1), .int .i64 1, dataV l[j]] 1 false := rfl
      rw [hcl] at g14
      have hridb : M4 (2 :: 0 :: 1 :: 1 :: 1 :: 0 :: 0 :: 1 :: j :: 0 :: 1 :: 0 :: 1 :: 1 :: 1 :: 1 :: 1 :: 1 :: 0 :: s) = some (.cells [.bool hn, .int .i64 a, .int .i64 b, .bool false, .int .i64 0, .int .i64 0, .nils, .nils, .nils, .int .i64 f1', .nils, .sl rid 0 1 2 none]) := by rw [← gM4]; simp (maxDischargeDepth := 80) only [push_cast, Nat.reduceBEq, reduceIte, reduceCtorEq, Nat.reduceEqDiff, Nat.reduceAdd, Nat.reduceMul, Nat.reduceSub, Nat.reduceLeDiff, Nat.reduceLT, Nat.reducePow, Int.reduceToNat, Int.reduceLT, Int.reduceLE, Int.reduceEq, Int.reduceAdd, Int.reduceSub, Int.reduceNeg]
      have wj : IntKind.wrap .i64 ((j : Int) + 2) = (j : Int) + 2 := wrap_id (by omega) (by omega)
      have w2 : IntKind.wrap .i64 ((j : Int) + 1) = ((j + 1 : Nat) : Int) := wrap_nat j (by omega)
      have hz : M3 (2 :: 0 :: 1 :: 1 :: 1 :: 0 :: 0 :: 1 :: j :: 0 :: 1 :: 0 :: 1 :: 1 :: 1 :: 1 :: 1 :: 1 :: 0 :: s) = none := gF3 _ (List.suffix_refl _)
      rw [hlen] at g11 g14 g15 grid
      simp (maxDischargeDepth := 80) only [push_cast, Nat.reduceBEq, reduceIte, reduceCtorEq, Nat.reduceEqDiff, Nat.reduceAdd, Nat.reduceMul, Nat.reduceSub, Nat.reduceLeDiff, Nat.reduceLT, Nat.reducePow, Int.reduceToNat, Int.reduceLT, Int.reduceLE, Int.reduceEq, Int.reduceAdd, Int.reduceSub, Int.reduceNeg, f0, f1, f6, f8, hv.len, hj1, hj2, hq1, hq2, len_data, c3, g11, g12, g13, gM4, g14, g15, hridb, grid, wj, wT, conv_data, beq_self_list]
      have hlen' : (es.length : Int) = (j : Int) := by omega
      refine ih _ _ ⟨es ++ [⟨(es.length : Int) + 2, t + 1, 1, l[j]⟩], ia', im', ims, v', 0, t + 1, 1, gL, ?_, ?_, ?_, ?_, ?_, ?_, ?_, ?_⟩
      · intro e he
        rcases List.mem_append.1 he with q | q
        · exact hes e q
        · rw [List.mem_singleton.1 q]
      · simp [hlen]
      · simp (maxDischargeDepth := 80) only [push_cast, Nat.reduceBEq, reduceIte, reduceCtorEq, Nat.reduceEqDiff, Nat.reduceAdd, Nat.reduceMul, Nat.reduceSub, Nat.reduceLeDiff, Nat.reduceLT, Nat.reducePow, Int.reduceToNat, Int.reduceLT, Int.reduceLE, Int.reduceEq, Int.reduceAdd, Int.reduceSub, Int.reduceNeg, f0]
      · simp (maxDischargeDepth := 80) only [push_cast, Nat.reduceBEq, reduceIte, reduceCtorEq, Nat.reduceEqDiff, Nat.reduceAdd, Nat.reduceMul, Nat.reduceSub, Nat.reduceLeDiff, Nat.reduceLT, Nat.reducePow, Int.reduceToNat, Int.reduceLT, Int.reduceLE, Int.reduceEq, Int.reduceAdd, Int.reduceSub, Int.reduceNeg, f1]
      · simp (maxDischargeDepth := 80) only [push_cast, Nat.reduceBEq, reduceIte, reduceCtorEq, Nat.reduceEqDiff, Nat.reduceAdd, Nat.reduceMul, Nat.reduceSub, Nat.reduceLeDiff, Nat.reduceLT, Nat.reducePow, Int.reduceToNat, Int.reduceLT, Int.reduceLE, Int.reduceEq, Int.reduceAdd, Int.reduceSub, Int.reduceNeg, f6]
      · simp (maxDischargeDepth := 80) only [push_cast, Nat.reduceBEq, reduceIte, reduceCtorEq, Nat.reduceEqDiff, Nat.reduceAdd, Nat.reduceMul, Nat.reduceSub, Nat.reduceLeDiff, Nat.reduceLT, Nat.reducePow, Int.reduceToNat, Int.reduceLT, Int.reduceLE, Int.reduceEq, Int.reduceAdd, Int.reduceSub, Int.reduceNeg, f8]
        exact congrArg (V.int IntKind.i64) w2
      · intro k hk
        have hkj : (k = j) = False := eq_false (by omega)
        have hjk : (j = k) = False := eq_false (by omega)
        exact gfr.fr (hF k (by omega)) (by simp (maxDischargeDepth := 80) only [push_cast, Nat.reduceBEq, reduceIte, reduceCtorEq, Nat.reduceEqDiff, Nat.reduceAdd, Nat.reduceMul, Nat.reduceSub, Nat.reduceLeDiff, Nat.reduceLT, Nat.reducePow, Int.reduceToNat, Int.reduceLT, Int.reduceLE, Int.reduceEq, Int.reduceAdd, Int.reduceSub, Int.reduceNeg, hkj, hjk]) (by simp (maxDischargeDepth := 80) only [push_cast, Nat.reduceBEq, reduceIte, reduceCtorEq, Nat.reduceEqDiff, Nat.reduceAdd, Nat.reduceMul, Nat.reduceSub, Nat.reduceLeDiff, Nat.reduceLT, Nat.reducePow, Int.reduceToNat, Int.reduceLT, Int.reduceLE, Int.reduceEq, Int.reduceAdd, Int.reduceSub, Int.reduceNeg, hkj, hjk]) (hL.off (hF k (by omega)))
      · exact gfr.fr hFe' (by simp (maxDischargeDepth := 80) only [push_cast, Nat.reduceBEq, reduceIte, reduceCtorEq, Nat.reduceEqDiff, Nat.reduceAdd, Nat.reduceMul, Nat.reduceSub, Nat.reduceLeDiff, Nat.reduceLT, Nat.reducePow, Int.reduceToNat, Int.reduceLT, Int.reduceLE, Int.reduceEq, Int.reduceAdd, Int.reduceSub, Int.reduceNeg]) (by simp (maxDischargeDepth := 80) only [push_cast, Nat.reduceBEq, reduceIte, reduceCtorEq, Nat.reduceEqDiff, Nat.reduceAdd, Nat.reduceMul, Nat.reduceSub, Nat.reduceLeDiff, Nat.reduceLT, Nat.reducePow, Int.reduceToNat, Int.reduceLT, Int.reduceLE, Int.reduceEq, Int.reduceAdd, Int.reduceSub, Int.reduceNeg]) (hL.off hFe')
  · rintro f M' ⟨es, ia, im, ims, v, fr, tt, tv, hL, hes, hlen, f0, f1, f6, f8, hF, hFe'⟩
    have hobj := hL.at_.obj
    have hel : M' ie = _ := hL.at_.el
    have r1 := fun s' (q1 : FreshM s' M') => role_E s' q1 hel
    have c5 : (lel (t + 1) ims).role = 3 := rfl
    rw [c5] at r1
    simp only [Nd.cs_eq, lnd] at hobj
    by_cases c4 : 50 < l.length
    · have hA : (((min l.length 50 : Nat) : Int) < (l.length : Int)) = True := eq_true (by omega)
      have hB : (((min l.length 50 : Nat) : Int) < 50) = False := eq_false (by omega)
      simp (maxDischargeDepth := 80) only [push_cast, Nat.reduceBEq, reduceIte, reduceCtorEq, Nat.reduceEqDiff, Nat.reduceAdd, Nat.reduceMul, Nat.reduceSub, Nat.reduceLeDiff, Nat.reduceLT, Nat.reducePow, Int.reduceToNat, Int.reduceLT, Int.reduceLE, Int.reduceEq, Int.reduceAdd, Int.reduceSub, Int.reduceNeg, f0, f1, f6, f8, hv.len, hA, hB, hobj, r1, fresh_dn hFe']
    · have hA : (((min l.length 50 : Nat) : Int) < (l.length : Int)) = False := eq_false (by omega)
      simp (maxDischargeDepth := 80) only [push_cast, Nat.reduceBEq, reduceIte, reduceCtorEq, Nat.reduceEqDiff, Nat.reduceAdd, Nat.reduceMul, Nat.reduceSub, Nat.reduceLeDiff, Nat.reduceLT, Nat.reducePow, Int.reduceToNat, Int.reduceLT, Int.reduceLE, Int.reduceEq, Int.reduceAdd, Int.reduceSub, Int.reduceNeg, f0, f1, f6, f8, hv.len, hA, hobj, r1, fresh_dn hFe']
end Go.Ab.R
