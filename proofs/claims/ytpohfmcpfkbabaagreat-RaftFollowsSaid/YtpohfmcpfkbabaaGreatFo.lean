/- RaftFollows: the law. Conditions: none. -/
import Derived.Test.YtpohfmcpfkbabaaGreatGh
import Derived.Test.YtpohfmcpfkbabaaGreatGf
set_option linter.unusedSimpArgs false
set_option linter.unusedVariables false
namespace Go.Ab.R
open Go Go.Proofs
set_option maxRecDepth 100000

theorem nlast_E {M : Mem} {p ia : Id} {v : V} {g : Lg} {d : Nd} {e : Elc} (s : Id) (hM : FreshM s M) (h : NodeAt M p d e ia v g) : Fn env false 18 [.ptr p 0] s M = some (.int .i64 g.last, M) := by
  have hobj := h.obj
  have r1 := fun s' (q1 : FreshM s' M) => last_E s' M q1 h.lg
  simp only [Nd.cs_eq] at hobj
  rw [Fn_body Tryz.func18 (by decide) rfl rfl]
  simp (maxDischargeDepth := 80) only [push_cast, Nat.reduceBEq, reduceIte, reduceCtorEq, Nat.reduceEqDiff, Nat.reduceAdd, Nat.reduceMul, Nat.reduceSub, Nat.reduceLeDiff, Nat.reduceLT, Nat.reducePow, Int.reduceToNat, Int.reduceLT, Int.reduceLE, Int.reduceEq, Int.reduceAdd, Int.reduceSub, Int.reduceNeg, hobj, Off_dn (Off_of hM hobj), Off_ne (Off_of hM hobj), Off_ne' (Off_of hM hobj), r1, fresh_dn hM, fresh_at hM]
theorem proposeF_E {M : Mem} {p ia : Id} {v : V} {g : Lg} {d : Nd} {e : Elc} (w : V) (s : Id) (hM : FreshM s M) (h : NodeAt M p d e ia v g) (hr : (e.role = 3) = False) : Fn env false 11 [.ptr p 0, w] s M = some (.tup [.int .i64 0, .int .i64 7], M) := by
  have hobj := h.obj
  have r1 := fun s' (q1 : FreshM s' M) => role_E s' q1 h.el
  simp only [Nd.cs_eq] at hobj
  rw [Fn_body Tryz.func11 (by decide) rfl rfl]
  simp (maxDischargeDepth := 80) only [push_cast, Nat.reduceBEq, reduceIte, reduceCtorEq, Nat.reduceEqDiff, Nat.reduceAdd, Nat.reduceMul, Nat.reduceSub, Nat.reduceLeDiff, Nat.reduceLT, Nat.reducePow, Int.reduceToNat, Int.reduceLT, Int.reduceLE, Int.reduceEq, Int.reduceAdd, Int.reduceSub, Int.reduceNeg, hobj, Off_dn (Off_of hM hobj), Off_ne (Off_of hM hobj), Off_ne' (Off_of hM hobj), r1, hr, fresh_dn hM, fresh_at hM]
theorem changeF_E {M : Mem} {p ia : Id} {v : V} {g : Lg} {d : Nd} {e : Elc} (a b : Int) (s : Id) (hM : FreshM s M) (h : NodeAt M p d e ia v g) (hr : (e.role = 3) = False) : Fn env false 19 [.ptr p 0, .int .i64 a, .int .i64 b] s M = some (.tup [.int .i64 0, .int .i64 7], M) := by
  have hobj := h.obj
  have hel := h.el
  have r1 := fun s' M' (q1 : FreshM s' M') (q2 : M' d.ie = some (.cells e.cs)) => role_E s' q1 q2
  simp only [Nd.cs_eq] at hobj
  simp only [Elc.cs_eq] at hel r1
  rw [Fn_body Tryz.func19 (by decide) rfl rfl]
  simp (maxDischargeDepth := 80) only [push_cast, Nat.reduceBEq, reduceIte, reduceCtorEq, Nat.reduceEqDiff, Nat.reduceAdd, Nat.reduceMul, Nat.reduceSub, Nat.reduceLeDiff, Nat.reduceLT, Nat.reducePow, Int.reduceToNat, Int.reduceLT, Int.reduceLE, Int.reduceEq, Int.reduceAdd, Int.reduceSub, Int.reduceNeg, hobj, Off_dn (Off_of hM hobj), Off_ne (Off_of hM hobj), Off_ne' (Off_of hM hobj), hel, Off_dn (Off_of hM hel), Off_ne (Off_of hM hel), Off_ne' (Off_of hM hel), r1, hr, fresh_dn hM, fresh_at hM]
theorem readF_E {M : Mem} {p ia : Id} {v : V} {g : Lg} {d : Nd} {e : Elc} (a : Int) (s : Id) (hM : FreshM s M) (h : NodeAt M p d e ia v g) (hr : (e.role = 3) = False) : Fn env false 12 [.ptr p 0, .int .i64 a] s M = some (.int .i64 7, M) := by
  have hobj := h.obj
  have r1 := fun s' (q1 : FreshM s' M) => own_E s' q1 h
  have ho : ownL g e = false := by simp [ownL, hr]
  rw [ho] at r1
  simp only [Nd.cs_eq] at hobj
  rw [Fn_body Tryz.func12 (by decide) rfl rfl]
  simp (maxDischargeDepth := 80) only [push_cast, Nat.reduceBEq, reduceIte, reduceCtorEq, Nat.reduceEqDiff, Nat.reduceAdd, Nat.reduceMul, Nat.reduceSub, Nat.reduceLeDiff, Nat.reduceLT, Nat.reducePow, Int.reduceToNat, Int.reduceLT, Int.reduceLE, Int.reduceEq, Int.reduceAdd, Int.reduceSub, Int.reduceNeg, hobj, Off_dn (Off_of hM hobj), Off_ne (Off_of hM hobj), Off_ne' (Off_of hM hobj), r1, fresh_dn hM, fresh_at hM]

theorem NodeAt.set {M : Mem} {p ia t : Id} {v : V} {g : Lg} {d : Nd} {e : Elc} (h : NodeAt M p d e ia v g) (ht : M t = none) (o : AObj) : NodeAt (M.set t o) p d e ia v g := by
  have hk : ∀ i o', M i = some o' → (M.set t o) i = some o' := fun i o' q => by
    have : i ≠ t := fun e => by rw [e, ht] at q; cases q
    simp [Mem.set, this, q]
  exact ⟨hk _ _ h.obj, hk _ _ h.el, h.lg.frame ((hk _ _ h.lg.obj).trans h.lg.obj.symm) ((hk _ _ h.lg.arr).trans h.lg.arr.symm)⟩

/-- what a statement's node is made of -/
def whoV (id ht hv : Int) (sn : Snp) (wl : V) (pat win : Int) : V := .agg [.int .i64 id, .int .i64 ht, .int .i64 hv, .int .i64 sn.index, .int .i64 sn.term, intsV sn.vs, intsV sn.ls, dataV sn.data, wl, .int .i64 pat, .int .i64 win]

theorem much0_E (id ht hv : Int) (sn : Snp) (wl : V) (l : List Ent) (pat win : Int) (s : Id) (M : Mem) (hM : FreshM s M) (hwl : RdX M wl l) :
    Fn env false 17 [whoV id ht hv sn wl pat win, .nils] s M = some (.bool (decide (300 < (l.length : Int)) || decide (100000 < (dlen sn.data : Int))), M) := by
  have h1 := hwl.len
  rw [Fn_body Tryz.func17 (by decide) rfl rfl]
  by_cases c1 : 300 < (l.length : Int)
  · simp (maxDischargeDepth := 80) only [push_cast, Nat.reduceBEq, reduceIte, reduceCtorEq, Nat.reduceEqDiff, Nat.reduceAdd, Nat.reduceMul, Nat.reduceSub, Nat.reduceLeDiff, Nat.reduceLT, Nat.reducePow, Int.reduceToNat, Int.reduceLT, Int.reduceLE, Int.reduceEq, Int.reduceAdd, Int.reduceSub, Int.reduceNeg, whoV, hwl.one, hwl.cells, intsV_one, intsV_cells, one_data, data_cells, h1, c1, fresh_dn hM, fresh_at hM]
  · by_cases c2 : 100000 < (dlen sn.data : Int)
    · simp (maxDischargeDepth := 80) only [push_cast, Nat.reduceBEq, reduceIte, reduceCtorEq, Nat.reduceEqDiff, Nat.reduceAdd, Nat.reduceMul, Nat.reduceSub, Nat.reduceLeDiff, Nat.reduceLT, Nat.reducePow, Int.reduceToNat, Int.reduceLT, Int.reduceLE, Int.reduceEq, Int.reduceAdd, Int.reduceSub, Int.reduceNeg, whoV, hwl.one, hwl.cells, intsV_one, intsV_cells, one_data, data_cells, len_data, h1, c1, c2, fresh_dn hM, fresh_at hM]
    · simp (maxDischargeDepth := 80) only [push_cast, Nat.reduceBEq, reduceIte, reduceCtorEq, Nat.reduceEqDiff, Nat.reduceAdd, Nat.reduceMul, Nat.reduceSub, Nat.reduceLeDiff, Nat.reduceLT, Nat.reducePow, Int.reduceToNat, Int.reduceLT, Int.reduceLE, Int.reduceEq, Int.reduceAdd, Int.reduceSub, Int.reduceNeg, whoV, hwl.one, hwl.cells, intsV_one, intsV_cells, one_data, data_cells, len_data, h1, c1, c2, run_lp, fresh_dn hM, fresh_at hM]

theorem Okk.law {X : Option (V × Mem)} {v : V} (h : Okk X fun x => x.1 = v) : X.map Prod.fst = some v := by
  obtain ⟨x, rfl, rfl⟩ := h; rfl

theorem follows_law (id ht hv : Int) (sn : Snp) (wl : V) (l : List Ent) (pat win : Int) (data : Option (List UInt8)) (x0 x1 : Int) (hwl : ∀ M, RdX M wl l) (hs1 : (intsL sn.vs).length < 2 ^ 63) (hs2 : (intsL sn.ls).length < 2 ^ 63) (s : Id) (M : Mem) (hM : FreshM s M) :
    Okk (Fn env false 4 [whoV id ht hv sn wl pat win, dataV data, .agg [.int .i64 x0, .int .i64 x1]] s M) fun x => x.1 = .bool true := by
  have r8 := fun s' M' (q1 : FreshM s' M') => awake_E s' M' q1 false rfl
  have r17 := fun s' M' (q1 : FreshM s' M') => much0_E id ht hv sn wl l pat win s' M' q1 (hwl M')
  have hone := (hwl M).one
  have hcells := (hwl M).cells
  simp only [whoV] at r17
  rw [Fn_body Tryz.func4 (by decide) rfl rfl]
  by_cases c1 : 300 < (l.length : Int)
  · simp (maxDischargeDepth := 80) only [push_cast, Nat.reduceBEq, reduceIte, reduceCtorEq, Nat.reduceEqDiff, Nat.reduceAdd, Nat.reduceMul, Nat.reduceSub, Nat.reduceLeDiff, Nat.reduceLT, Nat.reducePow, Int.reduceToNat, Int.reduceLT, Int.reduceLE, Int.reduceEq, Int.reduceAdd, Int.reduceSub, Int.reduceNeg, whoV, hone, hcells, intsV_one, intsV_cells, one_data, data_cells, r8, r17, c1, fresh_dn hM, fresh_at hM]
  by_cases c2 : 100000 < (dlen sn.data : Int)
  · simp (maxDischargeDepth := 80) only [push_cast, Nat.reduceBEq, reduceIte, reduceCtorEq, Nat.reduceEqDiff, Nat.reduceAdd, Nat.reduceMul, Nat.reduceSub, Nat.reduceLeDiff, Nat.reduceLT, Nat.reducePow, Int.reduceToNat, Int.reduceLT, Int.reduceLE, Int.reduceEq, Int.reduceAdd, Int.reduceSub, Int.reduceNeg, whoV, hone, hcells, intsV_one, intsV_cells, one_data, data_cells, r8, r17, c1, c2, fresh_dn hM, fresh_at hM]
  by_cases c3 : 70000 < (dlen data : Int)
  · simp (maxDischargeDepth := 80) only [push_cast, Nat.reduceBEq, reduceIte, reduceCtorEq, Nat.reduceEqDiff, Nat.reduceAdd, Nat.reduceMul, Nat.reduceSub, Nat.reduceLeDiff, Nat.reduceLT, Nat.reducePow, Int.reduceToNat, Int.reduceLT, Int.reduceLE, Int.reduceEq, Int.reduceAdd, Int.reduceSub, Int.reduceNeg, whoV, hone, hcells, intsV_one, intsV_cells, one_data, data_cells, len_data, r8, r17, c1, c2, c3, fresh_dn hM, fresh_at hM]
  simp (maxDischargeDepth := 80) only [push_cast, Nat.reduceBEq, reduceIte, reduceCtorEq, Nat.reduceEqDiff, Nat.reduceAdd, Nat.reduceMul, Nat.reduceSub, Nat.reduceLeDiff, Nat.reduceLT, Nat.reducePow, Int.reduceToNat, Int.reduceLT, Int.reduceLE, Int.reduceEq, Int.reduceAdd, Int.reduceSub, Int.reduceNeg, whoV, hone, hcells, intsV_one, intsV_cells, one_data, data_cells, len_data, r8, r17, c1, c2, c3, fresh_dn hM, fresh_at hM]
  refine Okk.call (newX_E id win pat ht hv (intsV sn.vs) (intsV sn.ls) wl sn l _ _ ?_ ⟨intsV_V _ _, intsV_V _ _, rfl, hs1, hs2⟩ (by unfold mostLen; omega) hwl (by omega)) ?_
  · simp (maxDischargeDepth := 80) only [push_cast, Nat.reduceBEq, reduceIte, reduceCtorEq, Nat.reduceEqDiff, Nat.reduceAdd, Nat.reduceMul, Nat.reduceSub, Nat.reduceLeDiff, Nat.reduceLT, Nat.reducePow, Int.reduceToNat, Int.reduceLT, Int.reduceLE, Int.reduceEq, Int.reduceAdd, Int.reduceSub, Int.reduceNeg, fresh_dn hM, fresh_at hM]
  rintro ⟨r, M1⟩ ⟨hfr, hor⟩
  dsimp only at hfr hor ⊢
  rcases hor with ⟨hne, rfl⟩ | ⟨h0, p, ie, il, ia, v, im, rfl, hN, up, _, _, _⟩
  · have hne' : (newC id ht hv pat win sn l = 0) = False := eq_false hne
    simp (maxDischargeDepth := 80) only [push_cast, Nat.reduceBEq, reduceIte, reduceCtorEq, Nat.reduceEqDiff, Nat.reduceAdd, Nat.reduceMul, Nat.reduceSub, Nat.reduceLeDiff, Nat.reduceLT, Nat.reducePow, Int.reduceToNat, Int.reduceLT, Int.reduceLE, Int.reduceEq, Int.reduceAdd, Int.reduceSub, Int.reduceNeg, hne']
  · have hF : ∀ u, Un (1 :: 0 :: s) u → Off u (10 :: 0 :: 1 :: 1 :: 1 :: 1 :: 0 :: s) → Off (10 :: 0 :: 1 :: 1 :: 1 :: 1 :: 0 :: s) u → FreshM u M1 := fun u h1 h2 h3 i hi => by
      rw [hfr i (fun q => by
        rcases List.suffix_or_suffix_of_suffix q hi with a | a
        · exact h3 a
        · exact h2 a)]
      have hi2 : Un (1 :: 0 :: s) i := List.IsSuffix.trans h1 hi
      have e0 : i ≠ 0 :: 0 :: 0 :: s := fun e => by
        have h0 : (0 :: 0 :: s) <:+ i := by rw [e]; exact ⟨[0], rfl⟩
        exact absurd (suffix_cons_eq hi2 h0) (by decide)
      have e1 : i ≠ 1 :: 0 :: 0 :: s := fun e => by
        have h0 : (0 :: 0 :: s) <:+ i := by rw [e]; exact ⟨[1], rfl⟩
        exact absurd (suffix_cons_eq hi2 h0) (by decide)
      simp only [Mem.set, e0, e1, if_false]
      exact hM i (List.IsSuffix.trans ⟨[1, 0], rfl⟩ hi2)
    have hlg := hN.lg
    have m1 : M1 (1 :: 0 :: 0 :: s) = some (.cells [.int .i64 x0, .int .i64 x1]) := by
      rw [hfr _ (by simp (maxDischargeDepth := 80) only [push_cast, Nat.reduceBEq, reduceIte, reduceCtorEq, Nat.reduceEqDiff, Nat.reduceAdd, Nat.reduceMul, Nat.reduceSub, Nat.reduceLeDiff, Nat.reduceLT, Nat.reducePow, Int.reduceToNat, Int.reduceLT, Int.reduceLE, Int.reduceEq, Int.reduceAdd, Int.reduceSub, Int.reduceNeg])]; simp (maxDischargeDepth := 80) only [push_cast, Nat.reduceBEq, reduceIte, reduceCtorEq, Nat.reduceEqDiff, Nat.reduceAdd, Nat.reduceMul, Nat.reduceSub, Nat.reduceLeDiff, Nat.reduceLT, Nat.reducePow, Int.reduceToNat, Int.reduceLT, Int.reduceLE, Int.reduceEq, Int.reduceAdd, Int.reduceSub, Int.reduceNeg]
    have t1 := fun s' M' (q1 : FreshM s' M') (q2 : M' = M1) => nlast_E s' q1 (q2 ▸ hN)
    have t2 := fun w s' M' (q1 : FreshM s' M') (q2 : M' = M1) => proposeF_E w s' q1 (q2 ▸ hN) (eq_false (show ¬ (0 : Int) = 3 by decide))
    have t3 := fun a b s' M' (q1 : FreshM s' M') (q2 : M' = M1) => changeF_E a b s' q1 (q2 ▸ hN) (eq_false (show ¬ (0 : Int) = 3 by decide))
    have t4 := fun a s' M' (q1 : FreshM s' M') (q2 : M' = M1) => readF_E a s' q1 (q2 ▸ hN) (eq_false (show ¬ (0 : Int) = 3 by decide))
    simp (maxDischargeDepth := 80) only [push_cast, Nat.reduceBEq, reduceIte, reduceCtorEq, Nat.reduceEqDiff, Nat.reduceAdd, Nat.reduceMul, Nat.reduceSub, Nat.reduceLeDiff, Nat.reduceLT, Nat.reducePow, Int.reduceToNat, Int.reduceLT, Int.reduceLE, Int.reduceEq, Int.reduceAdd, Int.reduceSub, Int.reduceNeg, t1, t2, t3, t4, m1, hF]
    obtain ⟨x, k1, k2, k3, k4⟩ := out_E (1 :: 0 :: 1 :: 1 :: 1 :: 1 :: 1 :: 1 :: 1 :: 1 :: 1 :: 1 :: 0 :: s) (hF _ (by simp (maxDischargeDepth := 80) only [push_cast, Nat.reduceBEq, reduceIte, reduceCtorEq, Nat.reduceEqDiff, Nat.reduceAdd, Nat.reduceMul, Nat.reduceSub, Nat.reduceLeDiff, Nat.reduceLT, Nat.reducePow, Int.reduceToNat, Int.reduceLT, Int.reduceLE, Int.reduceEq, Int.reduceAdd, Int.reduceSub, Int.reduceNeg]) (by simp (maxDischargeDepth := 80) only [push_cast, Nat.reduceBEq, reduceIte, reduceCtorEq, Nat.reduceEqDiff, Nat.reduceAdd, Nat.reduceMul, Nat.reduceSub, Nat.reduceLeDiff, Nat.reduceLT, Nat.reducePow, Int.reduceToNat, Int.reduceLT, Int.reduceLE, Int.reduceEq, Int.reduceAdd, Int.reduceSub, Int.reduceNeg]) (by simp (maxDischargeDepth := 80) only [push_cast, Nat.reduceBEq, reduceIte, reduceCtorEq, Nat.reduceEqDiff, Nat.reduceAdd, Nat.reduceMul, Nat.reduceSub, Nat.reduceLeDiff, Nat.reduceLT, Nat.reducePow, Int.reduceToNat, Int.reduceLT, Int.reduceLE, Int.reduceEq, Int.reduceAdd, Int.reduceSub, Int.reduceNeg])) hN ⟨rfl, rfl, rfl, rfl, rfl, rfl, rfl, rfl⟩ rfl
    have hb : x.2.1 = false := by rw [k3]; simp
    rw [hb] at k1
    have u1 : FreshM (2 :: 0 :: 1 :: 1 :: 1 :: 1 :: 1 :: 1 :: 1 :: 1 :: 1 :: 1 :: 0 :: s) M1 := hF _ (by simp (maxDischargeDepth := 80) only [push_cast, Nat.reduceBEq, reduceIte, reduceCtorEq, Nat.reduceEqDiff, Nat.reduceAdd, Nat.reduceMul, Nat.reduceSub, Nat.reduceLeDiff, Nat.reduceLT, Nat.reducePow, Int.reduceToNat, Int.reduceLT, Int.reduceLE, Int.reduceEq, Int.reduceAdd, Int.reduceSub, Int.reduceNeg]) (by simp (maxDischargeDepth := 80) only [push_cast, Nat.reduceBEq, reduceIte, reduceCtorEq, Nat.reduceEqDiff, Nat.reduceAdd, Nat.reduceMul, Nat.reduceSub, Nat.reduceLeDiff, Nat.reduceLT, Nat.reducePow, Int.reduceToNat, Int.reduceLT, Int.reduceLE, Int.reduceEq, Int.reduceAdd, Int.reduceSub, Int.reduceNeg]) (by simp (maxDischargeDepth := 80) only [push_cast, Nat.reduceBEq, reduceIte, reduceCtorEq, Nat.reduceEqDiff, Nat.reduceAdd, Nat.reduceMul, Nat.reduceSub, Nat.reduceLeDiff, Nat.reduceLT, Nat.reducePow, Int.reduceToNat, Int.reduceLT, Int.reduceLE, Int.reduceEq, Int.reduceAdd, Int.reduceSub, Int.reduceNeg])
    have u2 : FreshM (1 :: 0 :: 1 :: 1 :: 1 :: 1 :: 1 :: 1 :: 1 :: 1 :: 1 :: 1 :: 0 :: s) M1 := hF _ (by simp (maxDischargeDepth := 80) only [push_cast, Nat.reduceBEq, reduceIte, reduceCtorEq, Nat.reduceEqDiff, Nat.reduceAdd, Nat.reduceMul, Nat.reduceSub, Nat.reduceLeDiff, Nat.reduceLT, Nat.reducePow, Int.reduceToNat, Int.reduceLT, Int.reduceLE, Int.reduceEq, Int.reduceAdd, Int.reduceSub, Int.reduceNeg]) (by simp (maxDischargeDepth := 80) only [push_cast, Nat.reduceBEq, reduceIte, reduceCtorEq, Nat.reduceEqDiff, Nat.reduceAdd, Nat.reduceMul, Nat.reduceSub, Nat.reduceLeDiff, Nat.reduceLT, Nat.reducePow, Int.reduceToNat, Int.reduceLT, Int.reduceLE, Int.reduceEq, Int.reduceAdd, Int.reduceSub, Int.reduceNeg]) (by simp (maxDischargeDepth := 80) only [push_cast, Nat.reduceBEq, reduceIte, reduceCtorEq, Nat.reduceEqDiff, Nat.reduceAdd, Nat.reduceMul, Nat.reduceSub, Nat.reduceLeDiff, Nat.reduceLT, Nat.reducePow, Int.reduceToNat, Int.reduceLT, Int.reduceLE, Int.reduceEq, Int.reduceAdd, Int.reduceSub, Int.reduceNeg])
    have u3 : FreshM (12 :: 0 :: 1 :: 1 :: 1 :: 1 :: 1 :: 1 :: 1 :: 1 :: 1 :: 1 :: 1 :: 0 :: s) M1 := hF _ (by simp (maxDischargeDepth := 80) only [push_cast, Nat.reduceBEq, reduceIte, reduceCtorEq, Nat.reduceEqDiff, Nat.reduceAdd, Nat.reduceMul, Nat.reduceSub, Nat.reduceLeDiff, Nat.reduceLT, Nat.reducePow, Int.reduceToNat, Int.reduceLT, Int.reduceLE, Int.reduceEq, Int.reduceAdd, Int.reduceSub, Int.reduceNeg]) (by simp (maxDischargeDepth := 80) only [push_cast, Nat.reduceBEq, reduceIte, reduceCtorEq, Nat.reduceEqDiff, Nat.reduceAdd, Nat.reduceMul, Nat.reduceSub, Nat.reduceLeDiff, Nat.reduceLT, Nat.reducePow, Int.reduceToNat, Int.reduceLT, Int.reduceLE, Int.reduceEq, Int.reduceAdd, Int.reduceSub, Int.reduceNeg]) (by simp (maxDischargeDepth := 80) only [push_cast, Nat.reduceBEq, reduceIte, reduceCtorEq, Nat.reduceEqDiff, Nat.reduceAdd, Nat.reduceMul, Nat.reduceSub, Nat.reduceLeDiff, Nat.reduceLT, Nat.reducePow, Int.reduceToNat, Int.reduceLT, Int.reduceLE, Int.reduceEq, Int.reduceAdd, Int.reduceSub, Int.reduceNeg])
    have hk : ∀ i o, i ≠ p → M1 i = some o → x.1 i = some o := fun i o hi q => (k4 i (Off_of u2 q) (by simpa using hi)).trans q
    have hN2 : NodeAt x.1 p _ _ _ _ _ := ⟨k2, hk _ _ (Ne.symm hN.ne1) hN.el, hN.lg.frame ((hk _ _ (Ne.symm hN.ne2) hlg.obj).trans hlg.obj.symm) ((hk _ _ (Ne.symm hN.ne5) hlg.arr).trans hlg.arr.symm)⟩
    have hx2 : x.1 (2 :: 0 :: 1 :: 1 :: 1 :: 1 :: 1 :: 1 :: 1 :: 1 :: 1 :: 1 :: 0 :: s) = none := by
      rw [k4 _ (by simp (maxDischargeDepth := 80) only [push_cast, Nat.reduceBEq, reduceIte, reduceCtorEq, Nat.reduceEqDiff, Nat.reduceAdd, Nat.reduceMul, Nat.reduceSub, Nat.reduceLeDiff, Nat.reduceLT, Nat.reducePow, Int.reduceToNat, Int.reduceLT, Int.reduceLE, Int.reduceEq, Int.reduceAdd, Int.reduceSub, Int.reduceNeg]) (by simp only [List.mem_singleton]; exact fun e => Off_of u1 hN.obj (e ▸ List.suffix_refl _))]
      exact u1 _ (List.suffix_refl _)
    have hu3 : FreshM (12 :: 0 :: 1 :: 1 :: 1 :: 1 :: 1 :: 1 :: 1 :: 1 :: 1 :: 1 :: 1 :: 0 :: s) x.1 := k4.fr u3 (by simp (maxDischargeDepth := 80) only [push_cast, Nat.reduceBEq, reduceIte, reduceCtorEq, Nat.reduceEqDiff, Nat.reduceAdd, Nat.reduceMul, Nat.reduceSub, Nat.reduceLeDiff, Nat.reduceLT, Nat.reducePow, Int.reduceToNat, Int.reduceLT, Int.reduceLE, Int.reduceEq, Int.reduceAdd, Int.reduceSub, Int.reduceNeg]) (by simp (maxDischargeDepth := 80) only [push_cast, Nat.reduceBEq, reduceIte, reduceCtorEq, Nat.reduceEqDiff, Nat.reduceAdd, Nat.reduceMul, Nat.reduceSub, Nat.reduceLeDiff, Nat.reduceLT, Nat.reducePow, Int.reduceToNat, Int.reduceLT, Int.reduceLE, Int.reduceEq, Int.reduceAdd, Int.reduceSub, Int.reduceNeg]) (fun q hq => by rw [List.mem_singleton.1 hq]; exact Off_of u3 hN.obj)
    have t5 := fun o => nlast_E (12 :: 0 :: 1 :: 1 :: 1 :: 1 :: 1 :: 1 :: 1 :: 1 :: 1 :: 1 :: 1 :: 0 :: s) (by simp (maxDischargeDepth := 80) only [push_cast, Nat.reduceBEq, reduceIte, reduceCtorEq, Nat.reduceEqDiff, Nat.reduceAdd, Nat.reduceMul, Nat.reduceSub, Nat.reduceLeDiff, Nat.reduceLT, Nat.reducePow, Int.reduceToNat, Int.reduceLT, Int.reduceLE, Int.reduceEq, Int.reduceAdd, Int.reduceSub, Int.reduceNeg, hu3]) (hN2.set hx2 o)
    simp (maxDischargeDepth := 80) only [push_cast, Nat.reduceBEq, reduceIte, reduceCtorEq, Nat.reduceEqDiff, Nat.reduceAdd, Nat.reduceMul, Nat.reduceSub, Nat.reduceLeDiff, Nat.reduceLT, Nat.reducePow, Int.reduceToNat, Int.reduceLT, Int.reduceLE, Int.reduceEq, Int.reduceAdd, Int.reduceSub, Int.reduceNeg, k1, t5]
end Go.Ab.R
