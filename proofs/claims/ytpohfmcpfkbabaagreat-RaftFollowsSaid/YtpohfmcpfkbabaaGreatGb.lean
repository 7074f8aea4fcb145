/- The log in the memory, and what its readers come to. Conditions: none. -/
import Derived.Test.YtpohfmcpfkbabaaGreatGa
set_option linter.unusedSimpArgs false
set_option linter.unusedVariables false
namespace Go.Ab.R
open Go Go.Proofs
set_option maxRecDepth 100000

structure Lg where
  base : Int
  ents : List Ent
  com : Int
  app : Int

structure LgOk (g : Lg) : Prop where
  ne : 0 < g.ents.length
  idx : ∀ j (h : j < g.ents.length), g.ents[j].index = g.base + j
  lo : 0 ≤ g.base
  hi : g.base + g.ents.length ≤ 2 ^ 40 + 1
  few : g.ents.length ≤ 2 ^ 35
  data : ∀ e ∈ g.ents, dlen e.data ≤ 4096

structure LogAt (M : Mem) (il ia : Id) (v : V) (g : Lg) : Prop where
  obj : M il = some (.cells [v, .int .i64 g.com, .int .i64 g.app])
  shape : ∃ cap, v = .sl ia 0 g.ents.length 4 cap ∧ (cap = none ∨ cap = some g.ents.length)
  arr : M ia = some (.cells (flatE g.ents))
  ok : LgOk g

theorem LogAt.ents {M il ia v g} (h : LogAt M il ia v g) : EntsV M v g.ents := by
  obtain ⟨cap, rfl, hc⟩ := h.shape
  refine .sl ia 0 cap _ _ h.arr (by rw [flatE_len]; omega) (by rw [List.drop_zero, List.take_of_length_le (by rw [flatE_len]; omega)]) ?_
  intro c e; rcases hc with hc | hc <;> rw [hc] at e <;> cases e; omega
theorem LogAt.mono {M M' il ia v g} (h : LogAt M il ia v g) (hs : Sub M M') : LogAt M' il ia v g :=
  ⟨hs _ _ h.obj, h.shape, hs _ _ h.arr, h.ok⟩
theorem LogAt.vone {M il ia v g} (h : LogAt M il ia v g) : v.one = true := h.ents.rd.one
theorem LogAt.vcells {M il ia v g} (h : LogAt M il ia v g) : v.cells = [v] := h.ents.rd.cells

def Lg.last (g : Lg) : Int := g.base + g.ents.length - 1
def Lg.has (g : Lg) (i : Int) : Bool := decide (g.base ≤ i) && decide (i ≤ g.last)
def Lg.at_ (g : Lg) (i : Int) : Ent := g.ents.getD (i - g.base).toNat ⟨0, 0, 0, none⟩
def Lg.termOf (g : Lg) (i : Int) : Int := if g.has i then (g.at_ i).term else 0

theorem RdX.first {M v l} (h : RdX M v l) (hl : 0 < l.length) : ∃ p q0 q1, indexAddrV Tryz.prog 46 v (.int .i64 0) = some p ∧ fieldAddrV Tryz.prog 52 p 0 = some q0 ∧ fieldAddrV Tryz.prog 52 p 1 = some q1 ∧
    ∀ M', Sub M M' → loadV Tryz.prog 52 M' p = some (.agg l[0].cells) ∧ loadV Tryz.prog 3 M' q0 = some (.int .i64 l[0].index) ∧ loadV Tryz.prog 3 M' q1 = some (.int .i64 l[0].term) := h.get 0 hl
theorem LgOk.first {g : Lg} (h : LgOk g) : (g.ents[0]'h.ne).index = g.base := by have := h.idx 0 h.ne; simpa using this

theorem base_E {il ia v g} (s : Id) (M : Mem) (hM : FreshM s M) (h : LogAt M il ia v g) : Fn env false 99 [.ptr il 0] s M = some (.int .i64 g.base, M) := by
  rw [Fn_body Tryz.func99 (by decide) rfl rfl]
  obtain ⟨p, q0, q1, h1, h2, h3, h4⟩ := h.ents.rd.first h.ok.ne
  obtain ⟨_, h5, _⟩ := h4 M (fun _ _ e => e)
  simp (maxDischargeDepth := 80) only [push_cast, Nat.reduceBEq, reduceIte, reduceCtorEq, Nat.reduceEqDiff, Nat.reduceAdd, Nat.reduceMul, Nat.reduceSub, Nat.reduceLeDiff, Nat.reduceLT, Nat.reducePow, Int.reduceToNat, Int.reduceLT, Int.reduceLE, Int.reduceEq, Int.reduceAdd, Int.reduceSub, Int.reduceNeg, h.obj, h1, h2, h5, h.ok.first, fresh_dn hM, fresh_at hM]

theorem first_E {il ia v g} (s : Id) (M : Mem) (hM : FreshM s M) (h : LogAt M il ia v g) : Fn env false 157 [.ptr il 0] s M = some (.int .i64 (g.base + 1), M) := by
  rw [Fn_body Tryz.func157 (by decide) rfl rfl]
  have r1 := fun s' M' (q1 : FreshM s' M') (q2 : Sub M M') => base_E s' M' q1 (h.mono q2)
  have w1 : IntKind.wrap .i64 (g.base + 1) = g.base + 1 := wrap_id (by have := h.ok.lo; omega) (by have := h.ok.hi; omega)
  simp (maxDischargeDepth := 80) only [push_cast, Nat.reduceBEq, reduceIte, reduceCtorEq, Nat.reduceEqDiff, Nat.reduceAdd, Nat.reduceMul, Nat.reduceSub, Nat.reduceLeDiff, Nat.reduceLT, Nat.reducePow, Int.reduceToNat, Int.reduceLT, Int.reduceLE, Int.reduceEq, Int.reduceAdd, Int.reduceSub, Int.reduceNeg, r1, w1, fresh_dn hM, fresh_at hM]

theorem last_E {il ia v g} (s : Id) (M : Mem) (hM : FreshM s M) (h : LogAt M il ia v g) : Fn env false 39 [.ptr il 0] s M = some (.int .i64 g.last, M) := by
  rw [Fn_body Tryz.func39 (by decide) rfl rfl]
  have r1 := fun s' M' (q1 : FreshM s' M') (q2 : Sub M M') => base_E s' M' q1 (h.mono q2)
  have hlo := h.ok.lo
  have hhi := h.ok.hi
  have w1 : IntKind.wrap .i64 (g.base + g.ents.length) = g.base + g.ents.length := wrap_id (by omega) (by omega)
  have w2 : IntKind.wrap .i64 (g.base + g.ents.length - 1) = g.base + g.ents.length - 1 := wrap_id (by omega) (by omega)
  simp (maxDischargeDepth := 80) only [push_cast, Nat.reduceBEq, reduceIte, reduceCtorEq, Nat.reduceEqDiff, Nat.reduceAdd, Nat.reduceMul, Nat.reduceSub, Nat.reduceLeDiff, Nat.reduceLT, Nat.reducePow, Int.reduceToNat, Int.reduceLT, Int.reduceLE, Int.reduceEq, Int.reduceAdd, Int.reduceSub, Int.reduceNeg, r1, h.obj, h.ents.rd.len, w1, w2, fresh_dn hM, fresh_at hM, Lg.last]

theorem has_E {il ia v g} (i : Int) (s : Id) (M : Mem) (hM : FreshM s M) (h : LogAt M il ia v g) : Fn env false 114 [.ptr il 0, .int .i64 i] s M = some (.bool (g.has i), M) := by
  rw [Fn_body Tryz.func114 (by decide) rfl rfl]
  have r1 := fun s' M' (q1 : FreshM s' M') (q2 : Sub M M') => base_E s' M' q1 (h.mono q2)
  have r2 := fun s' M' (q1 : FreshM s' M') (q2 : Sub M M') => last_E s' M' q1 (h.mono q2)
  by_cases c : g.base ≤ i <;> simp (maxDischargeDepth := 80) only [push_cast, Nat.reduceBEq, reduceIte, reduceCtorEq, Nat.reduceEqDiff, Nat.reduceAdd, Nat.reduceMul, Nat.reduceSub, Nat.reduceLeDiff, Nat.reduceLT, Nat.reducePow, Int.reduceToNat, Int.reduceLT, Int.reduceLE, Int.reduceEq, Int.reduceAdd, Int.reduceSub, Int.reduceNeg, r1, r2, c, fresh_dn hM, fresh_at hM, Lg.has]

theorem Lg.has_iff {g : Lg} {i : Int} : g.has i = true ↔ g.base ≤ i ∧ i ≤ g.last := by simp [Lg.has]

theorem from_E {M il ia v g} (i : Int) (h : LogAt M il ia v g) (hi : g.base ≤ i ∧ i ≤ g.last + 1) :
    ∃ v', EntsV M v' (g.ents.drop (i - g.base).toNat) ∧ ∀ s M', FreshM s M' → Sub M M' → Fn env false 115 [.ptr il 0, .int .i64 i] s M' = some (v', M') := by
  have hlo := h.ok.lo
  have hhi := h.ok.hi
  have hl : g.last = g.base + g.ents.length - 1 := rfl
  obtain ⟨v', hv1, hv2⟩ := h.ents.from_ (i - g.base).toNat (by omega)
  refine ⟨v', hv2, fun s M' hM hS => ?_⟩
  rw [Fn_body Tryz.func115 (by decide) rfl rfl]
  have h' := h.mono hS
  have r1 := fun s' M'' (q1 : FreshM s' M'') (q2 : Sub M' M'') => base_E s' M'' q1 (h'.mono q2)
  have w1 : IntKind.wrap .i64 (i - g.base) = i - g.base := wrap_id (by omega) (by omega)
  rw [Int.toNat_of_nonneg (by omega)] at hv1
  simp (maxDischargeDepth := 80) only [push_cast, Nat.reduceBEq, reduceIte, reduceCtorEq, Nat.reduceEqDiff, Nat.reduceAdd, Nat.reduceMul, Nat.reduceSub, Nat.reduceLeDiff, Nat.reduceLT, Nat.reducePow, Int.reduceToNat, Int.reduceLT, Int.reduceLE, Int.reduceEq, Int.reduceAdd, Int.reduceSub, Int.reduceNeg, r1, h'.obj, w1, hv1, fresh_dn hM, fresh_at hM]

theorem term_E {il ia v g} (i : Int) (s : Id) (M : Mem) (hM : FreshM s M) (h : LogAt M il ia v g) :
    Fn env false 100 [.ptr il 0, .int .i64 i] s M = some (.tup [.int .i64 (g.termOf i), .bool (g.has i)], M) := by
  rw [Fn_body Tryz.func100 (by decide) rfl rfl]
  have r1 := fun s' M' (q1 : FreshM s' M') (q2 : Sub M M') => has_E i s' M' q1 (h.mono q2)
  cases c : g.has i with
  | false => simp (maxDischargeDepth := 80) only [push_cast, Nat.reduceBEq, reduceIte, reduceCtorEq, Nat.reduceEqDiff, Nat.reduceAdd, Nat.reduceMul, Nat.reduceSub, Nat.reduceLeDiff, Nat.reduceLT, Nat.reducePow, Int.reduceToNat, Int.reduceLT, Int.reduceLE, Int.reduceEq, Int.reduceAdd, Int.reduceSub, Int.reduceNeg, r1, c, fresh_dn hM, fresh_at hM, Lg.termOf]
  | true =>
    have hc := Lg.has_iff.1 c
    have hl : g.last = g.base + g.ents.length - 1 := rfl
    have hlo := h.ok.lo
    obtain ⟨v', e2, e1⟩ := from_E i h ⟨by omega, by omega⟩
    have hlen : 0 < (g.ents.drop (i - g.base).toNat).length := by rw [List.length_drop]; omega
    obtain ⟨p, q0, q1, h1, h2, h3, h4⟩ := e2.rd.first hlen
    obtain ⟨_, _, h5⟩ := h4 M (fun _ _ e => e)
    have h6 : ((g.ents.drop (i - g.base).toNat)[0]'hlen).term = g.termOf i := by
      rw [List.getElem_drop, Lg.termOf, if_pos c, Lg.at_, List.getD_eq_getElem?_getD, List.getElem?_eq_getElem (by omega)]; rfl
    rw [h6] at h5
    simp (maxDischargeDepth := 80) only [push_cast, Nat.reduceBEq, reduceIte, reduceCtorEq, Nat.reduceEqDiff, Nat.reduceAdd, Nat.reduceMul, Nat.reduceSub, Nat.reduceLeDiff, Nat.reduceLT, Nat.reducePow, Int.reduceToNat, Int.reduceLT, Int.reduceLE, Int.reduceEq, Int.reduceAdd, Int.reduceSub, Int.reduceNeg, r1, c, e1, h1, h3, h5, fresh_dn hM, fresh_at hM]

theorem com_E {il ia v g} (s : Id) (M : Mem) (hM : FreshM s M) (h : LogAt M il ia v g) : Fn env false 50 [.ptr il 0] s M = some (.int .i64 g.com, M) := by
  rw [Fn_body Tryz.func50 (by decide) rfl rfl]
  simp (maxDischargeDepth := 80) only [push_cast, Nat.reduceBEq, reduceIte, reduceCtorEq, Nat.reduceEqDiff, Nat.reduceAdd, Nat.reduceMul, Nat.reduceSub, Nat.reduceLeDiff, Nat.reduceLT, Nat.reducePow, Int.reduceToNat, Int.reduceLT, Int.reduceLE, Int.reduceEq, Int.reduceAdd, Int.reduceSub, Int.reduceNeg, h.obj, fresh_dn hM, fresh_at hM]
theorem app_E {il ia v g} (s : Id) (M : Mem) (hM : FreshM s M) (h : LogAt M il ia v g) : Fn env false 155 [.ptr il 0] s M = some (.int .i64 g.app, M) := by
  rw [Fn_body Tryz.func155 (by decide) rfl rfl]
  simp (maxDischargeDepth := 80) only [push_cast, Nat.reduceBEq, reduceIte, reduceCtorEq, Nat.reduceEqDiff, Nat.reduceAdd, Nat.reduceMul, Nat.reduceSub, Nat.reduceLeDiff, Nat.reduceLT, Nat.reducePow, Int.reduceToNat, Int.reduceLT, Int.reduceLE, Int.reduceEq, Int.reduceAdd, Int.reduceSub, Int.reduceNeg, h.obj, fresh_dn hM, fresh_at hM]
theorem tail_E {il ia v g} (s : Id) (M : Mem) (hM : FreshM s M) (h : LogAt M il ia v g) : Fn env false 86 [.ptr il 0] s M = some (.agg (g.at_ g.last).cells, M) := by
  rw [Fn_body Tryz.func86 (by decide) rfl rfl]
  have hlo := h.ok.lo
  have hhi := h.ok.hi
  have hne := h.ok.ne
  have w1 : IntKind.wrap .i64 ((g.ents.length : Int) - 1) = ((g.ents.length - 1 : Nat) : Int) := by rw [wrap_id (by omega) (by omega)]; omega
  obtain ⟨p, q0, q1, h1, h2, h3, h4⟩ := h.ents.rd.get (g.ents.length - 1) (by omega)
  have h5 : g.ents[g.ents.length - 1]'(by omega) = g.at_ g.last := by
    rw [Lg.at_, Lg.last, List.getD_eq_getElem?_getD, List.getElem?_eq_getElem (by omega)]
    simp only [Option.getD_some]; congr 1; omega
  rw [h5] at h4
  have h6 := fun M' q => (h4 M' q).1
  simp (maxDischargeDepth := 80) only [push_cast, Nat.reduceBEq, reduceIte, reduceCtorEq, Nat.reduceEqDiff, Nat.reduceAdd, Nat.reduceMul, Nat.reduceSub, Nat.reduceLeDiff, Nat.reduceLT, Nat.reducePow, Int.reduceToNat, Int.reduceLT, Int.reduceLE, Int.reduceEq, Int.reduceAdd, Int.reduceSub, Int.reduceNeg, h.obj, Off_dn (Off_of hM h.obj), Off_ne (Off_of hM h.obj), Off_ne' (Off_of hM h.obj), h.ents.rd.len, w1, h1, h6, Ent.cells_eq, one_data, fresh_dn hM, fresh_at hM]
end Go.Ab.R

/- Entries put into the log. Conditions: none. -/
namespace Go.Ab.R
open Go Go.Proofs
set_option maxRecDepth 100000

def idxE (p : Ent → Bool) : List Ent → Nat → Int
  | [], _ => -1
  | x :: l, j => if p x then j else idxE p l (j + 1)
theorem idxE_neg (p : Ent → Bool) (l : List Ent) (j : Nat) : decide (0 ≤ idxE p l j) = l.any p := by
  induction l generalizing j with
  | nil => simp [idxE]
  | cons x l ih =>
    simp only [idxE]
    by_cases h : p x = true
    · simp [h]
    · simp only [if_neg h, ih]; simp [h]

theorem idxFn_E (v : V) (l : List Ent) (g : FuncId) (caps : List V) (p : Ent → Bool) (s : Id) (M : Mem) (hM : FreshM s M) (hv : RdE M v l) (hl : l.length < 2 ^ 40)
    (hp : ∀ e ∈ l, ∀ s' M', FreshM s' M' → Sub M M' → Fn env (env.fz 119 g) g (.agg e.cells :: caps) s' M' = some (.bool (p e), M')) :
    Fn env false 119 [v, .fn (.func g) [] caps] s M = some (.int .i64 (idxE p l 0), M) := by
  rw [Fn_body Tryz.func119 (by decide) rfl rfl]
  simp (maxDischargeDepth := 80) only [push_cast, Nat.reduceBEq, reduceIte, reduceCtorEq, Nat.reduceEqDiff, Nat.reduceAdd, Nat.reduceMul, Nat.reduceSub, Nat.reduceLeDiff, Nat.reduceLT, Nat.reducePow, Int.reduceToNat, Int.reduceLT, Int.reduceLE, Int.reduceEq, Int.reduceAdd, Int.reduceSub, Int.reduceNeg, hv.len]
  refine lp_rule (fun s1 j f M' => f 0 = v ∧ f 1 = .fn (.func g) [] caps ∧ f 7 = .int .i64 l.length ∧ f 8 = .int .i64 j ∧ idxE p l 0 = idxE p (l.drop j) j ∧ Sub M M' ∧ ∀ k, j ≤ k → FreshM (k :: s1) M') l.length ?_ (Nat.zero_le _) ?_ ?_
  · refine ⟨?_, ?_, ?_, ?_, ?_, ?_, ?_⟩ <;> simp (maxDischargeDepth := 80) only [push_cast, Nat.reduceBEq, reduceIte, reduceCtorEq, Nat.reduceEqDiff, Nat.reduceAdd, Nat.reduceMul, Nat.reduceSub, Nat.reduceLeDiff, Nat.reduceLT, Nat.reducePow, Int.reduceToNat, Int.reduceLT, Int.reduceLE, Int.reduceEq, Int.reduceAdd, Int.reduceSub, Int.reduceNeg]
    intro k _; simp (maxDischargeDepth := 80) only [push_cast, Nat.reduceBEq, reduceIte, reduceCtorEq, Nat.reduceEqDiff, Nat.reduceAdd, Nat.reduceMul, Nat.reduceSub, Nat.reduceLeDiff, Nat.reduceLT, Nat.reducePow, Int.reduceToNat, Int.reduceLT, Int.reduceLE, Int.reduceEq, Int.reduceAdd, Int.reduceSub, Int.reduceNeg, fresh_dn hM, fresh_at hM]
  · rintro j f M' hj ⟨h0, h1, h7, h8, hr, hsub, hF⟩ ih
    obtain ⟨q, hp1, hp2⟩ := hv.get j hj
    have hp3 := hp2 M' hsub
    have hjj : ((j : Int) < (l.length : Int)) = True := by simp; omega
    have hx : l.drop j = l[j] :: l.drop (j + 1) := List.drop_eq_getElem_cons hj
    have hFj := hF j (Nat.le_refl _)
    have hpp := fun s' M'' (q1 : FreshM s' M'') (q2 : Sub M' M'') => hp l[j] (List.getElem_mem hj) s' M'' q1 (sub_trans hsub q2)
    cases c1 : p l[j] with
    | true =>
      have e : idxE p l 0 = j := by rw [hr, hx, idxE, if_pos c1]
      rw [Ent.cells_eq] at hp3
      simp only [Ent.cells_eq] at hpp
      simp (maxDischargeDepth := 80) only [push_cast, Nat.reduceBEq, reduceIte, reduceCtorEq, Nat.reduceEqDiff, Nat.reduceAdd, Nat.reduceMul, Nat.reduceSub, Nat.reduceLeDiff, Nat.reduceLT, Nat.reducePow, Int.reduceToNat, Int.reduceLT, Int.reduceLE, Int.reduceEq, Int.reduceAdd, Int.reduceSub, Int.reduceNeg, h0, h1, h7, h8, hp1, hp3, hjj, hpp, c1, one_data, e, hsub, fresh_dn hFj, fresh_at hFj, fresh_dn hM, fresh_at hM]
    | false =>
      rw [Ent.cells_eq] at hp3
      simp only [Ent.cells_eq] at hpp
      simp (maxDischargeDepth := 80) only [push_cast, Nat.reduceBEq, reduceIte, reduceCtorEq, Nat.reduceEqDiff, Nat.reduceAdd, Nat.reduceMul, Nat.reduceSub, Nat.reduceLeDiff, Nat.reduceLT, Nat.reducePow, Int.reduceToNat, Int.reduceLT, Int.reduceLE, Int.reduceEq, Int.reduceAdd, Int.reduceSub, Int.reduceNeg, h0, h1, h7, h8, hp1, hp3, hjj, hpp, c1, one_data, fresh_dn hFj, fresh_at hFj, fresh_dn hM, fresh_at hM]
      refine ih _ _ ⟨?_, ?_, ?_, ?_, ?_, ?_, ?_⟩
      · simp (maxDischargeDepth := 80) only [push_cast, Nat.reduceBEq, reduceIte, reduceCtorEq, Nat.reduceEqDiff, Nat.reduceAdd, Nat.reduceMul, Nat.reduceSub, Nat.reduceLeDiff, Nat.reduceLT, Nat.reducePow, Int.reduceToNat, Int.reduceLT, Int.reduceLE, Int.reduceEq, Int.reduceAdd, Int.reduceSub, Int.reduceNeg, h0]
      · simp (maxDischargeDepth := 80) only [push_cast, Nat.reduceBEq, reduceIte, reduceCtorEq, Nat.reduceEqDiff, Nat.reduceAdd, Nat.reduceMul, Nat.reduceSub, Nat.reduceLeDiff, Nat.reduceLT, Nat.reducePow, Int.reduceToNat, Int.reduceLT, Int.reduceLE, Int.reduceEq, Int.reduceAdd, Int.reduceSub, Int.reduceNeg, h1]
      · simp (maxDischargeDepth := 80) only [push_cast, Nat.reduceBEq, reduceIte, reduceCtorEq, Nat.reduceEqDiff, Nat.reduceAdd, Nat.reduceMul, Nat.reduceSub, Nat.reduceLeDiff, Nat.reduceLT, Nat.reducePow, Int.reduceToNat, Int.reduceLT, Int.reduceLE, Int.reduceEq, Int.reduceAdd, Int.reduceSub, Int.reduceNeg, h7]
      · simp (maxDischargeDepth := 80) only [push_cast, Nat.reduceBEq, reduceIte, reduceCtorEq, Nat.reduceEqDiff, Nat.reduceAdd, Nat.reduceMul, Nat.reduceSub, Nat.reduceLeDiff, Nat.reduceLT, Nat.reducePow, Int.reduceToNat, Int.reduceLT, Int.reduceLE, Int.reduceEq, Int.reduceAdd, Int.reduceSub, Int.reduceNeg, h8]
        exact congrArg (V.int IntKind.i64) (wrap_nat j (by omega))
      · rw [hr, hx, idxE, if_neg (by simp [c1])]
      · simp (maxDischargeDepth := 80) only [push_cast, Nat.reduceBEq, reduceIte, reduceCtorEq, Nat.reduceEqDiff, Nat.reduceAdd, Nat.reduceMul, Nat.reduceSub, Nat.reduceLeDiff, Nat.reduceLT, Nat.reducePow, Int.reduceToNat, Int.reduceLT, Int.reduceLE, Int.reduceEq, Int.reduceAdd, Int.reduceSub, Int.reduceNeg, hsub, fresh_dn hM, fresh_at hM]
      · intro k hk
        simp (maxDischargeDepth := 80) only [push_cast, Nat.reduceBEq, reduceIte, reduceCtorEq, Nat.reduceEqDiff, Nat.reduceAdd, Nat.reduceMul, Nat.reduceSub, Nat.reduceLeDiff, Nat.reduceLT, Nat.reducePow, Int.reduceToNat, Int.reduceLT, Int.reduceLE, Int.reduceEq, Int.reduceAdd, Int.reduceSub, Int.reduceNeg, fresh_dn (hF k (by omega)), Off_deep (show k ≠ j by omega), eq_false (show ¬ k = j by omega)]
  · rintro f M' ⟨h0, h1, h7, h8, hr, hsub, hF⟩
    have hjj : ((l.length : Int) < (l.length : Int)) = False := by simp
    simp (maxDischargeDepth := 80) only [push_cast, Nat.reduceBEq, reduceIte, reduceCtorEq, Nat.reduceEqDiff, Nat.reduceAdd, Nat.reduceMul, Nat.reduceSub, Nat.reduceLeDiff, Nat.reduceLT, Nat.reducePow, Int.reduceToNat, Int.reduceLT, Int.reduceLE, Int.reduceEq, Int.reduceAdd, Int.reduceSub, Int.reduceNeg, h0, h1, h7, h8, hjj, hsub]
    rw [hr]
    simp [idxE]

theorem contFn_E (v : V) (l : List Ent) (g : FuncId) (caps : List V) (p : Ent → Bool) (s : Id) (M : Mem) (hM : FreshM s M) (hv : RdE M v l) (hl : l.length < 2 ^ 40)
    (hp : ∀ e ∈ l, ∀ s' M', FreshM s' M' → Sub M M' → Fn env (env.fz 119 g) g (.agg e.cells :: caps) s' M' = some (.bool (p e), M')) :
    Fn env false 56 [v, .fn (.func g) [] caps] s M = some (.bool (l.any p), M) := by
  rw [Fn_body Tryz.func56 (by decide) rfl rfl]
  have r1 := fun s' M' (q1 : FreshM s' M') (q2 : Sub M M') => idxFn_E v l g caps p s' M' q1 (hv.mono q2) hl (fun e he s'' M'' k1 k2 => hp e he s'' M'' k1 (sub_trans q2 k2))
  simp (maxDischargeDepth := 80) only [push_cast, Nat.reduceBEq, reduceIte, reduceCtorEq, Nat.reduceEqDiff, Nat.reduceAdd, Nat.reduceMul, Nat.reduceSub, Nat.reduceLeDiff, Nat.reduceLT, Nat.reducePow, Int.reduceToNat, Int.reduceLT, Int.reduceLE, Int.reduceEq, Int.reduceAdd, Int.reduceSub, Int.reduceNeg, r1, idxE_neg, fresh_dn hM, fresh_at hM]

def copiedV : List Ent → V
  | [] => .nils
  | l => .psl (flatE l) l.length false
theorem copiedV_nil : copiedV [] = .nils := rfl
theorem copiedV_cons (x : Ent) (l : List Ent) : copiedV (x :: l) = .psl (flatE (x :: l)) (l.length + 1) false := rfl
theorem fz_copied (M : Mem) (l : List Ent) : freezeV M (copiedV l) = some (copiedV l, M) := by cases l <;> rfl
theorem copiedV_ents (M : Mem) (l : List Ent) : EntsV M (copiedV l) l := by
  cases l with
  | nil => exact .nils
  | cons x l => exact .psl _ _

/-- what is being put together -/
inductive Grown (M0 M : Mem) : V → List Ent → Prop
  | nils : Grown M0 M .nils []
  | sl (i : Id) (n : Nat) (cs : List V) (l : List Ent) (hn : l.length = n) (hc : cs = flatE l) (hp : 0 < n) (h : M i = some (.cells cs)) (h0 : M0 i = none) : Grown M0 M (.sl i 0 n 4 none) l
theorem Sub_del' {M M' : Mem} {t : Id} (hn : M t = none) (h : Sub M M') : Sub M (M'.del t) := Sub_del h hn

theorem copied_E (v : V) (l : List Ent) (s : Id) (M : Mem) (hM : FreshM s M) (hv : RdE M v l) (hl : l.length ≤ 2 ^ 35) (hd : ∀ e ∈ l, dlen e.data ≤ mostLen) :
    Fn env true 87 [v] s M = some (copiedV l, M) := by
  rw [Fn_body Tryz.func87 (by decide) rfl rfl]
  simp (maxDischargeDepth := 80) only [push_cast, Nat.reduceBEq, reduceIte, reduceCtorEq, Nat.reduceEqDiff, Nat.reduceAdd, Nat.reduceMul, Nat.reduceSub, Nat.reduceLeDiff, Nat.reduceLT, Nat.reducePow, Int.reduceToNat, Int.reduceLT, Int.reduceLE, Int.reduceEq, Int.reduceAdd, Int.reduceSub, Int.reduceNeg, hv.len]
  refine lp_rule (fun s1 j f M' => ∃ o, f 3 = o ∧ f 6 = v ∧ f 7 = .int .i64 l.length ∧ f 8 = .int .i64 j ∧ Grown M M' o (l.take j) ∧ Sub M M' ∧ ∀ k, j ≤ k → FreshM (k :: s1) M') l.length ?_ (Nat.zero_le _) ?_ ?_
  · refine ⟨.nils, ?_, ?_, ?_, ?_, ?_, ?_, ?_⟩ <;> simp (maxDischargeDepth := 80) only [push_cast, Nat.reduceBEq, reduceIte, reduceCtorEq, Nat.reduceEqDiff, Nat.reduceAdd, Nat.reduceMul, Nat.reduceSub, Nat.reduceLeDiff, Nat.reduceLT, Nat.reducePow, Int.reduceToNat, Int.reduceLT, Int.reduceLE, Int.reduceEq, Int.reduceAdd, Int.reduceSub, Int.reduceNeg]
    · exact .nils
    · intro k _; simp (maxDischargeDepth := 80) only [push_cast, Nat.reduceBEq, reduceIte, reduceCtorEq, Nat.reduceEqDiff, Nat.reduceAdd, Nat.reduceMul, Nat.reduceSub, Nat.reduceLeDiff, Nat.reduceLT, Nat.reducePow, Int.reduceToNat, Int.reduceLT, Int.reduceLE, Int.reduceEq, Int.reduceAdd, Int.reduceSub, Int.reduceNeg, fresh_dn hM, fresh_at hM]
  · rintro j f M' hj ⟨o, h3, h6, h7, h8, hg, hsub, hF⟩ ih
    obtain ⟨q, hp1, hp2⟩ := hv.get j hj
    have hp3 := hp2 M' hsub
    have hjj : ((j : Int) < (l.length : Int)) = True := by simp; omega
    have hFj := hF j (Nat.le_refl _)
    have hcl := fun s' M'' (q1 : FreshM s' M'') => cloneB_E l[j].data (fun b hb => by have := hd l[j] (List.getElem_mem hj); rw [hb] at this; exact this) s' M'' q1
    rw [Ent.cells_eq] at hp3
    have hstep : flatE (l.take (j + 1)) = flatE (l.take j) ++ [.int .i64 l[j].index, .int .i64 l[j].term, .int .i64 l[j].kind, dataV l[j].data] := by
      rw [List.take_succ_eq_append_getElem hj, flatE_append]; simp [flatE, Ent.cells]
    have cdata : (dataV l[j].data).cells = [dataV l[j].data] := by cases l[j].data <;> rfl
    generalize hlj : l.take j = lj at hg hstep
    have hljl : lj.length = j := by rw [← hlj, List.length_take]; omega
    cases hg with
    | nils =>
      simp (maxDischargeDepth := 80) only [push_cast, Nat.reduceBEq, reduceIte, reduceCtorEq, Nat.reduceEqDiff, Nat.reduceAdd, Nat.reduceMul, Nat.reduceSub, Nat.reduceLeDiff, Nat.reduceLT, Nat.reducePow, Int.reduceToNat, Int.reduceLT, Int.reduceLE, Int.reduceEq, Int.reduceAdd, Int.reduceSub, Int.reduceNeg, h3, h6, h7, h8, hp1, hp3, hjj, one_data, cdata, hcl, fresh_dn hFj, fresh_at hFj, fresh_dn hM, fresh_at hM, mostLen]
      refine ih _ _ ⟨_, rfl, ?_, ?_, ?_, ?_, ?_, ?_⟩
      · simp (maxDischargeDepth := 80) only [push_cast, Nat.reduceBEq, reduceIte, reduceCtorEq, Nat.reduceEqDiff, Nat.reduceAdd, Nat.reduceMul, Nat.reduceSub, Nat.reduceLeDiff, Nat.reduceLT, Nat.reducePow, Int.reduceToNat, Int.reduceLT, Int.reduceLE, Int.reduceEq, Int.reduceAdd, Int.reduceSub, Int.reduceNeg, h6]
      · simp (maxDischargeDepth := 80) only [push_cast, Nat.reduceBEq, reduceIte, reduceCtorEq, Nat.reduceEqDiff, Nat.reduceAdd, Nat.reduceMul, Nat.reduceSub, Nat.reduceLeDiff, Nat.reduceLT, Nat.reducePow, Int.reduceToNat, Int.reduceLT, Int.reduceLE, Int.reduceEq, Int.reduceAdd, Int.reduceSub, Int.reduceNeg, h7]
      · simp (maxDischargeDepth := 80) only [push_cast, Nat.reduceBEq, reduceIte, reduceCtorEq, Nat.reduceEqDiff, Nat.reduceAdd, Nat.reduceMul, Nat.reduceSub, Nat.reduceLeDiff, Nat.reduceLT, Nat.reducePow, Int.reduceToNat, Int.reduceLT, Int.reduceLE, Int.reduceEq, Int.reduceAdd, Int.reduceSub, Int.reduceNeg, h8]
        exact congrArg (V.int IntKind.i64) (wrap_nat j (by omega))
      · simp (maxDischargeDepth := 80) only [push_cast, Nat.reduceBEq, reduceIte, reduceCtorEq, Nat.reduceEqDiff, Nat.reduceAdd, Nat.reduceMul, Nat.reduceSub, Nat.reduceLeDiff, Nat.reduceLT, Nat.reducePow, Int.reduceToNat, Int.reduceLT, Int.reduceLE, Int.reduceEq, Int.reduceAdd, Int.reduceSub, Int.reduceNeg]
        refine .sl _ _ _ _ (by rw [List.length_take]; simp at hljl; omega) hstep.symm (by omega) ?_ ?_
        · simp (maxDischargeDepth := 80) only [push_cast, Nat.reduceBEq, reduceIte, reduceCtorEq, Nat.reduceEqDiff, Nat.reduceAdd, Nat.reduceMul, Nat.reduceSub, Nat.reduceLeDiff, Nat.reduceLT, Nat.reducePow, Int.reduceToNat, Int.reduceLT, Int.reduceLE, Int.reduceEq, Int.reduceAdd, Int.reduceSub, Int.reduceNeg, flatE_nil]
        · simp (maxDischargeDepth := 80) only [push_cast, Nat.reduceBEq, reduceIte, reduceCtorEq, Nat.reduceEqDiff, Nat.reduceAdd, Nat.reduceMul, Nat.reduceSub, Nat.reduceLeDiff, Nat.reduceLT, Nat.reducePow, Int.reduceToNat, Int.reduceLT, Int.reduceLE, Int.reduceEq, Int.reduceAdd, Int.reduceSub, Int.reduceNeg, fresh_dn hM, fresh_at hM]
      · simp (maxDischargeDepth := 80) only [push_cast, Nat.reduceBEq, reduceIte, reduceCtorEq, Nat.reduceEqDiff, Nat.reduceAdd, Nat.reduceMul, Nat.reduceSub, Nat.reduceLeDiff, Nat.reduceLT, Nat.reducePow, Int.reduceToNat, Int.reduceLT, Int.reduceLE, Int.reduceEq, Int.reduceAdd, Int.reduceSub, Int.reduceNeg, hsub, fresh_dn hM, fresh_at hM]
      · intro k hk
        simp (maxDischargeDepth := 80) only [push_cast, Nat.reduceBEq, reduceIte, reduceCtorEq, Nat.reduceEqDiff, Nat.reduceAdd, Nat.reduceMul, Nat.reduceSub, Nat.reduceLeDiff, Nat.reduceLT, Nat.reducePow, Int.reduceToNat, Int.reduceLT, Int.reduceLE, Int.reduceEq, Int.reduceAdd, Int.reduceSub, Int.reduceNeg, fresh_dn (hF k (by omega)), Off_deep (show k ≠ j by omega), eq_false (show ¬ k = j by omega)]
    | sl i n cs lj hn hc hp h h0 =>
      have hcl' : cs.length = n * 4 := by rw [hc, flatE_len, hn]
      have hn2 : n + 1 ≤ 68719476736 := by omega
      simp (maxDischargeDepth := 80) only [push_cast, Nat.reduceBEq, reduceIte, reduceCtorEq, Nat.reduceEqDiff, Nat.reduceAdd, Nat.reduceMul, Nat.reduceSub, Nat.reduceLeDiff, Nat.reduceLT, Nat.reducePow, Int.reduceToNat, Int.reduceLT, Int.reduceLE, Int.reduceEq, Int.reduceAdd, Int.reduceSub, Int.reduceNeg, h3, h6, h7, h8, hp1, hp3, hjj, one_data, cdata, hcl, h, Off_dn (Off_of hFj h), Off_ne (Off_of hFj h), Off_ne' (Off_of hFj h), h0, hcl', hn2, fresh_dn hFj, fresh_at hFj, fresh_dn hM, fresh_at hM, mostLen]
      refine ih _ _ ⟨_, rfl, ?_, ?_, ?_, ?_, ?_, ?_⟩
      · simp (maxDischargeDepth := 80) only [push_cast, Nat.reduceBEq, reduceIte, reduceCtorEq, Nat.reduceEqDiff, Nat.reduceAdd, Nat.reduceMul, Nat.reduceSub, Nat.reduceLeDiff, Nat.reduceLT, Nat.reducePow, Int.reduceToNat, Int.reduceLT, Int.reduceLE, Int.reduceEq, Int.reduceAdd, Int.reduceSub, Int.reduceNeg, h6]
      · simp (maxDischargeDepth := 80) only [push_cast, Nat.reduceBEq, reduceIte, reduceCtorEq, Nat.reduceEqDiff, Nat.reduceAdd, Nat.reduceMul, Nat.reduceSub, Nat.reduceLeDiff, Nat.reduceLT, Nat.reducePow, Int.reduceToNat, Int.reduceLT, Int.reduceLE, Int.reduceEq, Int.reduceAdd, Int.reduceSub, Int.reduceNeg, h7]
      · simp (maxDischargeDepth := 80) only [push_cast, Nat.reduceBEq, reduceIte, reduceCtorEq, Nat.reduceEqDiff, Nat.reduceAdd, Nat.reduceMul, Nat.reduceSub, Nat.reduceLeDiff, Nat.reduceLT, Nat.reducePow, Int.reduceToNat, Int.reduceLT, Int.reduceLE, Int.reduceEq, Int.reduceAdd, Int.reduceSub, Int.reduceNeg, h8]
        exact congrArg (V.int IntKind.i64) (wrap_nat j (by omega))
      · simp (maxDischargeDepth := 80) only [push_cast, Nat.reduceBEq, reduceIte, reduceCtorEq, Nat.reduceEqDiff, Nat.reduceAdd, Nat.reduceMul, Nat.reduceSub, Nat.reduceLeDiff, Nat.reduceLT, Nat.reducePow, Int.reduceToNat, Int.reduceLT, Int.reduceLE, Int.reduceEq, Int.reduceAdd, Int.reduceSub, Int.reduceNeg]
        refine .sl _ _ _ _ (by rw [List.length_take]; omega) (hstep.symm) (by omega) ?_ ?_
        · simp (maxDischargeDepth := 80) only [push_cast, Nat.reduceBEq, reduceIte, reduceCtorEq, Nat.reduceEqDiff, Nat.reduceAdd, Nat.reduceMul, Nat.reduceSub, Nat.reduceLeDiff, Nat.reduceLT, Nat.reducePow, Int.reduceToNat, Int.reduceLT, Int.reduceLE, Int.reduceEq, Int.reduceAdd, Int.reduceSub, Int.reduceNeg, hc]
        · simp (maxDischargeDepth := 80) only [push_cast, Nat.reduceBEq, reduceIte, reduceCtorEq, Nat.reduceEqDiff, Nat.reduceAdd, Nat.reduceMul, Nat.reduceSub, Nat.reduceLeDiff, Nat.reduceLT, Nat.reducePow, Int.reduceToNat, Int.reduceLT, Int.reduceLE, Int.reduceEq, Int.reduceAdd, Int.reduceSub, Int.reduceNeg, fresh_dn hM, fresh_at hM]
      · simp (maxDischargeDepth := 80) only [push_cast, Nat.reduceBEq, reduceIte, reduceCtorEq, Nat.reduceEqDiff, Nat.reduceAdd, Nat.reduceMul, Nat.reduceSub, Nat.reduceLeDiff, Nat.reduceLT, Nat.reducePow, Int.reduceToNat, Int.reduceLT, Int.reduceLE, Int.reduceEq, Int.reduceAdd, Int.reduceSub, Int.reduceNeg, hsub, h0, fresh_dn hM, fresh_at hM]
      · intro k hk
        simp (maxDischargeDepth := 80) only [push_cast, Nat.reduceBEq, reduceIte, reduceCtorEq, Nat.reduceEqDiff, Nat.reduceAdd, Nat.reduceMul, Nat.reduceSub, Nat.reduceLeDiff, Nat.reduceLT, Nat.reducePow, Int.reduceToNat, Int.reduceLT, Int.reduceLE, Int.reduceEq, Int.reduceAdd, Int.reduceSub, Int.reduceNeg, fresh_dn (hF k (by omega)), Off_deep (show k ≠ j by omega), eq_false (show ¬ k = j by omega), Off_of (hF k (by omega)) h]
  · rintro f M' ⟨o, h3, h6, h7, h8, hg, hsub, hF⟩
    have hjj : ((l.length : Int) < (l.length : Int)) = False := by simp
    rw [List.take_of_length_le (Nat.le_refl _)] at hg
    cases hg with
    | nils => simp (maxDischargeDepth := 80) only [push_cast, Nat.reduceBEq, reduceIte, reduceCtorEq, Nat.reduceEqDiff, Nat.reduceAdd, Nat.reduceMul, Nat.reduceSub, Nat.reduceLeDiff, Nat.reduceLT, Nat.reducePow, Int.reduceToNat, Int.reduceLT, Int.reduceLE, Int.reduceEq, Int.reduceAdd, Int.reduceSub, Int.reduceNeg, h3, h6, h7, h8, hjj, hsub, copiedV]
    | sl i n cs l hn hc hp h h0 =>
      have hcl' : cs.length = n * 4 := by rw [hc, flatE_len, hn]
      have hcv : copiedV l = .psl cs n false := by
        cases l with
        | nil => simp at hn; omega
        | cons x l => rw [copiedV_cons, hc, ← hn]; rfl
      simp (maxDischargeDepth := 80) only [push_cast, Nat.reduceBEq, reduceIte, reduceCtorEq, Nat.reduceEqDiff, Nat.reduceAdd, Nat.reduceMul, Nat.reduceSub, Nat.reduceLeDiff, Nat.reduceLT, Nat.reducePow, Int.reduceToNat, Int.reduceLT, Int.reduceLE, Int.reduceEq, Int.reduceAdd, Int.reduceSub, Int.reduceNeg, h3, h6, h7, h8, hjj, hsub, h, h0, hcl', hcv, take_len]
end Go.Ab.R

/- The log: new, put behind, read, committed. Conditions: none. -/
namespace Go.Ab.R
open Go Go.Proofs
set_option maxRecDepth 100000

/-- nothing else has changed but what lies under a place, and these -/
def FrM (s : Id) (X : List Id) (M M' : Mem) : Prop := ∀ i, Off s i → i ∉ X → M' i = M i
theorem FrM.refl (s X M) : FrM s X M M := fun _ _ _ => rfl
theorem FrM.trans {s X M M' M''} (h : FrM s X M M') (k : FrM s X M' M'') : FrM s X M M'' := fun i h1 h2 => (k i h1 h2).trans (h i h1 h2)
theorem FrM.fresh {s t X M M'} (h : FrM s X M M') (hf : FreshM t M) (ho : ∀ i, t <:+ i → Off s i ∧ i ∉ X) : FreshM t M' := fun i hi => (h i (ho i hi).1 (ho i hi).2).trans (hf i hi)

theorem followL_idx {l : List Ent} {i t : Int} (h : followL l i t = true) (ho : l.any oddL = false) (hi : 0 ≤ i) (hi2 : i ≤ 2 ^ 40) : (∀ j (hj : j < l.length), l[j].index = i + 1 + j) ∧ i + l.length ≤ 2 ^ 40 := by
  induction l generalizing i t with
  | nil => exact ⟨fun j hj => absurd hj (by simp), by simp; omega⟩
  | cons x l ih =>
    simp only [List.any_cons, Bool.or_eq_false_iff] at ho
    have hx := ho.1
    simp only [oddL, withinL, Bool.or_eq_false_iff, decide_eq_false_iff_not, Bool.not_eq_false', Bool.and_eq_true, decide_eq_true_eq] at hx
    simp only [followL] at h
    split at h
    · cases h
    · rename_i hc
      have hc1 : IntKind.wrap .i64 (x.index - 1) = i := by
        by_cases q : IntKind.wrap .i64 (x.index - 1) = i
        · exact q
        · exact absurd (.inl q) hc
      rw [wrap_id (by omega) (by omega)] at hc1
      obtain ⟨h1, h2⟩ := ih h ho.2 (by omega) (by omega)
      refine ⟨fun j hj => ?_, by simp only [List.length_cons]; omega⟩
      cases j with
      | zero => simp only [List.getElem_cons_zero]; omega
      | succ j => simp only [List.getElem_cons_succ]; rw [h1 j (by simpa using hj)]; omega

def Lg.addL (g : Lg) (l : List Ent) : Lg := { g with ents := g.ents ++ l }
def Lg.addE (g : Lg) (l : List Ent) : Int := if l.any oddL then 1 else if followL l g.last (g.at_ g.last).term then 0 else 7

theorem LgOk.add {g : Lg} (h : LgOk g) {l : List Ent} (ha : g.addE l = 0) (hn : g.ents.length + l.length ≤ 2 ^ 35) : LgOk (g.addL l) := by
  unfold Lg.addE at ha
  split at ha
  · cases ha
  rename_i ho
  split at ha
  · rename_i hf
    have hlo := h.lo
    have hhi := h.hi
    have hne := h.ne
    have ho' : l.any oddL = false := by simpa using ho
    obtain ⟨h1, h2⟩ := followL_idx hf ho' (by unfold Lg.last; omega) (by unfold Lg.last; omega)
    unfold Lg.last at h1 h2
    refine ⟨by simp [Lg.addL]; omega, fun j hj => ?_, hlo, by simp only [Lg.addL, List.length_append]; omega, by simp only [Lg.addL, List.length_append]; omega, fun e he => ?_⟩
    · simp only [Lg.addL] at hj ⊢
      by_cases hlt : j < g.ents.length
      · rw [List.getElem_append_left hlt]; exact h.idx j hlt
      · rw [List.getElem_append_right (by omega), h1]; simp only [List.length_append] at hj; omega
    · simp only [Lg.addL, List.mem_append] at he
      rcases he with he | he
      · exact h.data e he
      · have := List.any_eq_false.1 ho' e he
        simp only [oddL, Bool.or_eq_true, decide_eq_true_eq, not_or] at this
        omega
  · cases ha

theorem addE_data {l : List Ent} (h : l.any oddL = false) : ∀ e ∈ l, dlen e.data ≤ mostLen := fun e he => by
  have := List.any_eq_false.1 h e he
  simp only [oddL, Bool.or_eq_true, decide_eq_true_eq, not_or] at this
  unfold mostLen; omega

theorem add_E {M : Mem} {il ia v g w} {l : List Ent} (s : Id) (hM : FreshM s M) (h : LogAt M il ia v g) (hw : RdX M w l) (hn : g.ents.length + l.length ≤ 2 ^ 35) :
    ∃ M', Fn env false 34 [.ptr il 0, w] s M = some (.int .i64 (g.addE l), M') ∧
      (if g.addE l = 0 then ∃ ia' v', LogAt M' il ia' v' (g.addL l) ∧ FrM s [il, ia] M M' ∧ (ia' = ia ∨ Un s ia') else M' = M) := by
  have r1 := fun s' M' (q1 : FreshM s' M') (q2 : Sub M M') => contFn_E w l 84 [] oddL s' M' q1 (hw.toE.mono q2) (by omega) (fun e _ s'' M'' k1 k2 => odd_E e s'' M'' k1)
  have r2 := fun s' M' (q1 : FreshM s' M') (q2 : Sub M M') => last_E s' M' q1 (h.mono q2)
  have r3 := fun s' M' (q1 : FreshM s' M') (q2 : Sub M M') => tail_E s' M' q1 (h.mono q2)
  have r4 := fun s' M' (q1 : FreshM s' M') (q2 : Sub M M') => follow_E w l g.last (g.at_ g.last).term s' M' q1 (hw.toE.mono q2) (by omega)
  simp only [Ent.cells_eq] at r3
  cases c1 : l.any oddL with
  | true =>
    refine ⟨M, ?_, by simp [Lg.addE, c1]⟩
    rw [Fn_body Tryz.func34 (by decide) rfl rfl]
    simp (maxDischargeDepth := 80) only [push_cast, Nat.reduceBEq, reduceIte, reduceCtorEq, Nat.reduceEqDiff, Nat.reduceAdd, Nat.reduceMul, Nat.reduceSub, Nat.reduceLeDiff, Nat.reduceLT, Nat.reducePow, Int.reduceToNat, Int.reduceLT, Int.reduceLE, Int.reduceEq, Int.reduceAdd, Int.reduceSub, Int.reduceNeg, r1, c1, Lg.addE, fresh_dn hM, fresh_at hM]
  | false =>
  cases c2 : followL l g.last (g.at_ g.last).term with
  | false =>
    refine ⟨M, ?_, by simp [Lg.addE, c1, c2]⟩
    rw [Fn_body Tryz.func34 (by decide) rfl rfl]
    simp (maxDischargeDepth := 80) only [push_cast, Nat.reduceBEq, reduceIte, reduceCtorEq, Nat.reduceEqDiff, Nat.reduceAdd, Nat.reduceMul, Nat.reduceSub, Nat.reduceLeDiff, Nat.reduceLT, Nat.reducePow, Int.reduceToNat, Int.reduceLT, Int.reduceLE, Int.reduceEq, Int.reduceAdd, Int.reduceSub, Int.reduceNeg, r1, r2, r3, r4, c1, c2, Lg.addE, fresh_dn hM, fresh_at hM]
  | true =>
    have hz : g.addE l = 0 := by simp [Lg.addE, c1, c2]
    have hok := h.ok.add hz hn
    simp only [hz, if_true]
    have r5 := fun s' M' (q1 : FreshM s' M') (q2 : Sub M M') => copied_E w l s' M' q1 (hw.toE.mono q2) (by omega) (addE_data c1)
    have hsrc : srcV 4 M (copiedV l) = some (l.length, flatE l) := (copiedV_ents M l).src
    have hcl := flatE_len l
    have hcg := flatE_len g.ents
    obtain ⟨cap, rfl, hcap⟩ := h.shape
    have hne : il ≠ ia := by
      rintro rfl
      have := h.obj.symm.trans h.arr
      simp only [Option.some.injEq, AObj.cells.injEq] at this
      have := congrArg List.length this
      rw [hcg] at this; simp at this; omega
    have e1 : (il = ia) = False := eq_false hne
    have e2 : (ia = il) = False := eq_false (Ne.symm hne)
    have hm : g.ents.length + l.length ≤ mostLen := by unfold mostLen; omega
    have hfl : flatE (g.ents ++ l) = flatE g.ents ++ flatE l := flatE_append _ _
    have hll : (g.ents ++ l).length = g.ents.length + l.length := List.length_append
    have hres : ∀ (id : Id) (c : Option Nat) (M2 : Mem), (c = none ∨ c = some (g.ents.length + l.length)) → (il = id) = False → M2 id = some (.cells (flatE g.ents ++ flatE l)) →
        LogAt (M2.set il (.cells [.sl id 0 (g.ents.length + l.length) 4 c, .int .i64 g.com, .int .i64 g.app])) il id (.sl id 0 (g.ents.length + l.length) 4 c) (g.addL l) := by
      intro id c M2 hc hid hM2
      have hid' : (id = il) = False := by simpa [eq_comm] using hid
      refine ⟨?_, ⟨c, by rw [← hll]; rfl, by rw [← hll] at hc; exact hc⟩, ?_, hok⟩
      · simp (maxDischargeDepth := 80) only [push_cast, Nat.reduceBEq, reduceIte, reduceCtorEq, Nat.reduceEqDiff, Nat.reduceAdd, Nat.reduceMul, Nat.reduceSub, Nat.reduceLeDiff, Nat.reduceLT, Nat.reducePow, Int.reduceToNat, Int.reduceLT, Int.reduceLE, Int.reduceEq, Int.reduceAdd, Int.reduceSub, Int.reduceNeg, Lg.addL]
      · simp (maxDischargeDepth := 80) only [push_cast, Nat.reduceBEq, reduceIte, reduceCtorEq, Nat.reduceEqDiff, Nat.reduceAdd, Nat.reduceMul, Nat.reduceSub, Nat.reduceLeDiff, Nat.reduceLT, Nat.reducePow, Int.reduceToNat, Int.reduceLT, Int.reduceLE, Int.reduceEq, Int.reduceAdd, Int.reduceSub, Int.reduceNeg, Lg.addL, hid', hfl, hM2]
    have hu : Un s (7 :: 0 :: 1 :: 1 :: 0 :: s) := by simp (maxDischargeDepth := 80) only [push_cast, Nat.reduceBEq, reduceIte, reduceCtorEq, Nat.reduceEqDiff, Nat.reduceAdd, Nat.reduceMul, Nat.reduceSub, Nat.reduceLeDiff, Nat.reduceLT, Nat.reducePow, Int.reduceToNat, Int.reduceLT, Int.reduceLE, Int.reduceEq, Int.reduceAdd, Int.reduceSub, Int.reduceNeg]
    have hfr : ∀ (M2 : Mem) (o : AObj), (∀ i, Off s i → i ∉ [il, ia] → M2 i = M i) → FrM s [il, ia] M (M2.set il o) := by
      intro M2 o h2 i hi hx
      have : (i = il) = False := eq_false (fun e => hx (by simp [e]))
      simp (maxDischargeDepth := 80) only [push_cast, Nat.reduceBEq, reduceIte, reduceCtorEq, Nat.reduceEqDiff, Nat.reduceAdd, Nat.reduceMul, Nat.reduceSub, Nat.reduceLeDiff, Nat.reduceLT, Nat.reducePow, Int.reduceToNat, Int.reduceLT, Int.reduceLE, Int.reduceEq, Int.reduceAdd, Int.reduceSub, Int.reduceNeg, this, h2 i hi hx]
    rcases hcap with rfl | rfl
    · refine ⟨((M.del ia).set (7 :: 0 :: 1 :: 1 :: 0 :: s) (.cells (flatE g.ents ++ flatE l))).set il (.cells [.sl (7 :: 0 :: 1 :: 1 :: 0 :: s) 0 (g.ents.length + l.length) 4 none, .int .i64 g.com, .int .i64 g.app]), ?_, ?_⟩
      · rw [Fn_body Tryz.func34 (by decide) rfl rfl]
        simp (maxDischargeDepth := 80) only [push_cast, Nat.reduceBEq, reduceIte, reduceCtorEq, Nat.reduceEqDiff, Nat.reduceAdd, Nat.reduceMul, Nat.reduceSub, Nat.reduceLeDiff, Nat.reduceLT, Nat.reducePow, Int.reduceToNat, Int.reduceLT, Int.reduceLE, Int.reduceEq, Int.reduceAdd, Int.reduceSub, Int.reduceNeg, r1, r2, r3, r4, r5, c1, c2, hz, fresh_dn hM, fresh_at hM, h.obj, Off_dn (Off_of hM h.obj), Off_ne (Off_of hM h.obj), Off_ne' (Off_of hM h.obj), h.arr, Off_dn (Off_of hM h.arr), Off_ne (Off_of hM h.arr), Off_ne' (Off_of hM h.arr), hsrc, hcl, hcg, hm, e1, e2]
      · refine ⟨7 :: 0 :: 1 :: 1 :: 0 :: s, _, hres _ none _ (.inl rfl) (Off_ne (Off_of hM h.obj) hu) (by simp (maxDischargeDepth := 80) only [push_cast, Nat.reduceBEq, reduceIte, reduceCtorEq, Nat.reduceEqDiff, Nat.reduceAdd, Nat.reduceMul, Nat.reduceSub, Nat.reduceLeDiff, Nat.reduceLT, Nat.reducePow, Int.reduceToNat, Int.reduceLT, Int.reduceLE, Int.reduceEq, Int.reduceAdd, Int.reduceSub, Int.reduceNeg]), hfr _ _ ?_, .inr hu⟩
        intro i hi hx
        have h1 : (i = ia) = False := eq_false (fun e => hx (by simp [e]))
        simp (maxDischargeDepth := 80) only [push_cast, Nat.reduceBEq, reduceIte, reduceCtorEq, Nat.reduceEqDiff, Nat.reduceAdd, Nat.reduceMul, Nat.reduceSub, Nat.reduceLeDiff, Nat.reduceLT, Nat.reducePow, Int.reduceToNat, Int.reduceLT, Int.reduceLE, Int.reduceEq, Int.reduceAdd, Int.reduceSub, Int.reduceNeg, h1, Off_ne hi]
    · by_cases hl0 : l.length = 0
      · have hl' : l = [] := List.length_eq_zero_iff.1 hl0
        subst hl'
        refine ⟨(M.set ia (.cells (flatE g.ents))).set il (.cells [.sl ia 0 g.ents.length 4 (some g.ents.length), .int .i64 g.com, .int .i64 g.app]), ?_, ?_⟩
        · have hm' : g.ents.length ≤ mostLen := by have := h.ok.few; unfold mostLen; omega
          rw [Fn_body Tryz.func34 (by decide) rfl rfl]
          simp (maxDischargeDepth := 80) only [push_cast, Nat.reduceBEq, reduceIte, reduceCtorEq, Nat.reduceEqDiff, Nat.reduceAdd, Nat.reduceMul, Nat.reduceSub, Nat.reduceLeDiff, Nat.reduceLT, Nat.reducePow, Int.reduceToNat, Int.reduceLT, Int.reduceLE, Int.reduceEq, Int.reduceAdd, Int.reduceSub, Int.reduceNeg, r1, r2, r3, r4, r5, c1, c2, hz, fresh_dn hM, fresh_at hM, h.obj, Off_dn (Off_of hM h.obj), Off_ne (Off_of hM h.obj), Off_ne' (Off_of hM h.obj), h.arr, Off_dn (Off_of hM h.arr), Off_ne (Off_of hM h.arr), Off_ne' (Off_of hM h.arr), hsrc, hcl, hcg, hm', e1, e2, flatE_nil, List.take_of_length_le, List.drop_of_length_le]
        · refine ⟨ia, _, hres ia (some g.ents.length) _ (.inr rfl) e1 (by simp (maxDischargeDepth := 80) only [push_cast, Nat.reduceBEq, reduceIte, reduceCtorEq, Nat.reduceEqDiff, Nat.reduceAdd, Nat.reduceMul, Nat.reduceSub, Nat.reduceLeDiff, Nat.reduceLT, Nat.reducePow, Int.reduceToNat, Int.reduceLT, Int.reduceLE, Int.reduceEq, Int.reduceAdd, Int.reduceSub, Int.reduceNeg, flatE_nil]), hfr _ _ ?_, .inl rfl⟩
          intro i hi hx
          have h1 : (i = ia) = False := eq_false (fun e => hx (by simp [e]))
          simp (maxDischargeDepth := 80) only [push_cast, Nat.reduceBEq, reduceIte, reduceCtorEq, Nat.reduceEqDiff, Nat.reduceAdd, Nat.reduceMul, Nat.reduceSub, Nat.reduceLeDiff, Nat.reduceLT, Nat.reducePow, Int.reduceToNat, Int.reduceLT, Int.reduceLE, Int.reduceEq, Int.reduceAdd, Int.reduceSub, Int.reduceNeg, h1, Off_ne hi]
      · have h3 : ¬ (g.ents.length + l.length ≤ g.ents.length) := by omega
        refine ⟨(M.set (7 :: 0 :: 1 :: 1 :: 0 :: s) (.cells (flatE g.ents ++ flatE l))).set il (.cells [.sl (7 :: 0 :: 1 :: 1 :: 0 :: s) 0 (g.ents.length + l.length) 4 none, .int .i64 g.com, .int .i64 g.app]), ?_, ?_⟩
        · rw [Fn_body Tryz.func34 (by decide) rfl rfl]
          simp (maxDischargeDepth := 80) only [push_cast, Nat.reduceBEq, reduceIte, reduceCtorEq, Nat.reduceEqDiff, Nat.reduceAdd, Nat.reduceMul, Nat.reduceSub, Nat.reduceLeDiff, Nat.reduceLT, Nat.reducePow, Int.reduceToNat, Int.reduceLT, Int.reduceLE, Int.reduceEq, Int.reduceAdd, Int.reduceSub, Int.reduceNeg, r1, r2, r3, r4, r5, c1, c2, hz, fresh_dn hM, fresh_at hM, h.obj, Off_dn (Off_of hM h.obj), Off_ne (Off_of hM h.obj), Off_ne' (Off_of hM h.obj), h.arr, Off_dn (Off_of hM h.arr), Off_ne (Off_of hM h.arr), Off_ne' (Off_of hM h.arr), hsrc, hcl, hcg, hm, h3, e1, e2, take_len]
        · refine ⟨7 :: 0 :: 1 :: 1 :: 0 :: s, _, hres _ none _ (.inl rfl) (Off_ne (Off_of hM h.obj) hu) (by simp (maxDischargeDepth := 80) only [push_cast, Nat.reduceBEq, reduceIte, reduceCtorEq, Nat.reduceEqDiff, Nat.reduceAdd, Nat.reduceMul, Nat.reduceSub, Nat.reduceLeDiff, Nat.reduceLT, Nat.reducePow, Int.reduceToNat, Int.reduceLT, Int.reduceLE, Int.reduceEq, Int.reduceAdd, Int.reduceSub, Int.reduceNeg]), hfr _ _ ?_, .inr hu⟩
          intro i hi hx
          have h1 : (i = ia) = False := eq_false (fun e => hx (by simp [e]))
          simp (maxDischargeDepth := 80) only [push_cast, Nat.reduceBEq, reduceIte, reduceCtorEq, Nat.reduceEqDiff, Nat.reduceAdd, Nat.reduceMul, Nat.reduceSub, Nat.reduceLeDiff, Nat.reduceLT, Nat.reducePow, Int.reduceToNat, Int.reduceLT, Int.reduceLE, Int.reduceEq, Int.reduceAdd, Int.reduceSub, Int.reduceNeg, h1, Off_ne hi]

theorem rlogNew_E (b t : Int) (s : Id) (M : Mem) (hM : FreshM s M) :
    Fn env false 33 [.int .i64 b, .int .i64 t] s M = if withinL b && withinL t then
      some (.tup [.ptr (7 :: 0 :: 1 :: 1 :: 0 :: s) 0, .int .i64 0], ((M.set (3 :: 0 :: 1 :: 1 :: 0 :: s) (.cells [.int .i64 b, .int .i64 t, .int .i64 0, .nils])).set (7 :: 0 :: 1 :: 1 :: 0 :: s) (.cells [.sl (3 :: 0 :: 1 :: 1 :: 0 :: s) 0 1 4 (some 1), .int .i64 b, .int .i64 b]))) else some (.tup [.nilp, .int .i64 1], M) := by
  have r1 := fun n s' M' => within_E n s' M'
  rw [Fn_body Tryz.func33 (by decide) rfl rfl]
  cases c1 : withinL b with
  | false => simp (maxDischargeDepth := 80) only [push_cast, Nat.reduceBEq, reduceIte, reduceCtorEq, Nat.reduceEqDiff, Nat.reduceAdd, Nat.reduceMul, Nat.reduceSub, Nat.reduceLeDiff, Nat.reduceLT, Nat.reducePow, Int.reduceToNat, Int.reduceLT, Int.reduceLE, Int.reduceEq, Int.reduceAdd, Int.reduceSub, Int.reduceNeg, r1, c1, fresh_dn hM, fresh_at hM]
  | true =>
  cases c2 : withinL t with
  | false => simp (maxDischargeDepth := 80) only [push_cast, Nat.reduceBEq, reduceIte, reduceCtorEq, Nat.reduceEqDiff, Nat.reduceAdd, Nat.reduceMul, Nat.reduceSub, Nat.reduceLeDiff, Nat.reduceLT, Nat.reducePow, Int.reduceToNat, Int.reduceLT, Int.reduceLE, Int.reduceEq, Int.reduceAdd, Int.reduceSub, Int.reduceNeg, r1, c1, c2, fresh_dn hM, fresh_at hM]
  | true => simp (maxDischargeDepth := 80) only [push_cast, Nat.reduceBEq, reduceIte, reduceCtorEq, Nat.reduceEqDiff, Nat.reduceAdd, Nat.reduceMul, Nat.reduceSub, Nat.reduceLeDiff, Nat.reduceLT, Nat.reducePow, Int.reduceToNat, Int.reduceLT, Int.reduceLE, Int.reduceEq, Int.reduceAdd, Int.reduceSub, Int.reduceNeg, r1, c1, c2, fresh_dn hM, fresh_at hM]

def Lg.get (g : Lg) (i n : Int) : List Ent := if i ≤ g.base ∨ g.has i = false ∨ n < 1 then [] else (g.ents.drop (i - g.base).toNat).take n.toNat

theorem get_E {il ia v g} (i n : Int) (s : Id) (M : Mem) (hM : FreshM s M) (h : LogAt M il ia v g) : Fn env true 53 [.ptr il 0, .int .i64 i, .int .i64 n] s M = some (copiedV (g.get i n), M) := by
  have r1 := fun s' M' (q1 : FreshM s' M') (q2 : Sub M M') => base_E s' M' q1 (h.mono q2)
  have r2 := fun s' M' (q1 : FreshM s' M') (q2 : Sub M M') => has_E i s' M' q1 (h.mono q2)
  rw [Fn_body Tryz.func53 (by decide) rfl rfl]
  by_cases c1 : i ≤ g.base
  · simp (maxDischargeDepth := 80) only [push_cast, Nat.reduceBEq, reduceIte, reduceCtorEq, Nat.reduceEqDiff, Nat.reduceAdd, Nat.reduceMul, Nat.reduceSub, Nat.reduceLeDiff, Nat.reduceLT, Nat.reducePow, Int.reduceToNat, Int.reduceLT, Int.reduceLE, Int.reduceEq, Int.reduceAdd, Int.reduceSub, Int.reduceNeg, r1, c1, Lg.get, copiedV_nil, fresh_dn hM, fresh_at hM]
  cases c2 : g.has i with
  | false => simp (maxDischargeDepth := 80) only [push_cast, Nat.reduceBEq, reduceIte, reduceCtorEq, Nat.reduceEqDiff, Nat.reduceAdd, Nat.reduceMul, Nat.reduceSub, Nat.reduceLeDiff, Nat.reduceLT, Nat.reducePow, Int.reduceToNat, Int.reduceLT, Int.reduceLE, Int.reduceEq, Int.reduceAdd, Int.reduceSub, Int.reduceNeg, r1, r2, c1, c2, Lg.get, copiedV_nil, fresh_dn hM, fresh_at hM]
  | true =>
  by_cases c3 : n < 1
  · simp (maxDischargeDepth := 80) only [push_cast, Nat.reduceBEq, reduceIte, reduceCtorEq, Nat.reduceEqDiff, Nat.reduceAdd, Nat.reduceMul, Nat.reduceSub, Nat.reduceLeDiff, Nat.reduceLT, Nat.reducePow, Int.reduceToNat, Int.reduceLT, Int.reduceLE, Int.reduceEq, Int.reduceAdd, Int.reduceSub, Int.reduceNeg, r1, r2, c1, c2, c3, Lg.get, copiedV_nil, fresh_dn hM, fresh_at hM]
  · have hi := Lg.has_iff.1 c2
    obtain ⟨v', e2, e1⟩ := from_E i h ⟨by omega, by omega⟩
    have hdt0 : ∀ e ∈ g.ents.drop (i - g.base).toNat, dlen e.data ≤ mostLen := fun e he => by
      have := h.ok.data e (List.mem_of_mem_drop he)
      unfold mostLen; omega
    have hfew : (g.ents.drop (i - g.base).toNat).length ≤ 2 ^ 35 := by have := h.ok.few; rw [List.length_drop]; omega
    have hg0 : g.get i n = (g.ents.drop (i - g.base).toNat).take n.toNat := by rw [Lg.get, if_neg (by simp [c1, c2, c3])]
    generalize g.ents.drop (i - g.base).toNat = ld at *
    have hlen := e2.rd.len
    have hmn : (if (ld.length : Int) < n then (ld.length : Int) else n) = ((min n.toNat ld.length : Nat) : Int) := by split <;> omega
    obtain ⟨v2, e3, e4⟩ := e2.upTo (min n.toNat ld.length) (Nat.min_le_right _ _)
    have hget : g.get i n = ld.take (min n.toNat ld.length) := by
      rw [hg0, ← List.take_take, List.take_of_length_le (Nat.le_refl ld.length)]
    rw [← hget] at e4
    have hsm : (g.get i n).length ≤ 2 ^ 35 := by rw [hget, List.length_take]; omega
    have hdt : ∀ e ∈ g.get i n, dlen e.data ≤ mostLen := fun e he => by
      rw [hget] at he
      exact hdt0 e (List.mem_of_mem_take he)
    have r3 := fun s' M' (q1 : FreshM s' M') (q2 : Sub M M') => copied_E v2 (g.get i n) s' M' q1 (e4.rd.toE.mono q2) hsm hdt
    simp (maxDischargeDepth := 80) only [push_cast, Nat.reduceBEq, reduceIte, reduceCtorEq, Nat.reduceEqDiff, Nat.reduceAdd, Nat.reduceMul, Nat.reduceSub, Nat.reduceLeDiff, Nat.reduceLT, Nat.reducePow, Int.reduceToNat, Int.reduceLT, Int.reduceLE, Int.reduceEq, Int.reduceAdd, Int.reduceSub, Int.reduceNeg, r1, r2, c1, c2, c3, e1, hlen, hmn, e3, r3, fz_copied, fresh_dn hM, fresh_at hM]

theorem commit_E {il ia v g} (i : Int) (s : Id) (M : Mem) (hM : FreshM s M) (h : LogAt M il ia v g) :
    Fn env false 161 [.ptr il 0, .int .i64 i] s M = if i < g.com ∨ g.last < i then some (.int .i64 7, M) else some (.int .i64 0, M.set il (.cells [v, .int .i64 i, .int .i64 g.app])) := by
  have r2 := fun s' M' (q1 : FreshM s' M') (q2 : Sub M M') => last_E s' M' q1 (h.mono q2)
  have r3 : ∀ s' M', FreshM s' M' → M' il = M il → Fn env false 209 [.ptr il 1, .int .i64 i, .int .i64 g.com, .int .i64 g.last] s' M' = if i < g.com ∨ g.last < i then some (.int .i64 7, M') else some (.int .i64 0, M'.set il (.cells [v, .int .i64 i, .int .i64 g.app])) := by
    intro s' M' hM' h2
    have h3 := h2.trans h.obj
    rw [Fn_body Tryz.func209 (by decide) rfl rfl]
    by_cases c1 : i < g.com
    · simp (maxDischargeDepth := 80) only [push_cast, Nat.reduceBEq, reduceIte, reduceCtorEq, Nat.reduceEqDiff, Nat.reduceAdd, Nat.reduceMul, Nat.reduceSub, Nat.reduceLeDiff, Nat.reduceLT, Nat.reducePow, Int.reduceToNat, Int.reduceLT, Int.reduceLE, Int.reduceEq, Int.reduceAdd, Int.reduceSub, Int.reduceNeg, c1, fresh_dn hM', fresh_at hM']
    by_cases c2 : g.last < i
    · simp (maxDischargeDepth := 80) only [push_cast, Nat.reduceBEq, reduceIte, reduceCtorEq, Nat.reduceEqDiff, Nat.reduceAdd, Nat.reduceMul, Nat.reduceSub, Nat.reduceLeDiff, Nat.reduceLT, Nat.reducePow, Int.reduceToNat, Int.reduceLT, Int.reduceLE, Int.reduceEq, Int.reduceAdd, Int.reduceSub, Int.reduceNeg, c1, c2, fresh_dn hM', fresh_at hM']
    · simp (maxDischargeDepth := 80) only [push_cast, Nat.reduceBEq, reduceIte, reduceCtorEq, Nat.reduceEqDiff, Nat.reduceAdd, Nat.reduceMul, Nat.reduceSub, Nat.reduceLeDiff, Nat.reduceLT, Nat.reducePow, Int.reduceToNat, Int.reduceLT, Int.reduceLE, Int.reduceEq, Int.reduceAdd, Int.reduceSub, Int.reduceNeg, c1, c2, h3, h.vone, h.vcells, fresh_dn hM', fresh_at hM']
  rw [Fn_body Tryz.func161 (by decide) rfl rfl]
  by_cases c1 : i < g.com ∨ g.last < i
  · simp (maxDischargeDepth := 80) only [push_cast, Nat.reduceBEq, reduceIte, reduceCtorEq, Nat.reduceEqDiff, Nat.reduceAdd, Nat.reduceMul, Nat.reduceSub, Nat.reduceLeDiff, Nat.reduceLT, Nat.reducePow, Int.reduceToNat, Int.reduceLT, Int.reduceLE, Int.reduceEq, Int.reduceAdd, Int.reduceSub, Int.reduceNeg, r2, r3, c1, h.obj, fresh_dn hM, fresh_at hM]
  · simp (maxDischargeDepth := 80) only [push_cast, Nat.reduceBEq, reduceIte, reduceCtorEq, Nat.reduceEqDiff, Nat.reduceAdd, Nat.reduceMul, Nat.reduceSub, Nat.reduceLeDiff, Nat.reduceLT, Nat.reducePow, Int.reduceToNat, Int.reduceLT, Int.reduceLE, Int.reduceEq, Int.reduceAdd, Int.reduceSub, Int.reduceNeg, r2, r3, c1, h.obj, fresh_dn hM, fresh_at hM]
end Go.Ab.R
