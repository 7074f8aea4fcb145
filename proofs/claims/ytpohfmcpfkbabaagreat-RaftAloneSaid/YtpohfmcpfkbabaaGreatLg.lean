/- The log in the memory, and what its readers come to. Conditions: none. -/
import Derived.Test.YtpohfmcpfkbabaaGreatEn
set_option linter.unusedSimpArgs false
set_option linter.unusedVariables false
namespace Go.Ab.R
open Go Go.Proofs
set_option maxRecDepth 100000

structure Lg where
  base : Int
  ents : List Ent
  com : Int
  app : Int

structure LgOk (g : Lg) : Prop where
  ne : 0 < g.ents.length
  idx : ∀ j (h : j < g.ents.length), g.ents[j].index = g.base + j
  lo : 0 ≤ g.base
  hi : g.base + g.ents.length ≤ 2 ^ 40 + 1
  few : g.ents.length ≤ 2 ^ 35
  data : ∀ e ∈ g.ents, dlen e.data ≤ 4096

structure LogAt (M : Mem) (il ia : Id) (v : V) (g : Lg) : Prop where
  obj : M il = some (.cells [v, .int .i64 g.com, .int .i64 g.app])
  shape : ∃ cap, v = .sl ia 0 g.ents.length 4 cap ∧ (cap = none ∨ cap = some g.ents.length)
  arr : M ia = some (.cells (flatE g.ents))
  ok : LgOk g

theorem LogAt.ents {M il ia v g} (h : LogAt M il ia v g) : EntsV M v g.ents := by
  obtain ⟨cap, rfl, hc⟩ := h.shape
  refine .sl ia 0 cap _ _ h.arr (by rw [flatE_len]; omega) (by rw [List.drop_zero, List.take_of_length_le (by rw [flatE_len]; omega)]) ?_
  intro c e; rcases hc with hc | hc <;> rw [hc] at e <;> cases e; omega
theorem LogAt.mono {M M' il ia v g} (h : LogAt M il ia v g) (hs : Sub M M') : LogAt M' il ia v g :=
  ⟨hs _ _ h.obj, h.shape, hs _ _ h.arr, h.ok⟩
theorem LogAt.vone {M il ia v g} (h : LogAt M il ia v g) : v.one = true := h.ents.rd.one
theorem LogAt.vcells {M il ia v g} (h : LogAt M il ia v g) : v.cells = [v] := h.ents.rd.cells

def Lg.last (g : Lg) : Int := g.base + g.ents.length - 1
def Lg.has (g : Lg) (i : Int) : Bool := decide (g.base ≤ i) && decide (i ≤ g.last)
def Lg.at_ (g : Lg) (i : Int) : Ent := g.ents.getD (i - g.base).toNat ⟨0, 0, 0, none⟩
def Lg.termOf (g : Lg) (i : Int) : Int := if g.has i then (g.at_ i).term else 0

theorem RdX.first {M v l} (h : RdX M v l) (hl : 0 < l.length) : ∃ p q0 q1, indexAddrV Tryz.prog 46 v (.int .i64 0) = some p ∧ fieldAddrV Tryz.prog 52 p 0 = some q0 ∧ fieldAddrV Tryz.prog 52 p 1 = some q1 ∧
    ∀ M', Sub M M' → loadV Tryz.prog 52 M' p = some (.agg l[0].cells) ∧ loadV Tryz.prog 3 M' q0 = some (.int .i64 l[0].index) ∧ loadV Tryz.prog 3 M' q1 = some (.int .i64 l[0].term) := h.get 0 hl
theorem LgOk.first {g : Lg} (h : LgOk g) : (g.ents[0]'h.ne).index = g.base := by have := h.idx 0 h.ne; simpa using this

theorem base_E {il ia v g} (s : Id) (M : Mem) (hM : FreshM s M) (h : LogAt M il ia v g) : Fn env false 99 [.ptr il 0] s M = some (.int .i64 g.base, M) := by
  rw [Fn_body Tryz.func99 (by decide) rfl rfl]
  obtain ⟨p, q0, q1, h1, h2, h3, h4⟩ := h.ents.rd.first h.ok.ne
  obtain ⟨_, h5, _⟩ := h4 M (fun _ _ e => e)
  simp (maxDischargeDepth := 80) only [push_cast, Nat.reduceBEq, reduceIte, reduceCtorEq, Nat.reduceEqDiff, Nat.reduceAdd, Nat.reduceMul, Nat.reduceSub, Nat.reduceLeDiff, Nat.reduceLT, Nat.reducePow, Int.reduceToNat, Int.reduceLT, Int.reduceLE, Int.reduceEq, Int.reduceAdd, Int.reduceSub, Int.reduceNeg, h.obj, h1, h2, h5, h.ok.first, fresh_dn hM, fresh_at hM]

theorem first_E {il ia v g} (s : Id) (M : Mem) (hM : FreshM s M) (h : LogAt M il ia v g) : Fn env false 157 [.ptr il 0] s M = some (.int .i64 (g.base + 1), M) := by
  rw [Fn_body Tryz.func157 (by decide) rfl rfl]
  have r1 := fun s' M' (q1 : FreshM s' M') (q2 : Sub M M') => base_E s' M' q1 (h.mono q2)
  have w1 : IntKind.wrap .i64 (g.base + 1) = g.base + 1 := wrap_id (by have := h.ok.lo; omega) (by have := h.ok.hi; omega)
  simp (maxDischargeDepth := 80) only [push_cast, Nat.reduceBEq, reduceIte, reduceCtorEq, Nat.reduceEqDiff, Nat.reduceAdd, Nat.reduceMul, Nat.reduceSub, Nat.reduceLeDiff, Nat.reduceLT, Nat.reducePow, Int.reduceToNat, Int.reduceLT, Int.reduceLE, Int.reduceEq, Int.reduceAdd, Int.reduceSub, Int.reduceNeg, r1, w1, fresh_dn hM, fresh_at hM]

theorem last_E {il ia v g} (s : Id) (M : Mem) (hM : FreshM s M) (h : LogAt M il ia v g) : Fn env false 39 [.ptr il 0] s M = some (.int .i64 g.last, M) := by
  rw [Fn_body Tryz.func39 (by decide) rfl rfl]
  have r1 := fun s' M' (q1 : FreshM s' M') (q2 : Sub M M') => base_E s' M' q1 (h.mono q2)
  have hlo := h.ok.lo
  have hhi := h.ok.hi
  have w1 : IntKind.wrap .i64 (g.base + g.ents.length) = g.base + g.ents.length := wrap_id (by omega) (by omega)
  have w2 : IntKind.wrap .i64 (g.base + g.ents.length - 1) = g.base + g.ents.length - 1 := wrap_id (by omega) (by omega)
  simp (maxDischargeDepth := 80) only [push_cast, Nat.reduceBEq, reduceIte, reduceCtorEq, Nat.reduceEqDiff, Nat.reduceAdd, Nat.reduceMul, Nat.reduceSub, Nat.reduceLeDiff, Nat.reduceLT, Nat.reducePow, Int.reduceToNat, Int.reduceLT, Int.reduceLE, Int.reduceEq, Int.reduceAdd, Int.reduceSub, Int.reduceNeg, r1, h.obj, h.ents.rd.len, w1, w2, fresh_dn hM, fresh_at hM, Lg.last]

theorem has_E {il ia v g} (i : Int) (s : Id) (M : Mem) (hM : FreshM s M) (h : LogAt M il ia v g) : Fn env false 114 [.ptr il 0, .int .i64 i] s M = some (.bool (g.has i), M) := by
  rw [Fn_body Tryz.func114 (by decide) rfl rfl]
  have r1 := fun s' M' (q1 : FreshM s' M') (q2 : Sub M M') => base_E s' M' q1 (h.mono q2)
  have r2 := fun s' M' (q1 : FreshM s' M') (q2 : Sub M M') => last_E s' M' q1 (h.mono q2)
  by_cases c : g.base ≤ i <;> simp (maxDischargeDepth := 80) only [push_cast, Nat.reduceBEq, reduceIte, reduceCtorEq, Nat.reduceEqDiff, Nat.reduceAdd, Nat.reduceMul, Nat.reduceSub, Nat.reduceLeDiff, Nat.reduceLT, Nat.reducePow, Int.reduceToNat, Int.reduceLT, Int.reduceLE, Int.reduceEq, Int.reduceAdd, Int.reduceSub, Int.reduceNeg, r1, r2, c, fresh_dn hM, fresh_at hM, Lg.has]

theorem Lg.has_iff {g : Lg} {i : Int} : g.has i = true ↔ g.base ≤ i ∧ i ≤ g.last := by simp [Lg.has]

theorem from_E {M il ia v g} (i : Int) (h : LogAt M il ia v g) (hi : g.base ≤ i ∧ i ≤ g.last + 1) :
    ∃ v', EntsV M v' (g.ents.drop (i - g.base).toNat) ∧ ∀ s M', FreshM s M' → Sub M M' → Fn env false 115 [.ptr il 0, .int .i64 i] s M' = some (v', M') := by
  have hlo := h.ok.lo
  have hhi := h.ok.hi
  have hl : g.last = g.base + g.ents.length - 1 := rfl
  obtain ⟨v', hv1, hv2⟩ := h.ents.from_ (i - g.base).toNat (by omega)
  refine ⟨v', hv2, fun s M' hM hS => ?_⟩
  rw [Fn_body Tryz.func115 (by decide) rfl rfl]
  have h' := h.mono hS
  have r1 := fun s' M'' (q1 : FreshM s' M'') (q2 : Sub M' M'') => base_E s' M'' q1 (h'.mono q2)
  have w1 : IntKind.wrap .i64 (i - g.base) = i - g.base := wrap_id (by omega) (by omega)
  rw [Int.toNat_of_nonneg (by omega)] at hv1
  simp (maxDischargeDepth := 80) only [push_cast, Nat.reduceBEq, reduceIte, reduceCtorEq, Nat.reduceEqDiff, Nat.reduceAdd, Nat.reduceMul, Nat.reduceSub, Nat.reduceLeDiff, Nat.reduceLT, Nat.reducePow, Int.reduceToNat, Int.reduceLT, Int.reduceLE, Int.reduceEq, Int.reduceAdd, Int.reduceSub, Int.reduceNeg, r1, h'.obj, w1, hv1, fresh_dn hM, fresh_at hM]

theorem term_E {il ia v g} (i : Int) (s : Id) (M : Mem) (hM : FreshM s M) (h : LogAt M il ia v g) :
    Fn env false 100 [.ptr il 0, .int .i64 i] s M = some (.tup [.int .i64 (g.termOf i), .bool (g.has i)], M) := by
  rw [Fn_body Tryz.func100 (by decide) rfl rfl]
  have r1 := fun s' M' (q1 : FreshM s' M') (q2 : Sub M M') => has_E i s' M' q1 (h.mono q2)
  cases c : g.has i with
  | false => simp (maxDischargeDepth := 80) only [push_cast, Nat.reduceBEq, reduceIte, reduceCtorEq, Nat.reduceEqDiff, Nat.reduceAdd, Nat.reduceMul, Nat.reduceSub, Nat.reduceLeDiff, Nat.reduceLT, Nat.reducePow, Int.reduceToNat, Int.reduceLT, Int.reduceLE, Int.reduceEq, Int.reduceAdd, Int.reduceSub, Int.reduceNeg, r1, c, fresh_dn hM, fresh_at hM, Lg.termOf]
  | true =>
    have hc := Lg.has_iff.1 c
    have hl : g.last = g.base + g.ents.length - 1 := rfl
    have hlo := h.ok.lo
    obtain ⟨v', e2, e1⟩ := from_E i h ⟨by omega, by omega⟩
    have hlen : 0 < (g.ents.drop (i - g.base).toNat).length := by rw [List.length_drop]; omega
    obtain ⟨p, q0, q1, h1, h2, h3, h4⟩ := e2.rd.first hlen
    obtain ⟨_, _, h5⟩ := h4 M (fun _ _ e => e)
    have h6 : ((g.ents.drop (i - g.base).toNat)[0]'hlen).term = g.termOf i := by
      rw [List.getElem_drop, Lg.termOf, if_pos c, Lg.at_, List.getD_eq_getElem?_getD, List.getElem?_eq_getElem (by omega)]; rfl
    rw [h6] at h5
    simp (maxDischargeDepth := 80) only [push_cast, Nat.reduceBEq, reduceIte, reduceCtorEq, Nat.reduceEqDiff, Nat.reduceAdd, Nat.reduceMul, Nat.reduceSub, Nat.reduceLeDiff, Nat.reduceLT, Nat.reducePow, Int.reduceToNat, Int.reduceLT, Int.reduceLE, Int.reduceEq, Int.reduceAdd, Int.reduceSub, Int.reduceNeg, r1, c, e1, h1, h3, h5, fresh_dn hM, fresh_at hM]

theorem com_E {il ia v g} (s : Id) (M : Mem) (hM : FreshM s M) (h : LogAt M il ia v g) : Fn env false 50 [.ptr il 0] s M = some (.int .i64 g.com, M) := by
  rw [Fn_body Tryz.func50 (by decide) rfl rfl]
  simp (maxDischargeDepth := 80) only [push_cast, Nat.reduceBEq, reduceIte, reduceCtorEq, Nat.reduceEqDiff, Nat.reduceAdd, Nat.reduceMul, Nat.reduceSub, Nat.reduceLeDiff, Nat.reduceLT, Nat.reducePow, Int.reduceToNat, Int.reduceLT, Int.reduceLE, Int.reduceEq, Int.reduceAdd, Int.reduceSub, Int.reduceNeg, h.obj, fresh_dn hM, fresh_at hM]
theorem app_E {il ia v g} (s : Id) (M : Mem) (hM : FreshM s M) (h : LogAt M il ia v g) : Fn env false 155 [.ptr il 0] s M = some (.int .i64 g.app, M) := by
  rw [Fn_body Tryz.func155 (by decide) rfl rfl]
  simp (maxDischargeDepth := 80) only [push_cast, Nat.reduceBEq, reduceIte, reduceCtorEq, Nat.reduceEqDiff, Nat.reduceAdd, Nat.reduceMul, Nat.reduceSub, Nat.reduceLeDiff, Nat.reduceLT, Nat.reducePow, Int.reduceToNat, Int.reduceLT, Int.reduceLE, Int.reduceEq, Int.reduceAdd, Int.reduceSub, Int.reduceNeg, h.obj, fresh_dn hM, fresh_at hM]
theorem tail_E {il ia v g} (s : Id) (M : Mem) (hM : FreshM s M) (h : LogAt M il ia v g) : Fn env false 86 [.ptr il 0] s M = some (.agg (g.at_ g.last).cells, M) := by
  rw [Fn_body Tryz.func86 (by decide) rfl rfl]
  have hlo := h.ok.lo
  have hhi := h.ok.hi
  have hne := h.ok.ne
  have w1 : IntKind.wrap .i64 ((g.ents.length : Int) - 1) = ((g.ents.length - 1 : Nat) : Int) := by rw [wrap_id (by omega) (by omega)]; omega
  obtain ⟨p, q0, q1, h1, h2, h3, h4⟩ := h.ents.rd.get (g.ents.length - 1) (by omega)
  have h5 : g.ents[g.ents.length - 1]'(by omega) = g.at_ g.last := by
    rw [Lg.at_, Lg.last, List.getD_eq_getElem?_getD, List.getElem?_eq_getElem (by omega)]
    simp only [Option.getD_some]; congr 1; omega
  rw [h5] at h4
  have h6 := fun M' q => (h4 M' q).1
  simp (maxDischargeDepth := 80) only [push_cast, Nat.reduceBEq, reduceIte, reduceCtorEq, Nat.reduceEqDiff, Nat.reduceAdd, Nat.reduceMul, Nat.reduceSub, Nat.reduceLeDiff, Nat.reduceLT, Nat.reducePow, Int.reduceToNat, Int.reduceLT, Int.reduceLE, Int.reduceEq, Int.reduceAdd, Int.reduceSub, Int.reduceNeg, h.obj, Off_dn (Off_of hM h.obj), Off_ne (Off_of hM h.obj), Off_ne' (Off_of hM h.obj), h.ents.rd.len, w1, h1, h6, Ent.cells_eq, one_data, fresh_dn hM, fresh_at hM]
end Go.Ab.R
