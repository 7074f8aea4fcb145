/- The log: new, put behind, read, committed. Conditions: none. -/
import Derived.Test.YtpohfmcpfkbabaaGreatAd
set_option linter.unusedSimpArgs false
set_option linter.unusedVariables false
namespace Go.Ab.R
open Go Go.Proofs
set_option maxRecDepth 100000

/-- nothing else has changed but what lies under a place, and these -/
def FrM (s : Id) (X : List Id) (M M' : Mem) : Prop := ∀ i, Off s i → i ∉ X → M' i = M i
theorem FrM.refl (s X M) : FrM s X M M := fun _ _ _ => rfl
theorem FrM.trans {s X M M' M''} (h : FrM s X M M') (k : FrM s X M' M'') : FrM s X M M'' := fun i h1 h2 => (k i h1 h2).trans (h i h1 h2)
theorem FrM.fresh {s t X M M'} (h : FrM s X M M') (hf : FreshM t M) (ho : ∀ i, t <:+ i → Off s i ∧ i ∉ X) : FreshM t M' := fun i hi => (h i (ho i hi).1 (ho i hi).2).trans (hf i hi)

theorem followL_idx {l : List Ent} {i t : Int} (h : followL l i t = true) (ho : l.any oddL = false) (hi : 0 ≤ i) (hi2 : i ≤ 2 ^ 40) : (∀ j (hj : j < l.length), l[j].index = i + 1 + j) ∧ i + l.length ≤ 2 ^ 40 := by
  induction l generalizing i t with
  | nil => exact ⟨fun j hj => absurd hj (by simp), by simp; omega⟩
  | cons x l ih =>
    simp only [List.any_cons, Bool.or_eq_false_iff] at ho
    have hx := ho.1
    simp only [oddL, withinL, Bool.or_eq_false_iff, decide_eq_false_iff_not, Bool.not_eq_false', Bool.and_eq_true, decide_eq_true_eq] at hx
    simp only [followL] at h
    split at h
    · cases h
    · rename_i hc
      have hc1 : IntKind.wrap .i64 (x.index - 1) = i := by
        by_cases q : IntKind.wrap .i64 (x.index - 1) = i
        · exact q
        · exact absurd (.inl q) hc
      rw [wrap_id (by omega) (by omega)] at hc1
      obtain ⟨h1, h2⟩ := ih h ho.2 (by omega) (by omega)
      refine ⟨fun j hj => ?_, by simp only [List.length_cons]; omega⟩
      cases j with
      | zero => simp only [List.getElem_cons_zero]; omega
      | succ j => simp only [List.getElem_cons_succ]; rw [h1 j (by simpa using hj)]; omega

def Lg.addL (g : Lg) (l : List Ent) : Lg := { g with ents := g.ents ++ l }
def Lg.addE (g : Lg) (l : List Ent) : Int := if l.any oddL then 1 else if followL l g.last (g.at_ g.last).term then 0 else 7

theorem LgOk.add {g : Lg} (h : LgOk g) {l : List Ent} (ha : g.addE l = 0) (hn : g.ents.length + l.length ≤ 2 ^ 35) : LgOk (g.addL l) := by
  unfold Lg.addE at ha
  split at ha
  · cases ha
  rename_i ho
  split at ha
  · rename_i hf
    have hlo := h.lo
    have hhi := h.hi
    have hne := h.ne
    have ho' : l.any oddL = false := by simpa using ho
    obtain ⟨h1, h2⟩ := followL_idx hf ho' (by unfold Lg.last; omega) (by unfold Lg.last; omega)
    unfold Lg.last at h1 h2
    refine ⟨by simp [Lg.addL]; omega, fun j hj => ?_, hlo, by simp only [Lg.addL, List.length_append]; omega, by simp only [Lg.addL, List.length_append]; omega, fun e he => ?_⟩
    · simp only [Lg.addL] at hj ⊢
      by_cases hlt : j < g.ents.length
      · rw [List.getElem_append_left hlt]; exact h.idx j hlt
      · rw [List.getElem_append_right (by omega), h1]; simp only [List.length_append] at hj; omega
    · simp only [Lg.addL, List.mem_append] at he
      rcases he with he | he
      · exact h.data e he
      · have := List.any_eq_false.1 ho' e he
        simp only [oddL, Bool.or_eq_true, decide_eq_true_eq, not_or] at this
        omega
  · cases ha

theorem addE_data {l : List Ent} (h : l.any oddL = false) : ∀ e ∈ l, dlen e.data ≤ mostLen := fun e he => by
  have := List.any_eq_false.1 h e he
  simp only [oddL, Bool.or_eq_true, decide_eq_true_eq, not_or] at this
  unfold mostLen; omega

theorem add_E {M : Mem} {il ia v g w} {l : List Ent} (s : Id) (hM : FreshM s M) (h : LogAt M il ia v g) (hw : RdX M w l) (hn : g.ents.length + l.length ≤ 2 ^ 35) :
    ∃ M', Fn env false 34 [.ptr il 0, w] s M = some (.int .i64 (g.addE l), M') ∧
      (if g.addE l = 0 then ∃ ia' v', LogAt M' il ia' v' (g.addL l) ∧ FrM s [il, ia] M M' ∧ (ia' = ia ∨ Un s ia') else M' = M) := by
  have r1 := fun s' M' (q1 : FreshM s' M') (q2 : Sub M M') => contFn_E w l 84 [] oddL s' M' q1 (hw.toE.mono q2) (by omega) (fun e _ s'' M'' k1 k2 => odd_E e s'' M'' k1)
  have r2 := fun s' M' (q1 : FreshM s' M') (q2 : Sub M M') => last_E s' M' q1 (h.mono q2)
  have r3 := fun s' M' (q1 : FreshM s' M') (q2 : Sub M M') => tail_E s' M' q1 (h.mono q2)
  have r4 := fun s' M' (q1 : FreshM s' M') (q2 : Sub M M') => follow_E w l g.last (g.at_ g.last).term s' M' q1 (hw.toE.mono q2) (by omega)
  simp only [Ent.cells_eq] at r3
  cases c1 : l.any oddL with
  | true =>
    refine ⟨M, ?_, by simp [Lg.addE, c1]⟩
    rw [Fn_body Tryz.func34 (by decide) rfl rfl]
    simp (maxDischargeDepth := 80) only [push_cast, Nat.reduceBEq, reduceIte, reduceCtorEq, Nat.reduceEqDiff, Nat.reduceAdd, Nat.reduceMul, Nat.reduceSub, Nat.reduceLeDiff, Nat.reduceLT, Nat.reducePow, Int.reduceToNat, Int.reduceLT, Int.reduceLE, Int.reduceEq, Int.reduceAdd, Int.reduceSub, Int.reduceNeg, r1, c1, Lg.addE, fresh_dn hM, fresh_at hM]
  | false =>
  cases c2 : followL l g.last (g.at_ g.last).term with
  | false =>
    refine ⟨M, ?_, by simp [Lg.addE, c1, c2]⟩
    rw [Fn_body Tryz.func34 (by decide) rfl rfl]
    simp (maxDischargeDepth := 80) only [push_cast, Nat.reduceBEq, reduceIte, reduceCtorEq, Nat.reduceEqDiff, Nat.reduceAdd, Nat.reduceMul, Nat.reduceSub, Nat.reduceLeDiff, Nat.reduceLT, Nat.reducePow, Int.reduceToNat, Int.reduceLT, Int.reduceLE, Int.reduceEq, Int.reduceAdd, Int.reduceSub, Int.reduceNeg, r1, r2, r3, r4, c1, c2, Lg.addE, fresh_dn hM, fresh_at hM]
  | true =>
    have hz : g.addE l = 0 := by simp [Lg.addE, c1, c2]
    have hok := h.ok.add hz hn
    simp only [hz, if_true]
    have r5 := fun s' M' (q1 : FreshM s' M') (q2 : Sub M M') => copied_E w l s' M' q1 (hw.toE.mono q2) (by omega) (addE_data c1)
    have hsrc : srcV 4 M (copiedV l) = some (l.length, flatE l) := (copiedV_ents M l).src
    have hcl := flatE_len l
    have hcg := flatE_len g.ents
    obtain ⟨cap, rfl, hcap⟩ := h.shape
    have hne : il ≠ ia := by
      rintro rfl
      have := h.obj.symm.trans h.arr
      simp only [Option.some.injEq, AObj.cells.injEq] at this
      have := congrArg List.length this
      rw [hcg] at this; simp at this; omega
    have e1 : (il = ia) = False := eq_false hne
    have e2 : (ia = il) = False := eq_false (Ne.symm hne)
    have hm : g.ents.length + l.length ≤ mostLen := by unfold mostLen; omega
    have hfl : flatE (g.ents ++ l) = flatE g.ents ++ flatE l := flatE_append _ _
    have hll : (g.ents ++ l).length = g.ents.length + l.length := List.length_append
    have hres : ∀ (id : Id) (c : Option Nat) (M2 : Mem), (c = none ∨ c = some (g.ents.length + l.length)) → (il = id) = False → M2 id = some (.cells (flatE g.ents ++ flatE l)) →
        LogAt (M2.set il (.cells [.sl id 0 (g.ents.length + l.length) 4 c, .int .i64 g.com, .int .i64 g.app])) il id (.sl id 0 (g.ents.length + l.length) 4 c) (g.addL l) := by
      intro id c M2 hc hid hM2
      have hid' : (id = il) = False := by simpa [eq_comm] using hid
      refine ⟨?_, ⟨c, by rw [← hll]; rfl, by rw [← hll] at hc; exact hc⟩, ?_, hok⟩
      · simp (maxDischargeDepth := 80) only [push_cast, Nat.reduceBEq, reduceIte, reduceCtorEq, Nat.reduceEqDiff, Nat.reduceAdd, Nat.reduceMul, Nat.reduceSub, Nat.reduceLeDiff, Nat.reduceLT, Nat.reducePow, Int.reduceToNat, Int.reduceLT, Int.reduceLE, Int.reduceEq, Int.reduceAdd, Int.reduceSub, Int.reduceNeg, Lg.addL]
      · simp (maxDischargeDepth := 80) only [push_cast, Nat.reduceBEq, reduceIte, reduceCtorEq, Nat.reduceEqDiff, Nat.reduceAdd, Nat.reduceMul, Nat.reduceSub, Nat.reduceLeDiff, Nat.reduceLT, Nat.reducePow, Int.reduceToNat, Int.reduceLT, Int.reduceLE, Int.reduceEq, Int.reduceAdd, Int.reduceSub, Int.reduceNeg, Lg.addL, hid', hfl, hM2]
    have hu : Un s (7 :: 0 :: 1 :: 1 :: 0 :: s) := by simp (maxDischargeDepth := 80) only [push_cast, Nat.reduceBEq, reduceIte, reduceCtorEq, Nat.reduceEqDiff, Nat.reduceAdd, Nat.reduceMul, Nat.reduceSub, Nat.reduceLeDiff, Nat.reduceLT, Nat.reducePow, Int.reduceToNat, Int.reduceLT, Int.reduceLE, Int.reduceEq, Int.reduceAdd, Int.reduceSub, Int.reduceNeg]
    have hfr : ∀ (M2 : Mem) (o : AObj), (∀ i, Off s i → i ∉ [il, ia] → M2 i = M i) → FrM s [il, ia] M (M2.set il o) := by
      intro M2 o h2 i hi hx
      have : (i = il) = False := eq_false (fun e => hx (by simp [e]))
      simp (maxDischargeDepth := 80) only [push_cast, Nat.reduceBEq, reduceIte, reduceCtorEq, Nat.reduceEqDiff, Nat.reduceAdd, Nat.reduceMul, Nat.reduceSub, Nat.reduceLeDiff, Nat.reduceLT, Nat.reducePow, Int.reduceToNat, Int.reduceLT, Int.reduceLE, Int.reduceEq, Int.reduceAdd, Int.reduceSub, Int.reduceNeg, this, h2 i hi hx]
    rcases hcap with rfl | rfl
    · refine ⟨((M.del ia).set (7 :: 0 :: 1 :: 1 :: 0 :: s) (.cells (flatE g.ents ++ flatE l))).set il (.cells [.sl (7 :: 0 :: 1 :: 1 :: 0 :: s) 0 (g.ents.length + l.length) 4 none, .int .i64 g.com, .int .i64 g.app]), ?_, ?_⟩
      · rw [Fn_body Tryz.func34 (by decide) rfl rfl]
        simp (maxDischargeDepth := 80) only [push_cast, Nat.reduceBEq, reduceIte, reduceCtorEq, Nat.reduceEqDiff, Nat.reduceAdd, Nat.reduceMul, Nat.reduceSub, Nat.reduceLeDiff, Nat.reduceLT, Nat.reducePow, Int.reduceToNat, Int.reduceLT, Int.reduceLE, Int.reduceEq, Int.reduceAdd, Int.reduceSub, Int.reduceNeg, r1, r2, r3, r4, r5, c1, c2, hz, fresh_dn hM, fresh_at hM, h.obj, Off_dn (Off_of hM h.obj), Off_ne (Off_of hM h.obj), Off_ne' (Off_of hM h.obj), h.arr, Off_dn (Off_of hM h.arr), Off_ne (Off_of hM h.arr), Off_ne' (Off_of hM h.arr), hsrc, hcl, hcg, hm, e1, e2]
      · refine ⟨7 :: 0 :: 1 :: 1 :: 0 :: s, _, hres _ none _ (.inl rfl) (Off_ne (Off_of hM h.obj) hu) (by simp (maxDischargeDepth := 80) only [push_cast, Nat.reduceBEq, reduceIte, reduceCtorEq, Nat.reduceEqDiff, Nat.reduceAdd, Nat.reduceMul, Nat.reduceSub, Nat.reduceLeDiff, Nat.reduceLT, Nat.reducePow, Int.reduceToNat, Int.reduceLT, Int.reduceLE, Int.reduceEq, Int.reduceAdd, Int.reduceSub, Int.reduceNeg]), hfr _ _ ?_, .inr hu⟩
        intro i hi hx
        have h1 : (i = ia) = False := eq_false (fun e => hx (by simp [e]))
        simp (maxDischargeDepth := 80) only [push_cast, Nat.reduceBEq, reduceIte, reduceCtorEq, Nat.reduceEqDiff, Nat.reduceAdd, Nat.reduceMul, Nat.reduceSub, Nat.reduceLeDiff, Nat.reduceLT, Nat.reducePow, Int.reduceToNat, Int.reduceLT, Int.reduceLE, Int.reduceEq, Int.reduceAdd, Int.reduceSub, Int.reduceNeg, h1, Off_ne hi]
    · by_cases hl0 : l.length = 0
      · have hl' : l = [] := List.length_eq_zero_iff.1 hl0
        subst hl'
        refine ⟨(M.set ia (.cells (flatE g.ents))).set il (.cells [.sl ia 0 g.ents.length 4 (some g.ents.length), .int .i64 g.com, .int .i64 g.app]), ?_, ?_⟩
        · have hm' : g.ents.length ≤ mostLen := by have := h.ok.few; unfold mostLen; omega
          rw [Fn_body Tryz.func34 (by decide) rfl rfl]
          simp (maxDischargeDepth := 80) only [push_cast, Nat.reduceBEq, reduceIte, reduceCtorEq, Nat.reduceEqDiff, Nat.reduceAdd, Nat.reduceMul, Nat.reduceSub, Nat.reduceLeDiff, Nat.reduceLT, Nat.reducePow, Int.reduceToNat, Int.reduceLT, Int.reduceLE, Int.reduceEq, Int.reduceAdd, Int.reduceSub, Int.reduceNeg, r1, r2, r3, r4, r5, c1, c2, hz, fresh_dn hM, fresh_at hM, h.obj, Off_dn (Off_of hM h.obj), Off_ne (Off_of hM h.obj), Off_ne' (Off_of hM h.obj), h.arr, Off_dn (Off_of hM h.arr), Off_ne (Off_of hM h.arr), Off_ne' (Off_of hM h.arr), hsrc, hcl, hcg, hm', e1, e2, flatE_nil, List.take_of_length_le, List.drop_of_length_le]
        · refine ⟨ia, _, hres ia (some g.ents.length) _ (.inr rfl) e1 (by simp (maxDischargeDepth := 80) only [push_cast, Nat.reduceBEq, reduceIte, reduceCtorEq, Nat.reduceEqDiff, Nat.reduceAdd, Nat.reduceMul, Nat.reduceSub, Nat.reduceLeDiff, Nat.reduceLT, Nat.reducePow, Int.reduceToNat, Int.reduceLT, Int.reduceLE, Int.reduceEq, Int.reduceAdd, Int.reduceSub, Int.reduceNeg, flatE_nil]), hfr _ _ ?_, .inl rfl⟩
          intro i hi hx
          have h1 : (i = ia) = False := eq_false (fun e => hx (by simp [e]))
          simp (maxDischargeDepth := 80) only [push_cast, Nat.reduceBEq, reduceIte, reduceCtorEq, Nat.reduceEqDiff, Nat.reduceAdd, Nat.reduceMul, Nat.reduceSub, Nat.reduceLeDiff, Nat.reduceLT, Nat.reducePow, Int.reduceToNat, Int.reduceLT, Int.reduceLE, Int.reduceEq, Int.reduceAdd, Int.reduceSub, Int.reduceNeg, h1, Off_ne hi]
      · have h3 : ¬ (g.ents.length + l.length ≤ g.ents.length) := by omega
        refine ⟨(M.set (7 :: 0 :: 1 :: 1 :: 0 :: s) (.cells (flatE g.ents ++ flatE l))).set il (.cells [.sl (7 :: 0 :: 1 :: 1 :: 0 :: s) 0 (g.ents.length + l.length) 4 none, .int .i64 g.com, .int .i64 g.app]), ?_, ?_⟩
        · rw [Fn_body Tryz.func34 (by decide) rfl rfl]
          simp (maxDischargeDepth := 80) only [push_cast, Nat.reduceBEq, reduceIte, reduceCtorEq, Nat.reduceEqDiff, Nat.reduceAdd, Nat.reduceMul, Nat.reduceSub, Nat.reduceLeDiff, Nat.reduceLT, Nat.reducePow, Int.reduceToNat, Int.reduceLT, Int.reduceLE, Int.reduceEq, Int.reduceAdd, Int.reduceSub, Int.reduceNeg, r1, r2, r3, r4, r5, c1, c2, hz, fresh_dn hM, fresh_at hM, h.obj, Off_dn (Off_of hM h.obj), Off_ne (Off_of hM h.obj), Off_ne' (Off_of hM h.obj), h.arr, Off_dn (Off_of hM h.arr), Off_ne (Off_of hM h.arr), Off_ne' (Off_of hM h.arr), hsrc, hcl, hcg, hm, h3, e1, e2, take_len]
        · refine ⟨7 :: 0 :: 1 :: 1 :: 0 :: s, _, hres _ none _ (.inl rfl) (Off_ne (Off_of hM h.obj) hu) (by simp (maxDischargeDepth := 80) only [push_cast, Nat.reduceBEq, reduceIte, reduceCtorEq, Nat.reduceEqDiff, Nat.reduceAdd, Nat.reduceMul, Nat.reduceSub, Nat.reduceLeDiff, Nat.reduceLT, Nat.reducePow, Int.reduceToNat, Int.reduceLT, Int.reduceLE, Int.reduceEq, Int.reduceAdd, Int.reduceSub, Int.reduceNeg]), hfr _ _ ?_, .inr hu⟩
          intro i hi hx
          have h1 : (i = ia) = False := eq_false (fun e => hx (by simp [e]))
          simp (maxDischargeDepth := 80) only [push_cast, Nat.reduceBEq, reduceIte, reduceCtorEq, Nat.reduceEqDiff, Nat.reduceAdd, Nat.reduceMul, Nat.reduceSub, Nat.reduceLeDiff, Nat.reduceLT, Nat.reducePow, Int.reduceToNat, Int.reduceLT, Int.reduceLE, Int.reduceEq, Int.reduceAdd, Int.reduceSub, Int.reduceNeg, h1, Off_ne hi]

theorem rlogNew_E (b t : Int) (s : Id) (M : Mem) (hM : FreshM s M) :
    Fn env false 33 [.int .i64 b, .int .i64 t] s M = if withinL b && withinL t then
      some (.tup [.ptr (7 :: 0 :: 1 :: 1 :: 0 :: s) 0, .int .i64 0], ((M.set (3 :: 0 :: 1 :: 1 :: 0 :: s) (.cells [.int .i64 b, .int .i64 t, .int .i64 0, .nils])).set (7 :: 0 :: 1 :: 1 :: 0 :: s) (.cells [.sl (3 :: 0 :: 1 :: 1 :: 0 :: s) 0 1 4 (some 1), .int .i64 b, .int .i64 b]))) else some (.tup [.nilp, .int .i64 1], M) := by
  have r1 := fun n s' M' => within_E n s' M'
  rw [Fn_body Tryz.func33 (by decide) rfl rfl]
  cases c1 : withinL b with
  | false => simp (maxDischargeDepth := 80) only [push_cast, Nat.reduceBEq, reduceIte, reduceCtorEq, Nat.reduceEqDiff, Nat.reduceAdd, Nat.reduceMul, Nat.reduceSub, Nat.reduceLeDiff, Nat.reduceLT, Nat.reducePow, Int.reduceToNat, Int.reduceLT, Int.reduceLE, Int.reduceEq, Int.reduceAdd, Int.reduceSub, Int.reduceNeg, r1, c1, fresh_dn hM, fresh_at hM]
  | true =>
  cases c2 : withinL t with
  | false => simp (maxDischargeDepth := 80) only [push_cast, Nat.reduceBEq, reduceIte, reduceCtorEq, Nat.reduceEqDiff, Nat.reduceAdd, Nat.reduceMul, Nat.reduceSub, Nat.reduceLeDiff, Nat.reduceLT, Nat.reducePow, Int.reduceToNat, Int.reduceLT, Int.reduceLE, Int.reduceEq, Int.reduceAdd, Int.reduceSub, Int.reduceNeg, r1, c1, c2, fresh_dn hM, fresh_at hM]
  | true => simp (maxDischargeDepth := 80) only [push_cast, Nat.reduceBEq, reduceIte, reduceCtorEq, Nat.reduceEqDiff, Nat.reduceAdd, Nat.reduceMul, Nat.reduceSub, Nat.reduceLeDiff, Nat.reduceLT, Nat.reducePow, Int.reduceToNat, Int.reduceLT, Int.reduceLE, Int.reduceEq, Int.reduceAdd, Int.reduceSub, Int.reduceNeg, r1, c1, c2, fresh_dn hM, fresh_at hM]

def Lg.get (g : Lg) (i n : Int) : List Ent := if i ≤ g.base ∨ g.has i = false ∨ n < 1 then [] else (g.ents.drop (i - g.base).toNat).take n.toNat

theorem get_E {il ia v g} (i n : Int) (s : Id) (M : Mem) (hM : FreshM s M) (h : LogAt M il ia v g) : Fn env true 53 [.ptr il 0, .int .i64 i, .int .i64 n] s M = some (copiedV (g.get i n), M) := by
  have r1 := fun s' M' (q1 : FreshM s' M') (q2 : Sub M M') => base_E s' M' q1 (h.mono q2)
  have r2 := fun s' M' (q1 : FreshM s' M') (q2 : Sub M M') => has_E i s' M' q1 (h.mono q2)
  rw [Fn_body Tryz.func53 (by decide) rfl rfl]
  by_cases c1 : i ≤ g.base
  · simp (maxDischargeDepth := 80) only [push_cast, Nat.reduceBEq, reduceIte, reduceCtorEq, Nat.reduceEqDiff, Nat.reduceAdd, Nat.reduceMul, Nat.reduceSub, Nat.reduceLeDiff, Nat.reduceLT, Nat.reducePow, Int.reduceToNat, Int.reduceLT, Int.reduceLE, Int.reduceEq, Int.reduceAdd, Int.reduceSub, Int.reduceNeg, r1, c1, Lg.get, copiedV_nil, fresh_dn hM, fresh_at hM]
  cases c2 : g.has i with
  | false => simp (maxDischargeDepth := 80) only [push_cast, Nat.reduceBEq, reduceIte, reduceCtorEq, Nat.reduceEqDiff, Nat.reduceAdd, Nat.reduceMul, Nat.reduceSub, Nat.reduceLeDiff, Nat.reduceLT, Nat.reducePow, Int.reduceToNat, Int.reduceLT, Int.reduceLE, Int.reduceEq, Int.reduceAdd, Int.reduceSub, Int.reduceNeg, r1, r2, c1, c2, Lg.get, copiedV_nil, fresh_dn hM, fresh_at hM]
  | true =>
  by_cases c3 : n < 1
  · simp (maxDischargeDepth := 80) only [push_cast, Nat.reduceBEq, reduceIte, reduceCtorEq, Nat.reduceEqDiff, Nat.reduceAdd, Nat.reduceMul, Nat.reduceSub, Nat.reduceLeDiff, Nat.reduceLT, Nat.reducePow, Int.reduceToNat, Int.reduceLT, Int.reduceLE, Int.reduceEq, Int.reduceAdd, Int.reduceSub, Int.reduceNeg, r1, r2, c1, c2, c3, Lg.get, copiedV_nil, fresh_dn hM, fresh_at hM]
  · have hi := Lg.has_iff.1 c2
    obtain ⟨v', e2, e1⟩ := from_E i h ⟨by omega, by omega⟩
    have hdt0 : ∀ e ∈ g.ents.drop (i - g.base).toNat, dlen e.data ≤ mostLen := fun e he => by
      have := h.ok.data e (List.mem_of_mem_drop he)
      unfold mostLen; omega
    have hfew : (g.ents.drop (i - g.base).toNat).length ≤ 2 ^ 35 := by have := h.ok.few; rw [List.length_drop]; omega
    have hg0 : g.get i n = (g.ents.drop (i - g.base).toNat).take n.toNat := by rw [Lg.get, if_neg (by simp [c1, c2, c3])]
    generalize g.ents.drop (i - g.base).toNat = ld at *
    have hlen := e2.rd.len
    have hmn : (if (ld.length : Int) < n then (ld.length : Int) else n) = ((min n.toNat ld.length : Nat) : Int) := by split <;> omega
    obtain ⟨v2, e3, e4⟩ := e2.upTo (min n.toNat ld.length) (Nat.min_le_right _ _)
    have hget : g.get i n = ld.take (min n.toNat ld.length) := by
      rw [hg0, ← List.take_take, List.take_of_length_le (Nat.le_refl ld.length)]
    rw [← hget] at e4
    have hsm : (g.get i n).length ≤ 2 ^ 35 := by rw [hget, List.length_take]; omega
    have hdt : ∀ e ∈ g.get i n, dlen e.data ≤ mostLen := fun e he => by
      rw [hget] at he
      exact hdt0 e (List.mem_of_mem_take he)
    have r3 := fun s' M' (q1 : FreshM s' M') (q2 : Sub M M') => copied_E v2 (g.get i n) s' M' q1 (e4.rd.toE.mono q2) hsm hdt
    simp (maxDischargeDepth := 80) only [push_cast, Nat.reduceBEq, reduceIte, reduceCtorEq, Nat.reduceEqDiff, Nat.reduceAdd, Nat.reduceMul, Nat.reduceSub, Nat.reduceLeDiff, Nat.reduceLT, Nat.reducePow, Int.reduceToNat, Int.reduceLT, Int.reduceLE, Int.reduceEq, Int.reduceAdd, Int.reduceSub, Int.reduceNeg, r1, r2, c1, c2, c3, e1, hlen, hmn, e3, r3, fz_copied, fresh_dn hM, fresh_at hM]

theorem commit_E {il ia v g} (i : Int) (s : Id) (M : Mem) (hM : FreshM s M) (h : LogAt M il ia v g) :
    Fn env false 161 [.ptr il 0, .int .i64 i] s M = if i < g.com ∨ g.last < i then some (.int .i64 7, M) else some (.int .i64 0, M.set il (.cells [v, .int .i64 i, .int .i64 g.app])) := by
  have r2 := fun s' M' (q1 : FreshM s' M') (q2 : Sub M M') => last_E s' M' q1 (h.mono q2)
  have r3 : ∀ s' M', FreshM s' M' → M' il = M il → Fn env false 209 [.ptr il 1, .int .i64 i, .int .i64 g.com, .int .i64 g.last] s' M' = if i < g.com ∨ g.last < i then some (.int .i64 7, M') else some (.int .i64 0, M'.set il (.cells [v, .int .i64 i, .int .i64 g.app])) := by
    intro s' M' hM' h2
    have h3 := h2.trans h.obj
    rw [Fn_body Tryz.func209 (by decide) rfl rfl]
    by_cases c1 : i < g.com
    · simp (maxDischargeDepth := 80) only [push_cast, Nat.reduceBEq, reduceIte, reduceCtorEq, Nat.reduceEqDiff, Nat.reduceAdd, Nat.reduceMul, Nat.reduceSub, Nat.reduceLeDiff, Nat.reduceLT, Nat.reducePow, Int.reduceToNat, Int.reduceLT, Int.reduceLE, Int.reduceEq, Int.reduceAdd, Int.reduceSub, Int.reduceNeg, c1, fresh_dn hM', fresh_at hM']
    by_cases c2 : g.last < i
    · simp (maxDischargeDepth := 80) only [push_cast, Nat.reduceBEq, reduceIte, reduceCtorEq, Nat.reduceEqDiff, Nat.reduceAdd, Nat.reduceMul, Nat.reduceSub, Nat.reduceLeDiff, Nat.reduceLT, Nat.reducePow, Int.reduceToNat, Int.reduceLT, Int.reduceLE, Int.reduceEq, Int.reduceAdd, Int.reduceSub, Int.reduceNeg, c1, c2, fresh_dn hM', fresh_at hM']
    · simp (maxDischargeDepth := 80) only [push_cast, Nat.reduceBEq, reduceIte, reduceCtorEq, Nat.reduceEqDiff, Nat.reduceAdd, Nat.reduceMul, Nat.reduceSub, Nat.reduceLeDiff, Nat.reduceLT, Nat.reducePow, Int.reduceToNat, Int.reduceLT, Int.reduceLE, Int.reduceEq, Int.reduceAdd, Int.reduceSub, Int.reduceNeg, c1, c2, h3, h.vone, h.vcells, fresh_dn hM', fresh_at hM']
  rw [Fn_body Tryz.func161 (by decide) rfl rfl]
  by_cases c1 : i < g.com ∨ g.last < i
  · simp (maxDischargeDepth := 80) only [push_cast, Nat.reduceBEq, reduceIte, reduceCtorEq, Nat.reduceEqDiff, Nat.reduceAdd, Nat.reduceMul, Nat.reduceSub, Nat.reduceLeDiff, Nat.reduceLT, Nat.reducePow, Int.reduceToNat, Int.reduceLT, Int.reduceLE, Int.reduceEq, Int.reduceAdd, Int.reduceSub, Int.reduceNeg, r2, r3, c1, h.obj, fresh_dn hM, fresh_at hM]
  · simp (maxDischargeDepth := 80) only [push_cast, Nat.reduceBEq, reduceIte, reduceCtorEq, Nat.reduceEqDiff, Nat.reduceAdd, Nat.reduceMul, Nat.reduceSub, Nat.reduceLeDiff, Nat.reduceLT, Nat.reducePow, Int.reduceToNat, Int.reduceLT, Int.reduceLE, Int.reduceEq, Int.reduceAdd, Int.reduceSub, Int.reduceNeg, r2, r3, c1, h.obj, fresh_dn hM, fresh_at hM]
end Go.Ab.R
