/- Who is alone begins, ticks, and leads: awake. Conditions: none. -/
import Derived.Test.YtpohfmcpfkbabaaGreatOt
set_option linter.unusedSimpArgs false
set_option linter.unusedVariables false
namespace Go.Ab.R
open Go Go.Proofs
set_option maxRecDepth 100000

theorem Off_un {t u j : Id} (h1 : Off t u) (h2 : Off u t) (hj : Un u j) : Off t j := fun h => by
  rcases List.suffix_or_suffix_of_suffix h hj with q | q
  · exact h1 q
  · exact h2 q
theorem addE_one {g : Lg} {x : Ent} (h1 : x.index = g.last + 1) (h2 : 1 ≤ x.index) (h3 : x.index ≤ 1099511627776) (h4 : 0 ≤ x.term) (h5 : x.term ≤ 1099511627776) (h6 : (g.at_ g.last).term ≤ x.term) (h7 : 0 ≤ x.kind) (h8 : x.kind ≤ 7) (h9 : dlen x.data ≤ 4096) : g.addE [x] = 0 := by
  have ho : oddL x = false := by
    simp only [oddL, withinL, Bool.or_eq_false_iff, decide_eq_false_iff_not, Bool.not_eq_false', Bool.and_eq_true, decide_eq_true_eq]
    omega
  have hw : IntKind.wrap .i64 (x.index - 1) = g.last := by rw [wrap_id (by omega) (by omega)]; omega
  have hf : followL [x] g.last (g.at_ g.last).term = true := by
    rw [followL, if_neg (by simp only [hw, ne_eq, not_true_eq_false, false_or, Int.not_lt]; exact h6), followL]
  simp [Lg.addE, ho, hf]

theorem snp1_right : snp1.right = true := by decide
theorem start_at : (Lg.start snp1 []).at_ (Lg.start snp1 []).last = ⟨0, 0, 0, none⟩ := rfl
theorem start_last : (Lg.start snp1 []).last = 0 := rfl

def snd1 (ie il : Id) (t : Int) : Nd := ⟨ie, 1, 1, il, snp1, some [1], none, .nilm, .nils, 0, t, 0, false, 0, .nils, .nils⟩
def sel1 (t : Int) (im : Id) : Elc := ⟨1, 1, t, 0, intsV (some [1]), .nils, 0, 0, 0, 1, .mapr im⟩

theorem begin1_E (t : Int) (ht : 0 ≤ t) (ht2 : t ≤ 1099511627776) (i : Id) (c : Option Nat) (s : Id) (M : Mem) (hM : FreshM s M) (hi : M i = some (.cells [.int .i64 1])) :
    ∃ x : Mem × Id × Id × Id × Id × V × Id, Fn env false 9 [.int .i64 1, .agg [.int .i64 t, .int .i64 0], .agg [.int .i64 0, .int .i64 0, .sl i 0 1 1 c, .nils, .nils], .nils, .agg [.int .i64 1, .int .i64 1]] s M = some (.tup [.ptr x.2.1 0, .int .i64 0], x.1) ∧
      NodeAt x.1 x.2.1 (snd1 x.2.2.1 x.2.2.2.1 t) (sel1 t x.2.2.2.2.2.2) x.2.2.2.2.1 x.2.2.2.2.2.1 (Lg.start snp1 []) ∧ FrM s [] M x.1 ∧ Un s x.2.1 ∧ Un s x.2.2.1 ∧ Un s x.2.2.2.1 ∧ Un s x.2.2.2.2.1 := by
  have h : SnpAt M (.sl i 0 1 1 c) .nils .nils snp1 := ⟨.sl i c [1] hi, .nils, rfl, by decide, by decide, by decide⟩
  have hwl : RdX M .nils [] := EntsV.nils.rd
  have hel : electOk 1 t 0 1 [1] [] = true := by
    simp only [electOk, withinR, right1, Bool.and_eq_true, decide_eq_true_eq, and_true]; omega
  obtain ⟨x, h1, h2, h3, h4⟩ := new_E (fun g _ => g) (fun _ => True) 1 1 1 t 0 (.sl i 0 1 1 c) .nils .nils .nils snp1 [] s M hM h hwl snp1_right (by decide) hel (by decide) (by simp)
    (chg0 _ (fun x hx => by simp only [Lg.start, List.mem_singleton] at hx; subst hx; decide)) trivial (some [1], none) (by rw [groupL_const]; rfl) right1 (by decide) (by decide)
  exact ⟨x, h1, h2, h3, h4⟩

/-- the log behind the first tick -/
def lg1 (T : Int) (l : List Ent) : Lg := ⟨0, ⟨0, 0, 0, none⟩ :: ⟨1, T, 0, none⟩ :: l, 1 + l.length, 0⟩
theorem lg1_nil (T : Int) : (Lg.start snp1 []).led ⟨(Lg.start snp1 []).last + 1, T, 0, none⟩ = lg1 T [] := rfl

def lnd (ie il im : Id) (f tt tv : Int) (rds : V) : Nd := ⟨ie, 1, 1, il, snp1, some [1], none, .mapr im, .nils, 0, tt, tv, false, f, .nils, rds⟩
def lel (T : Int) (im : Id) : Elc := ⟨1, 1, T, 1, intsV (some [1]), .nils, 3, 1, 0, 1, .mapr im⟩

theorem ticked1_E (t : Int) (ht : 0 ≤ t) (ht2 : t < 1099511627776) {M : Mem} {p ie il ia : Id} {v : V} {im : Id} (s : Id) (hM : FreshM s M) (h : NodeAt M p (snd1 ie il t) (sel1 t im) ia v (Lg.start snp1 [])) :
    ∃ x : Mem × Id × V × Id × Id, Fn env false 10 [.ptr p 0, .int .i64 0] s M = some (.tup [], x.1) ∧ Lone x.1 p (lnd ie il x.2.2.2.1 1 t 0 .nils) (lel (t + 1) x.2.2.2.2) x.2.1 x.2.2.1 (lg1 (t + 1) []) x.2.2.2.1 ∧
      FrM s [p, ie, il, ia] M x.1 ∧ (x.2.1 = ia ∨ Un s x.2.1) := by
  have ha : (Lg.start snp1 []).addE [⟨(Lg.start snp1 []).last + 1, t + 1, 0, none⟩] = 0 := addE_one rfl (show (1 : Int) ≤ 1 by decide) (show (1 : Int) ≤ 1099511627776 by decide) (by simp only; omega) (by simp only; omega) (by rw [start_at]; simp only; omega) (show (0 : Int) ≤ 0 by decide) (show (0 : Int) ≤ 7 by decide) (show 0 ≤ 4096 by decide)
  obtain ⟨x, h1, h2, h3, h4⟩ := tick1_E 0 s hM h (fun x hx => by simp only [Lg.start, List.mem_singleton] at hx; subst hx; decide) ⟨rfl, rfl, rfl, rfl, rfl, rfl, rfl, rfl⟩ rfl rfl rfl rfl rfl rfl rfl rfl rfl (show (0 : Int) ≠ 3 by decide) rfl rfl rfl ht2 ht ha (by decide) (by decide)
  refine ⟨x, h1, ?_, h3, h4⟩
  exact h2

theorem awake_E (s : Id) (M : Mem) (hM : FreshM s M) (frz : Bool) (hf : frz = false) : Fn env frz 8 [] s M = some (.bool true, M) := by
  subst hf
  have u1 : Un s (5 :: 0 :: 1 :: 0 :: s) := by simp (maxDischargeDepth := 80) only [push_cast, Nat.reduceBEq, reduceIte, reduceCtorEq, Nat.reduceEqDiff, Nat.reduceAdd, Nat.reduceMul, Nat.reduceSub, Nat.reduceLeDiff, Nat.reduceLT, Nat.reducePow, Int.reduceToNat, Int.reduceLT, Int.reduceLE, Int.reduceEq, Int.reduceAdd, Int.reduceSub, Int.reduceNeg]
  have u2 : Un s (1 :: 0 :: 1 :: 1 :: 1 :: 0 :: s) := by simp (maxDischargeDepth := 80) only [push_cast, Nat.reduceBEq, reduceIte, reduceCtorEq, Nat.reduceEqDiff, Nat.reduceAdd, Nat.reduceMul, Nat.reduceSub, Nat.reduceLeDiff, Nat.reduceLT, Nat.reducePow, Int.reduceToNat, Int.reduceLT, Int.reduceLE, Int.reduceEq, Int.reduceAdd, Int.reduceSub, Int.reduceNeg]
  have u0 : Un s (1 :: 0 :: 1 :: 0 :: s) := by simp (maxDischargeDepth := 80) only [push_cast, Nat.reduceBEq, reduceIte, reduceCtorEq, Nat.reduceEqDiff, Nat.reduceAdd, Nat.reduceMul, Nat.reduceSub, Nat.reduceLeDiff, Nat.reduceLT, Nat.reducePow, Int.reduceToNat, Int.reduceLT, Int.reduceLE, Int.reduceEq, Int.reduceAdd, Int.reduceSub, Int.reduceNeg]
  have hx1 : FreshM (5 :: 0 :: 1 :: 0 :: s) (M.set (1 :: 0 :: 1 :: 0 :: s) (.cells [.int .i64 1])) := by simp (maxDischargeDepth := 80) only [push_cast, Nat.reduceBEq, reduceIte, reduceCtorEq, Nat.reduceEqDiff, Nat.reduceAdd, Nat.reduceMul, Nat.reduceSub, Nat.reduceLeDiff, Nat.reduceLT, Nat.reducePow, Int.reduceToNat, Int.reduceLT, Int.reduceLE, Int.reduceEq, Int.reduceAdd, Int.reduceSub, Int.reduceNeg, fresh_dn hM, fresh_at hM]
  obtain ⟨x, h1, h2, h3, h4⟩ := begin1_E 0 (by decide) (by decide) (1 :: 0 :: 1 :: 0 :: s) (some 1) (5 :: 0 :: 1 :: 0 :: s) (M.set (1 :: 0 :: 1 :: 0 :: s) (.cells [.int .i64 1])) hx1 (by simp (maxDischargeDepth := 80) only [push_cast, Nat.reduceBEq, reduceIte, reduceCtorEq, Nat.reduceEqDiff, Nat.reduceAdd, Nat.reduceMul, Nat.reduceSub, Nat.reduceLeDiff, Nat.reduceLT, Nat.reducePow, Int.reduceToNat, Int.reduceLT, Int.reduceLE, Int.reduceEq, Int.reduceAdd, Int.reduceSub, Int.reduceNeg])
  have hF2 : FreshM (1 :: 0 :: 1 :: 1 :: 1 :: 0 :: s) x.1 := h3.fr (by simp (maxDischargeDepth := 80) only [push_cast, Nat.reduceBEq, reduceIte, reduceCtorEq, Nat.reduceEqDiff, Nat.reduceAdd, Nat.reduceMul, Nat.reduceSub, Nat.reduceLeDiff, Nat.reduceLT, Nat.reducePow, Int.reduceToNat, Int.reduceLT, Int.reduceLE, Int.reduceEq, Int.reduceAdd, Int.reduceSub, Int.reduceNeg, fresh_dn hM, fresh_at hM]) (by simp (maxDischargeDepth := 80) only [push_cast, Nat.reduceBEq, reduceIte, reduceCtorEq, Nat.reduceEqDiff, Nat.reduceAdd, Nat.reduceMul, Nat.reduceSub, Nat.reduceLeDiff, Nat.reduceLT, Nat.reducePow, Int.reduceToNat, Int.reduceLT, Int.reduceLE, Int.reduceEq, Int.reduceAdd, Int.reduceSub, Int.reduceNeg]) (by simp (maxDischargeDepth := 80) only [push_cast, Nat.reduceBEq, reduceIte, reduceCtorEq, Nat.reduceEqDiff, Nat.reduceAdd, Nat.reduceMul, Nat.reduceSub, Nat.reduceLeDiff, Nat.reduceLT, Nat.reducePow, Int.reduceToNat, Int.reduceLT, Int.reduceLE, Int.reduceEq, Int.reduceAdd, Int.reduceSub, Int.reduceNeg]) (fun _ hx => by cases hx)
  obtain ⟨y, k1, k2, k3, k4⟩ := ticked1_E 0 (by decide) (by decide) (1 :: 0 :: 1 :: 1 :: 1 :: 0 :: s) hF2 h2
  have hN := k2.at_
  have hs : Sub M y.1 := by
    intro i o q
    have hio : Off s i := Off_of hM q
    have hx : x.1 i = some o := by
      rw [h3 i (Off_dn hio u1) (by simp)]
      simp (maxDischargeDepth := 80) only [push_cast, Nat.reduceBEq, reduceIte, reduceCtorEq, Nat.reduceEqDiff, Nat.reduceAdd, Nat.reduceMul, Nat.reduceSub, Nat.reduceLeDiff, Nat.reduceLT, Nat.reducePow, Int.reduceToNat, Int.reduceLT, Int.reduceLE, Int.reduceEq, Int.reduceAdd, Int.reduceSub, Int.reduceNeg, Off_ne hio, q]
    have hni : ∀ j, Un (5 :: 0 :: 1 :: 0 :: s) j → ¬ i = j := fun j hj e => hio (by rw [e]; exact List.IsSuffix.trans u1 hj)
    rw [k3 i (Off_dn hio u2) (by simp [hni _ h4.1, hni _ h4.2.1, hni _ h4.2.2.1, hni _ h4.2.2.2])]
    exact hx
  have hoff : ∀ t, Off t (5 :: 0 :: 1 :: 0 :: s) → Off (5 :: 0 :: 1 :: 0 :: s) t → ∀ j ∈ [x.2.1, x.2.2.1, x.2.2.2.1, x.2.2.2.2.1], Off t j := fun t a b j hj => by
    simp only [List.mem_cons, List.not_mem_nil, or_false] at hj
    rcases hj with rfl | rfl | rfl | rfl
    · exact Off_un a b h4.1
    · exact Off_un a b h4.2.1
    · exact Off_un a b h4.2.2.1
    · exact Off_un a b h4.2.2.2
  have hel : y.1 x.2.2.1 = _ := hN.el
  have r1 := fun s' (q1 : FreshM s' y.1) => role_E s' q1 hel
  have r2 := fun s' (q1 : FreshM s' y.1) => com1_E s' q1 hN
  have hF3 : FreshM (4 :: 0 :: 1 :: 1 :: 1 :: 1 :: 0 :: s) y.1 := k3.fr (h3.fr (by simp (maxDischargeDepth := 80) only [push_cast, Nat.reduceBEq, reduceIte, reduceCtorEq, Nat.reduceEqDiff, Nat.reduceAdd, Nat.reduceMul, Nat.reduceSub, Nat.reduceLeDiff, Nat.reduceLT, Nat.reducePow, Int.reduceToNat, Int.reduceLT, Int.reduceLE, Int.reduceEq, Int.reduceAdd, Int.reduceSub, Int.reduceNeg, fresh_dn hM, fresh_at hM]) (by simp (maxDischargeDepth := 80) only [push_cast, Nat.reduceBEq, reduceIte, reduceCtorEq, Nat.reduceEqDiff, Nat.reduceAdd, Nat.reduceMul, Nat.reduceSub, Nat.reduceLeDiff, Nat.reduceLT, Nat.reducePow, Int.reduceToNat, Int.reduceLT, Int.reduceLE, Int.reduceEq, Int.reduceAdd, Int.reduceSub, Int.reduceNeg]) (by simp (maxDischargeDepth := 80) only [push_cast, Nat.reduceBEq, reduceIte, reduceCtorEq, Nat.reduceEqDiff, Nat.reduceAdd, Nat.reduceMul, Nat.reduceSub, Nat.reduceLeDiff, Nat.reduceLT, Nat.reducePow, Int.reduceToNat, Int.reduceLT, Int.reduceLE, Int.reduceEq, Int.reduceAdd, Int.reduceSub, Int.reduceNeg]) (fun _ hx => by cases hx)) (by simp (maxDischargeDepth := 80) only [push_cast, Nat.reduceBEq, reduceIte, reduceCtorEq, Nat.reduceEqDiff, Nat.reduceAdd, Nat.reduceMul, Nat.reduceSub, Nat.reduceLeDiff, Nat.reduceLT, Nat.reducePow, Int.reduceToNat, Int.reduceLT, Int.reduceLE, Int.reduceEq, Int.reduceAdd, Int.reduceSub, Int.reduceNeg]) (by simp (maxDischargeDepth := 80) only [push_cast, Nat.reduceBEq, reduceIte, reduceCtorEq, Nat.reduceEqDiff, Nat.reduceAdd, Nat.reduceMul, Nat.reduceSub, Nat.reduceLeDiff, Nat.reduceLT, Nat.reducePow, Int.reduceToNat, Int.reduceLT, Int.reduceLE, Int.reduceEq, Int.reduceAdd, Int.reduceSub, Int.reduceNeg]) (hoff _ (by simp (maxDischargeDepth := 80) only [push_cast, Nat.reduceBEq, reduceIte, reduceCtorEq, Nat.reduceEqDiff, Nat.reduceAdd, Nat.reduceMul, Nat.reduceSub, Nat.reduceLeDiff, Nat.reduceLT, Nat.reducePow, Int.reduceToNat, Int.reduceLT, Int.reduceLE, Int.reduceEq, Int.reduceAdd, Int.reduceSub, Int.reduceNeg]) (by simp (maxDischargeDepth := 80) only [push_cast, Nat.reduceBEq, reduceIte, reduceCtorEq, Nat.reduceEqDiff, Nat.reduceAdd, Nat.reduceMul, Nat.reduceSub, Nat.reduceLeDiff, Nat.reduceLT, Nat.reducePow, Int.reduceToNat, Int.reduceLT, Int.reduceLE, Int.reduceEq, Int.reduceAdd, Int.reduceSub, Int.reduceNeg]))
  have hF4 : FreshM (8 :: 0 :: 1 :: 1 :: 1 :: 1 :: 0 :: s) y.1 := k3.fr (h3.fr (by simp (maxDischargeDepth := 80) only [push_cast, Nat.reduceBEq, reduceIte, reduceCtorEq, Nat.reduceEqDiff, Nat.reduceAdd, Nat.reduceMul, Nat.reduceSub, Nat.reduceLeDiff, Nat.reduceLT, Nat.reducePow, Int.reduceToNat, Int.reduceLT, Int.reduceLE, Int.reduceEq, Int.reduceAdd, Int.reduceSub, Int.reduceNeg, fresh_dn hM, fresh_at hM]) (by simp (maxDischargeDepth := 80) only [push_cast, Nat.reduceBEq, reduceIte, reduceCtorEq, Nat.reduceEqDiff, Nat.reduceAdd, Nat.reduceMul, Nat.reduceSub, Nat.reduceLeDiff, Nat.reduceLT, Nat.reducePow, Int.reduceToNat, Int.reduceLT, Int.reduceLE, Int.reduceEq, Int.reduceAdd, Int.reduceSub, Int.reduceNeg]) (by simp (maxDischargeDepth := 80) only [push_cast, Nat.reduceBEq, reduceIte, reduceCtorEq, Nat.reduceEqDiff, Nat.reduceAdd, Nat.reduceMul, Nat.reduceSub, Nat.reduceLeDiff, Nat.reduceLT, Nat.reducePow, Int.reduceToNat, Int.reduceLT, Int.reduceLE, Int.reduceEq, Int.reduceAdd, Int.reduceSub, Int.reduceNeg]) (fun _ hx => by cases hx)) (by simp (maxDischargeDepth := 80) only [push_cast, Nat.reduceBEq, reduceIte, reduceCtorEq, Nat.reduceEqDiff, Nat.reduceAdd, Nat.reduceMul, Nat.reduceSub, Nat.reduceLeDiff, Nat.reduceLT, Nat.reducePow, Int.reduceToNat, Int.reduceLT, Int.reduceLE, Int.reduceEq, Int.reduceAdd, Int.reduceSub, Int.reduceNeg]) (by simp (maxDischargeDepth := 80) only [push_cast, Nat.reduceBEq, reduceIte, reduceCtorEq, Nat.reduceEqDiff, Nat.reduceAdd, Nat.reduceMul, Nat.reduceSub, Nat.reduceLeDiff, Nat.reduceLT, Nat.reducePow, Int.reduceToNat, Int.reduceLT, Int.reduceLE, Int.reduceEq, Int.reduceAdd, Int.reduceSub, Int.reduceNeg]) (hoff _ (by simp (maxDischargeDepth := 80) only [push_cast, Nat.reduceBEq, reduceIte, reduceCtorEq, Nat.reduceEqDiff, Nat.reduceAdd, Nat.reduceMul, Nat.reduceSub, Nat.reduceLeDiff, Nat.reduceLT, Nat.reducePow, Int.reduceToNat, Int.reduceLT, Int.reduceLE, Int.reduceEq, Int.reduceAdd, Int.reduceSub, Int.reduceNeg]) (by simp (maxDischargeDepth := 80) only [push_cast, Nat.reduceBEq, reduceIte, reduceCtorEq, Nat.reduceEqDiff, Nat.reduceAdd, Nat.reduceMul, Nat.reduceSub, Nat.reduceLeDiff, Nat.reduceLT, Nat.reducePow, Int.reduceToNat, Int.reduceLT, Int.reduceLE, Int.reduceEq, Int.reduceAdd, Int.reduceSub, Int.reduceNeg]))
  have hobj := hN.obj
  have c1 : (lg1 (0 + 1) []).com = 1 := rfl
  have c2 : (lel (0 + 1) y.2.2.2.2).role = 3 := rfl
  rw [c1] at r2
  rw [c2] at r1
  simp only [Nd.cs_eq, lnd] at hobj
  rw [Fn_body Tryz.func8 (by decide) rfl rfl]
  simp (maxDischargeDepth := 80) only [push_cast, Nat.reduceBEq, reduceIte, reduceCtorEq, Nat.reduceEqDiff, Nat.reduceAdd, Nat.reduceMul, Nat.reduceSub, Nat.reduceLeDiff, Nat.reduceLT, Nat.reducePow, Int.reduceToNat, Int.reduceLT, Int.reduceLE, Int.reduceEq, Int.reduceAdd, Int.reduceSub, Int.reduceNeg, h1, k1, r1, r2, hobj, fresh_dn hF3, fresh_dn hF4, hs, fresh_dn hM, fresh_at hM]
end Go.Ab.R
