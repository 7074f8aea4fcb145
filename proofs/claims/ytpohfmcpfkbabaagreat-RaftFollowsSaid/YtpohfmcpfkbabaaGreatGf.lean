/- Who is alone begins, ticks, and leads: awake. Conditions: none. -/
import Derived.Test.YtpohfmcpfkbabaaGreatGe
set_option linter.unusedSimpArgs false
set_option linter.unusedVariables false
namespace Go.Ab.R
open Go Go.Proofs
set_option maxRecDepth 100000

theorem Off_un {t u j : Id} (h1 : Off t u) (h2 : Off u t) (hj : Un u j) : Off t j := fun h => by
  rcases List.suffix_or_suffix_of_suffix h hj with q | q
  · exact h1 q
  · exact h2 q
theorem addE_one {g : Lg} {x : Ent} (h1 : x.index = g.last + 1) (h2 : 1 ≤ x.index) (h3 : x.index ≤ 1099511627776) (h4 : 0 ≤ x.term) (h5 : x.term ≤ 1099511627776) (h6 : (g.at_ g.last).term ≤ x.term) (h7 : 0 ≤ x.kind) (h8 : x.kind ≤ 7) (h9 : dlen x.data ≤ 4096) : g.addE [x] = 0 := by
  have ho : oddL x = false := by
    simp only [oddL, withinL, Bool.or_eq_false_iff, decide_eq_false_iff_not, Bool.not_eq_false', Bool.and_eq_true, decide_eq_true_eq]
    omega
  have hw : IntKind.wrap .i64 (x.index - 1) = g.last := by rw [wrap_id (by omega) (by omega)]; omega
  have hf : followL [x] g.last (g.at_ g.last).term = true := by
    rw [followL, if_neg (by simp only [hw, ne_eq, not_true_eq_false, false_or, Int.not_lt]; exact h6), followL]
  simp [Lg.addE, ho, hf]

theorem snp1_right : snp1.right = true := by decide
theorem start_at : (Lg.start snp1 []).at_ (Lg.start snp1 []).last = ⟨0, 0, 0, none⟩ := rfl
theorem start_last : (Lg.start snp1 []).last = 0 := rfl

def snd1 (ie il : Id) (t : Int) : Nd := ⟨ie, 1, 1, il, snp1, some [1], none, .nilm, .nils, 0, t, 0, false, 0, .nils, .nils⟩
def sel1 (t : Int) (im : Id) : Elc := ⟨1, 1, t, 0, intsV (some [1]), .nils, 0, 0, 0, 1, .mapr im⟩

theorem begin1_E (t : Int) (ht : 0 ≤ t) (ht2 : t ≤ 1099511627776) (i : Id) (c : Option Nat) (s : Id) (M : Mem) (hM : FreshM s M) (hi : M i = some (.cells [.int .i64 1])) :
    ∃ x : Mem × Id × Id × Id × Id × V × Id, Fn env false 9 [.int .i64 1, .agg [.int .i64 t, .int .i64 0], .agg [.int .i64 0, .int .i64 0, .sl i 0 1 1 c, .nils, .nils], .nils, .agg [.int .i64 1, .int .i64 1]] s M = some (.tup [.ptr x.2.1 0, .int .i64 0], x.1) ∧
      NodeAt x.1 x.2.1 (snd1 x.2.2.1 x.2.2.2.1 t) (sel1 t x.2.2.2.2.2.2) x.2.2.2.2.1 x.2.2.2.2.2.1 (Lg.start snp1 []) ∧ FrM s [] M x.1 ∧ Un s x.2.1 ∧ Un s x.2.2.1 ∧ Un s x.2.2.2.1 ∧ Un s x.2.2.2.2.1 := by
  have h : SnpAt M (.sl i 0 1 1 c) .nils .nils snp1 := ⟨.sl i c [1] hi, .nils, rfl, by decide, by decide, by decide⟩
  have hwl : RdX M .nils [] := EntsV.nils.rd
  have hel : electOk 1 t 0 1 [1] [] = true := by
    simp only [electOk, withinR, right1, Bool.and_eq_true, decide_eq_true_eq, and_true]; omega
  obtain ⟨x, h1, h2, h3, h4⟩ := new_E (fun g _ => g) (fun _ => True) 1 1 1 t 0 (.sl i 0 1 1 c) .nils .nils .nils snp1 [] s M hM h hwl snp1_right (by decide) hel (by decide) (by simp)
    (chg0 _ (fun x hx => by simp only [Lg.start, List.mem_singleton] at hx; subst hx; decide)) trivial (some [1], none) (by rw [groupL_const]; rfl) right1 (by decide) (by decide)
  exact ⟨x, h1, h2, h3, h4⟩

/-- the log behind the first tick -/
def lg1 (T : Int) (l : List Ent) : Lg := ⟨0, ⟨0, 0, 0, none⟩ :: ⟨1, T, 0, none⟩ :: l, 1 + l.length, 0⟩
theorem lg1_nil (T : Int) : (Lg.start snp1 []).led ⟨(Lg.start snp1 []).last + 1, T, 0, none⟩ = lg1 T [] := rfl

def lnd (ie il im : Id) (f tt tv : Int) (rds : V) : Nd := ⟨ie, 1, 1, il, snp1, some [1], none, .mapr im, .nils, 0, tt, tv, false, f, .nils, rds⟩
def lel (T : Int) (im : Id) : Elc := ⟨1, 1, T, 1, intsV (some [1]), .nils, 3, 1, 0, 1, .mapr im⟩

theorem ticked1_E (t : Int) (ht : 0 ≤ t) (ht2 : t < 1099511627776) {M : Mem} {p ie il ia : Id} {v : V} {im : Id} (s : Id) (hM : FreshM s M) (h : NodeAt M p (snd1 ie il t) (sel1 t im) ia v (Lg.start snp1 [])) :
    ∃ x : Mem × Id × V × Id × Id, Fn env false 10 [.ptr p 0, .int .i64 0] s M = some (.tup [], x.1) ∧ Lone x.1 p (lnd ie il x.2.2.2.1 1 t 0 .nils) (lel (t + 1) x.2.2.2.2) x.2.1 x.2.2.1 (lg1 (t + 1) []) x.2.2.2.1 ∧
      FrM s [p, ie, il, ia] M x.1 ∧ (x.2.1 = ia ∨ Un s x.2.1) := by
  have ha : (Lg.start snp1 []).addE [⟨(Lg.start snp1 []).last + 1, t + 1, 0, none⟩] = 0 := addE_one rfl (show (1 : Int) ≤ 1 by decide) (show (1 : Int) ≤ 1099511627776 by decide) (by simp only; omega) (by simp only; omega) (by rw [start_at]; simp only; omega) (show (0 : Int) ≤ 0 by decide) (show (0 : Int) ≤ 7 by decide) (show 0 ≤ 4096 by decide)
  obtain ⟨x, h1, h2, h3, h4⟩ := tick1_E 0 s hM h (fun x hx => by simp only [Lg.start, List.mem_singleton] at hx; subst hx; decide) ⟨rfl, rfl, rfl, rfl, rfl, rfl, rfl, rfl⟩ rfl rfl rfl rfl rfl rfl rfl rfl rfl (show (0 : Int) ≠ 3 by decide) rfl rfl rfl ht2 ht ha (by decide) (by decide)
  refine ⟨x, h1, ?_, h3, h4⟩
  exact h2

theorem awake_E (s : Id) (M : Mem) (hM : FreshM s M) (frz : Bool) (hf : frz = false) : Fn env frz 8 [] s M = some (.bool true, M) := by
  subst hf
  have u1 : Un s (5 :: 0 :: 1 :: 0 :: s) := by simp (maxDischargeDepth := 80) only [push_cast, Nat.reduceBEq, reduceIte, reduceCtorEq, Nat.reduceEqDiff, Nat.reduceAdd, Nat.reduceMul, Nat.reduceSub, Nat.reduceLeDiff, Nat.reduceLT, Nat.reducePow, Int.reduceToNat, Int.reduceLT, Int.reduceLE, Int.reduceEq, Int.reduceAdd, Int.reduceSub, Int.reduceNeg]
  have u2 : Un s (1 :: 0 :: 1 :: 1 :: 1 :: 0 :: s) := by simp (maxDischargeDepth := 80) only [push_cast, Nat.reduceBEq, reduceIte, reduceCtorEq, Nat.reduceEqDiff, Nat.reduceAdd, Nat.reduceMul, Nat.reduceSub, Nat.reduceLeDiff, Nat.reduceLT, Nat.reducePow, Int.reduceToNat, Int.reduceLT, Int.reduceLE, Int.reduceEq, Int.reduceAdd, Int.reduceSub, Int.reduceNeg]
  have u0 : Un s (1 :: 0 :: 1 :: 0 :: s) := by simp (maxDischargeDepth := 80) only [push_cast, Nat.reduceBEq, reduceIte, reduceCtorEq, Nat.reduceEqDiff, Nat.reduceAdd, Nat.reduceMul, Nat.reduceSub, Nat.reduceLeDiff, Nat.reduceLT, Nat.reducePow, Int.reduceToNat, Int.reduceLT, Int.reduceLE, Int.reduceEq, Int.reduceAdd, Int.reduceSub, Int.reduceNeg]
  have hx1 : FreshM (5 :: 0 :: 1 :: 0 :: s) (M.set (1 :: 0 :: 1 :: 0 :: s) (.cells [.int .i64 1])) := by simp (maxDischargeDepth := 80) only [push_cast, Nat.reduceBEq, reduceIte, reduceCtorEq, Nat.reduceEqDiff, Nat.reduceAdd, Nat.reduceMul, Nat.reduceSub, Nat.reduceLeDiff, Nat.reduceLT, Nat.reducePow, Int.reduceToNat, Int.reduceLT, Int.reduceLE, Int.reduceEq, Int.reduceAdd, Int.reduceSub, Int.reduceNeg, fresh_dn hM, fresh_at hM]
  obtain ⟨x, h1, h2, h3, h4⟩ := begin1_E 0 (by decide) (by decide) (1 :: 0 :: 1 :: 0 :: s) (some 1) (5 :: 0 :: 1 :: 0 :: s) (M.set (1 :: 0 :: 1 :: 0 :: s) (.cells [.int .i64 1])) hx1 (by simp (maxDischargeDepth := 80) only [push_cast, Nat.reduceBEq, reduceIte, reduceCtorEq, Nat.reduceEqDiff, Nat.reduceAdd, Nat.reduceMul, Nat.reduceSub, Nat.reduceLeDiff, Nat.reduceLT, Nat.reducePow, Int.reduceToNat, Int.reduceLT, Int.reduceLE, Int.reduceEq, Int.reduceAdd, Int.reduceSub, Int.reduceNeg])
  have hF2 : FreshM (1 :: 0 :: 1 :: 1 :: 1 :: 0 :: s) x.1 := h3.fr (by simp (maxDischargeDepth := 80) only [push_cast, Nat.reduceBEq, reduceIte, reduceCtorEq, Nat.reduceEqDiff, Nat.reduceAdd, Nat.reduceMul, Nat.reduceSub, Nat.reduceLeDiff, Nat.reduceLT, Nat.reducePow, Int.reduceToNat, Int.reduceLT, Int.reduceLE, Int.reduceEq, Int.reduceAdd, Int.reduceSub, Int.reduceNeg, fresh_dn hM, fresh_at hM]) (by simp (maxDischargeDepth := 80) only [push_cast, Nat.reduceBEq, reduceIte, reduceCtorEq, Nat.reduceEqDiff, Nat.reduceAdd, Nat.reduceMul, Nat.reduceSub, Nat.reduceLeDiff, Nat.reduceLT, Nat.reducePow, Int.reduceToNat, Int.reduceLT, Int.reduceLE, Int.reduceEq, Int.reduceAdd, Int.reduceSub, Int.reduceNeg]) (by simp (maxDischargeDepth := 80) only [push_cast, Nat.reduceBEq, reduceIte, reduceCtorEq, Nat.reduceEqDiff, Nat.reduceAdd, Nat.reduceMul, Nat.reduceSub, Nat.reduceLeDiff, Nat.reduceLT, Nat.reducePow, Int.reduceToNat, Int.reduceLT, Int.reduceLE, Int.reduceEq, Int.reduceAdd, Int.reduceSub, Int.reduceNeg]) (fun _ hx => by cases hx)
  obtain ⟨y, k1, k2, k3, k4⟩ := ticked1_E 0 (by decide) (by decide) (1 :: 0 :: 1 :: 1 :: 1 :: 0 :: s) hF2 h2
  have hN := k2.at_
  have hs : Sub M y.1 := by
    intro i o q
    have hio : Off s i := Off_of hM q
    have hx : x.1 i = some o := by
      rw [h3 i (Off_dn hio u1) (by simp)]
      simp (maxDischargeDepth := 80) only [push_cast, Nat.reduceBEq, reduceIte, reduceCtorEq, Nat.reduceEqDiff, Nat.reduceAdd, Nat.reduceMul, Nat.reduceSub, Nat.reduceLeDiff, Nat.reduceLT, Nat.reducePow, Int.reduceToNat, Int.reduceLT, Int.reduceLE, Int.reduceEq, Int.reduceAdd, Int.reduceSub, Int.reduceNeg, Off_ne hio, q]
    have hni : ∀ j, Un (5 :: 0 :: 1 :: 0 :: s) j → ¬ i = j := fun j hj e => hio (by rw [e]; exact List.IsSuffix.trans u1 hj)
    rw [k3 i (Off_dn hio u2) (by simp [hni _ h4.1, hni _ h4.2.1, hni _ h4.2.2.1, hni _ h4.2.2.2])]
    exact hx
  have hoff : ∀ t, Off t (5 :: 0 :: 1 :: 0 :: s) → Off (5 :: 0 :: 1 :: 0 :: s) t → ∀ j ∈ [x.2.1, x.2.2.1, x.2.2.2.1, x.2.2.2.2.1], Off t j := fun t a b j hj => by
    simp only [List.mem_cons, List.not_mem_nil, or_false] at hj
    rcases hj with rfl | rfl | rfl | rfl
    · exact Off_un a b h4.1
    · exact Off_un a b h4.2.1
    · exact Off_un a b h4.2.2.1
    · exact Off_un a b h4.2.2.2
  have hel : y.1 x.2.2.1 = _ := hN.el
  have r1 := fun s' (q1 : FreshM s' y.1) => role_E s' q1 hel
  have r2 := fun s' (q1 : FreshM s' y.1) => com1_E s' q1 hN
  have hF3 : FreshM (4 :: 0 :: 1 :: 1 :: 1 :: 1 :: 0 :: s) y.1 := k3.fr (h3.fr (by simp (maxDischargeDepth := 80) only [push_cast, Nat.reduceBEq, reduceIte, reduceCtorEq, Nat.reduceEqDiff, Nat.reduceAdd, Nat.reduceMul, Nat.reduceSub, Nat.reduceLeDiff, Nat.reduceLT, Nat.reducePow, Int.reduceToNat, Int.reduceLT, Int.reduceLE, Int.reduceEq, Int.reduceAdd, Int.reduceSub, Int.reduceNeg, fresh_dn hM, fresh_at hM]) (by simp (maxDischargeDepth := 80) only [push_cast, Nat.reduceBEq, reduceIte, reduceCtorEq, Nat.reduceEqDiff, Nat.reduceAdd, Nat.reduceMul, Nat.reduceSub, Nat.reduceLeDiff, Nat.reduceLT, Nat.reducePow, Int.reduceToNat, Int.reduceLT, Int.reduceLE, Int.reduceEq, Int.reduceAdd, Int.reduceSub, Int.reduceNeg]) (by simp (maxDischargeDepth := 80) only [push_cast, Nat.reduceBEq, reduceIte, reduceCtorEq, Nat.reduceEqDiff, Nat.reduceAdd, Nat.reduceMul, Nat.reduceSub, Nat.reduceLeDiff, Nat.reduceLT, Nat.reducePow, Int.reduceToNat, Int.reduceLT, Int.reduceLE, Int.reduceEq, Int.reduceAdd, Int.reduceSub, Int.reduceNeg]) (fun _ hx => by cases hx)) (by simp (maxDischargeDepth := 80) only [push_cast, Nat.reduceBEq, reduceIte, reduceCtorEq, Nat.reduceEqDiff, Nat.reduceAdd, Nat.reduceMul, Nat.reduceSub, Nat.reduceLeDiff, Nat.reduceLT, Nat.reducePow, Int.reduceToNat, Int.reduceLT, Int.reduceLE, Int.reduceEq, Int.reduceAdd, Int.reduceSub, Int.reduceNeg]) (by simp (maxDischargeDepth := 80) only [push_cast, Nat.reduceBEq, reduceIte, reduceCtorEq, Nat.reduceEqDiff, Nat.reduceAdd, Nat.reduceMul, Nat.reduceSub, Nat.reduceLeDiff, Nat.reduceLT, Nat.reducePow, Int.reduceToNat, Int.reduceLT, Int.reduceLE, Int.reduceEq, Int.reduceAdd, Int.reduceSub, Int.reduceNeg]) (hoff _ (by simp (maxDischargeDepth := 80) only [push_cast, Nat.reduceBEq, reduceIte, reduceCtorEq, Nat.reduceEqDiff, Nat.reduceAdd, Nat.reduceMul, Nat.reduceSub, Nat.reduceLeDiff, Nat.reduceLT, Nat.reducePow, Int.reduceToNat, Int.reduceLT, Int.reduceLE, Int.reduceEq, Int.reduceAdd, Int.reduceSub, Int.reduceNeg]) (by simp (maxDischargeDepth := 80) only [push_cast, Nat.reduceBEq, reduceIte, reduceCtorEq, Nat.reduceEqDiff, Nat.reduceAdd, Nat.reduceMul, Nat.reduceSub, Nat.reduceLeDiff, Nat.reduceLT, Nat.reducePow, Int.reduceToNat, Int.reduceLT, Int.reduceLE, Int.reduceEq, Int.reduceAdd, Int.reduceSub, Int.reduceNeg]))
  have hF4 : FreshM (8 :: 0 :: 1 :: 1 :: 1 :: 1 :: 0 :: s) y.1 := k3.fr (h3.fr (by simp (maxDischargeDepth := 80) only [push_cast, Nat.reduceBEq, reduceIte, reduceCtorEq, Nat.reduceEqDiff, Nat.reduceAdd, Nat.reduceMul, Nat.reduceSub, Nat.reduceLeDiff, Nat.reduceLT, Nat.reducePow, Int.reduceToNat, Int.reduceLT, Int.reduceLE, Int.reduceEq, Int.reduceAdd, Int.reduceSub, Int.reduceNeg, fresh_dn hM, fresh_at hM]) (by simp (maxDischargeDepth := 80) only [push_cast, Nat.reduceBEq, reduceIte, reduceCtorEq, Nat.reduceEqDiff, Nat.reduceAdd, Nat.reduceMul, Nat.reduceSub, Nat.reduceLeDiff, Nat.reduceLT, Nat.reducePow, Int.reduceToNat, Int.reduceLT, Int.reduceLE, Int.reduceEq, Int.reduceAdd, Int.reduceSub, Int.reduceNeg]) (by simp (maxDischargeDepth := 80) only [push_cast, Nat.reduceBEq, reduceIte, reduceCtorEq, Nat.reduceEqDiff, Nat.reduceAdd, Nat.reduceMul, Nat.reduceSub, Nat.reduceLeDiff, Nat.reduceLT, Nat.reducePow, Int.reduceToNat, Int.reduceLT, Int.reduceLE, Int.reduceEq, Int.reduceAdd, Int.reduceSub, Int.reduceNeg]) (fun _ hx => by cases hx)) (by simp (maxDischargeDepth := 80) only [push_cast, Nat.reduceBEq, reduceIte, reduceCtorEq, Nat.reduceEqDiff, Nat.reduceAdd, Nat.reduceMul, Nat.reduceSub, Nat.reduceLeDiff, Nat.reduceLT, Nat.reducePow, Int.reduceToNat, Int.reduceLT, Int.reduceLE, Int.reduceEq, Int.reduceAdd, Int.reduceSub, Int.reduceNeg]) (by simp (maxDischargeDepth := 80) only [push_cast, Nat.reduceBEq, reduceIte, reduceCtorEq, Nat.reduceEqDiff, Nat.reduceAdd, Nat.reduceMul, Nat.reduceSub, Nat.reduceLeDiff, Nat.reduceLT, Nat.reducePow, Int.reduceToNat, Int.reduceLT, Int.reduceLE, Int.reduceEq, Int.reduceAdd, Int.reduceSub, Int.reduceNeg]) (hoff _ (by simp (maxDischargeDepth := 80) only [push_cast, Nat.reduceBEq, reduceIte, reduceCtorEq, Nat.reduceEqDiff, Nat.reduceAdd, Nat.reduceMul, Nat.reduceSub, Nat.reduceLeDiff, Nat.reduceLT, Nat.reducePow, Int.reduceToNat, Int.reduceLT, Int.reduceLE, Int.reduceEq, Int.reduceAdd, Int.reduceSub, Int.reduceNeg]) (by simp (maxDischargeDepth := 80) only [push_cast, Nat.reduceBEq, reduceIte, reduceCtorEq, Nat.reduceEqDiff, Nat.reduceAdd, Nat.reduceMul, Nat.reduceSub, Nat.reduceLeDiff, Nat.reduceLT, Nat.reducePow, Int.reduceToNat, Int.reduceLT, Int.reduceLE, Int.reduceEq, Int.reduceAdd, Int.reduceSub, Int.reduceNeg]))
  have hobj := hN.obj
  have c1 : (lg1 (0 + 1) []).com = 1 := rfl
  have c2 : (lel (0 + 1) y.2.2.2.2).role = 3 := rfl
  rw [c1] at r2
  rw [c2] at r1
  simp only [Nd.cs_eq, lnd] at hobj
  rw [Fn_body Tryz.func8 (by decide) rfl rfl]
  simp (maxDischargeDepth := 80) only [push_cast, Nat.reduceBEq, reduceIte, reduceCtorEq, Nat.reduceEqDiff, Nat.reduceAdd, Nat.reduceMul, Nat.reduceSub, Nat.reduceLeDiff, Nat.reduceLT, Nat.reducePow, Int.reduceToNat, Int.reduceLT, Int.reduceLE, Int.reduceEq, Int.reduceAdd, Int.reduceSub, Int.reduceNeg, h1, k1, r1, r2, hobj, fresh_dn hF3, fresh_dn hF4, hs, fresh_dn hM, fresh_at hM]
end Go.Ab.R

/- Who is alone: one round of the law's loop. Conditions: none. -/
namespace Go.Ab.R
open Go Go.Proofs
set_option maxRecDepth 100000

theorem lg1_last (T : Int) (es : List Ent) : (lg1 T es).last = es.length + 1 := by simp [Lg.last, lg1]
theorem lg1_led (T : Int) (es : List Ent) (d : Option (List UInt8)) : (lg1 T es).led ⟨(lg1 T es).last + 1, T, 1, d⟩ = lg1 T (es ++ [⟨(es.length : Int) + 2, T, 1, d⟩]) := by
  have h : (lg1 T es).last + 1 = (es.length : Int) + 2 := by rw [lg1_last]; omega
  rw [Lg.led, h]
  simp only [Lg.addL, lg1, List.cons_append, List.length_append, List.length_singleton, Lg.mk.injEq, true_and, and_true]
  omega
theorem lg1_at (T : Int) (es : List Ent) (h : ∀ e ∈ es, e.term = T) : ((lg1 T es).at_ (lg1 T es).last).term = T := by
  have hi : ((lg1 T es).last - (lg1 T es).base).toNat = es.length + 1 := by rw [lg1_last]; show ((es.length : Int) + 1 - 0).toNat = _; omega
  rw [Lg.at_, hi]
  show ((⟨1, T, 0, none⟩ :: es).getD es.length ⟨0, 0, 0, none⟩).term = T
  rw [List.getD_eq_getElem?_getD, List.getElem?_eq_getElem (by simp)]
  simp only [Option.getD_some]
  have hm := List.getElem_mem (l := (⟨1, T, 0, none⟩ :: es : List Ent)) (n := es.length) (by simp)
  rcases List.mem_cons.1 hm with q | q
  · rw [q]
  · exact h _ q
theorem lg1_get (T : Int) (es : List Ent) (x : Ent) : (lg1 T (es ++ [x])).get ((es.length : Int) + 2) 1 = [x] := by
  have h1 : ¬ ((es.length : Int) + 2 ≤ (lg1 T (es ++ [x])).base ∨ (lg1 T (es ++ [x])).has ((es.length : Int) + 2) = false ∨ (1 : Int) < 1) := by
    have : (lg1 T (es ++ [x])).has ((es.length : Int) + 2) = true := by
      rw [Lg.has_iff, lg1_last]; show (0 : Int) ≤ _ ∧ _; simp only [List.length_append, List.length_singleton]; omega
    rw [this]
    show ¬ ((es.length : Int) + 2 ≤ 0 ∨ _)
    simp; omega
  rw [Lg.get, if_neg h1]
  have h2 : ((es.length : Int) + 2 - (lg1 T (es ++ [x])).base).toNat = es.length + 2 := by show ((es.length : Int) + 2 - 0).toNat = _; omega
  rw [h2]
  show ((es ++ [x]).drop es.length).take 1 = [x]
  simp
theorem lg1_own (T : Int) (es : List Ent) (h : ∀ e ∈ es, e.term = T) (ims : Id) : ownL (lg1 T es) (lel T ims) = true := by
  have hc : (lg1 T es).com = (lg1 T es).last := by rw [lg1_last]; show 1 + (es.length : Int) = _; omega
  have hh : (lg1 T es).has (lg1 T es).last = true := by rw [Lg.has_iff, lg1_last]; show (0 : Int) ≤ _ ∧ _; omega
  rw [ownL, hc, hh, Lg.termOf, if_pos hh, lg1_at T es h]
  simp [lel]

theorem Lone.chg {M M' : Mem} {p ie il im ia : Id} {v : V} {f tt tv f' tt' tv' : Int} {rds rds' : V} {e : Elc} {g : Lg} {s : Id} (hM : FreshM s M) (h : Lone M p (lnd ie il im f tt tv rds) e ia v g im) (hf : FrM s [p] M M') (hp : M' p = some (.cells (lnd ie il im f' tt' tv' rds').cs)) (h1 : rds'.one = true) (h2 : rds'.cells = [rds']) :
    Lone M' p (lnd ie il im f' tt' tv' rds') e ia v g im := by
  have hN := h.at_
  refine ⟨⟨hp, (hf _ (Off_of hM hN.el) (by simp [Ne.symm hN.ne1])).trans hN.el, hN.lg.frame (hf _ (Off_of hM hN.lg.obj) (by simp [Ne.symm hN.ne2])) (hf _ (Off_of hM hN.lg.arr) (by simp [Ne.symm hN.ne5]))⟩,
    h.kinds, rfl, rfl, rfl, rfl, rfl, rfl, rfl, rfl, h.eid, h.evv, h.elv, h.role, rfl, (hf _ (Off_of hM h.pm) ?_).trans h.pm, ⟨rfl, rfl, rfl, rfl, rfl, rfl, h1, h2⟩⟩
  simp only [List.mem_singleton]
  intro q
  have := h.pm
  rw [q, hN.obj] at this
  cases this

theorem prop1_E {M : Mem} {p ie il im ims ia : Id} {v : V} {f tt tv : Int} {T : Int} {es : List Ent} (d : Option (List UInt8)) (s : Id) (hM : FreshM s M) (h : Lone M p (lnd ie il im f tt tv .nils) (lel T ims) ia v (lg1 T es) im) (hd : dlen d ≤ 4096)
    (hes : ∀ e ∈ es, e.term = T) (hT : 0 ≤ T) (hT2 : T ≤ 1099511627776) (hl : es.length ≤ 1000) :
    ∃ x : Mem × Id × V × Id × Int, Fn env false 11 [.ptr p 0, dataV d] s M = some (.tup [.int .i64 ((es.length : Int) + 2), .int .i64 0], x.1) ∧
      Lone x.1 p (lnd ie il x.2.2.2.1 x.2.2.2.2 tt tv .nils) (lel T ims) x.2.1 x.2.2.1 (lg1 T (es ++ [⟨(es.length : Int) + 2, T, 1, d⟩])) x.2.2.2.1 ∧ FrM s [p, ie, il, ia] M x.1 ∧ (x.2.1 = ia ∨ Un s x.2.1) := by
  have ha : (lg1 T es).addE [⟨(lg1 T es).last + 1, (lel T ims).term, 1, d⟩] = 0 := by
    refine addE_one rfl ?_ ?_ hT hT2 ?_ (show (0 : Int) ≤ 1 by decide) (show (1 : Int) ≤ 7 by decide) hd
    · show 1 ≤ (lg1 T es).last + 1; rw [lg1_last]; omega
    · show (lg1 T es).last + 1 ≤ 1099511627776; rw [lg1_last]; omega
    · rw [lg1_at T es hes]; exact Int.le_refl _
  obtain ⟨x, h1, h2, h3, h4, _⟩ := propose1_E d s hM h hd ha (by show es.length + 1 + 1 + 1 ≤ _; omega) (by rw [lg1_last]; show 1 + (es.length : Int) ≤ _; omega)
  have h5 : (lg1 T es).led ⟨(lg1 T es).last + 1, (lel T ims).term, 1, d⟩ = _ := lg1_led T es d
  rw [h5] at h2
  refine ⟨(x.1, x.2.1, x.2.2.1, x.2.2.2, if f = 0 ∨ (lg1 T es).last + 1 < f then (lg1 T es).last + 1 else f), ?_, h2, h3, h4⟩
  rw [h1, lg1_last]
  congr 1
end Go.Ab.R

/- Who is alone: the calls of one round. Conditions: none. -/
namespace Go.Ab.R
open Go Go.Proofs
set_option maxRecDepth 100000

theorem iter1_E {M : Mem} {p ie il im ims ia : Id} {v : V} {f tt tv : Int} {T : Int} {es : List Ent} (d : Option (List UInt8)) (n : Int) (u : Id) (hM : FreshM u M) (h : Lone M p (lnd ie il im f tt tv .nils) (lel T ims) ia v (lg1 T es) im) (hd : dlen d ≤ 4096)
    (hes : ∀ e ∈ es, e.term = T) (hT : 0 ≤ T) (hT2 : T ≤ 1099511627776) (hl : es.length ≤ 1000) :
    ∃ (M1 M2 M3 M4 : Mem) (rid : Id) (hn : Bool) (a b f1 : Int) (im' ia' : Id) (v' : V),
      Fn env false 11 [.ptr p 0, dataV d] (5 :: 0 :: 1 :: 0 :: 0 :: 1 :: u) M = some (.tup [.int .i64 ((es.length : Int) + 2), .int .i64 0], M1) ∧
      Fn env false 12 [.ptr p 0, .int .i64 n] (2 :: 0 :: 1 :: 1 :: 0 :: 0 :: 1 :: u) M1 = some (.int .i64 0, M2) ∧
      Fn env false 13 [.ptr p 0] (1 :: 0 :: 1 :: 1 :: 1 :: 0 :: 0 :: 1 :: u) M2 = some (.agg [.bool hn, .int .i64 a, .int .i64 b, .bool false, .int .i64 0, .int .i64 0, .nils, .nils, .nils, .int .i64 f1, .nils, .sl rid 0 1 2 none], M3) ∧
      M3.set (2 :: 0 :: 1 :: 1 :: 1 :: 0 :: 0 :: 1 :: u) (.cells [.bool hn, .int .i64 a, .int .i64 b, .bool false, .int .i64 0, .int .i64 0, .nils, .nils, .nils, .int .i64 f1, .nils, .sl rid 0 1 2 none]) = M4 ∧
      Fn env true 14 [.ptr p 0, .int .i64 ((es.length : Int) + 2), .int .i64 1] (2 :: 0 :: 1 :: 1 :: 1 :: 1 :: 0 :: 0 :: 1 :: u) M4 = some (copiedV [⟨(es.length : Int) + 2, T, 1, d⟩], M4) ∧
      Fn env false 15 [.ptr p 0] (14 :: 0 :: 1 :: 1 :: 1 :: 1 :: 1 :: 0 :: 0 :: 1 :: u) M4 = some (.int .i64 ((es.length : Int) + 2), M4) ∧
      M4 rid = some (.cells [.int .i64 n, .int .i64 ((es.length : Int) + 2)]) ∧
      Lone M4 p (lnd ie il im' 0 T 1 .nils) (lel T ims) ia' v' (lg1 T (es ++ [⟨(es.length : Int) + 2, T, 1, d⟩])) im' ∧ FrM u [p, ie, il, ia] M M4 ∧ (ia' = ia ∨ Un u ia') ∧ FreshM (2 :: 0 :: 1 :: 1 :: 1 :: 0 :: 0 :: 1 :: u) M3 := by
  have u1 : Un u (5 :: 0 :: 1 :: 0 :: 0 :: 1 :: u) := by simp (maxDischargeDepth := 80) only [push_cast, Nat.reduceBEq, reduceIte, reduceCtorEq, Nat.reduceEqDiff, Nat.reduceAdd, Nat.reduceMul, Nat.reduceSub, Nat.reduceLeDiff, Nat.reduceLT, Nat.reducePow, Int.reduceToNat, Int.reduceLT, Int.reduceLE, Int.reduceEq, Int.reduceAdd, Int.reduceSub, Int.reduceNeg]
  have u2 : Un u (2 :: 0 :: 1 :: 1 :: 0 :: 0 :: 1 :: u) := by simp (maxDischargeDepth := 80) only [push_cast, Nat.reduceBEq, reduceIte, reduceCtorEq, Nat.reduceEqDiff, Nat.reduceAdd, Nat.reduceMul, Nat.reduceSub, Nat.reduceLeDiff, Nat.reduceLT, Nat.reducePow, Int.reduceToNat, Int.reduceLT, Int.reduceLE, Int.reduceEq, Int.reduceAdd, Int.reduceSub, Int.reduceNeg]
  have u3 : Un u (1 :: 0 :: 1 :: 1 :: 1 :: 0 :: 0 :: 1 :: u) := by simp (maxDischargeDepth := 80) only [push_cast, Nat.reduceBEq, reduceIte, reduceCtorEq, Nat.reduceEqDiff, Nat.reduceAdd, Nat.reduceMul, Nat.reduceSub, Nat.reduceLeDiff, Nat.reduceLT, Nat.reducePow, Int.reduceToNat, Int.reduceLT, Int.reduceLE, Int.reduceEq, Int.reduceAdd, Int.reduceSub, Int.reduceNeg]
  have u4 : Un u (2 :: 0 :: 1 :: 1 :: 1 :: 0 :: 0 :: 1 :: u) := by simp (maxDischargeDepth := 80) only [push_cast, Nat.reduceBEq, reduceIte, reduceCtorEq, Nat.reduceEqDiff, Nat.reduceAdd, Nat.reduceMul, Nat.reduceSub, Nat.reduceLeDiff, Nat.reduceLT, Nat.reducePow, Int.reduceToNat, Int.reduceLT, Int.reduceLE, Int.reduceEq, Int.reduceAdd, Int.reduceSub, Int.reduceNeg]
  have u5 : Un u (2 :: 0 :: 1 :: 1 :: 1 :: 1 :: 0 :: 0 :: 1 :: u) := by simp (maxDischargeDepth := 80) only [push_cast, Nat.reduceBEq, reduceIte, reduceCtorEq, Nat.reduceEqDiff, Nat.reduceAdd, Nat.reduceMul, Nat.reduceSub, Nat.reduceLeDiff, Nat.reduceLT, Nat.reducePow, Int.reduceToNat, Int.reduceLT, Int.reduceLE, Int.reduceEq, Int.reduceAdd, Int.reduceSub, Int.reduceNeg]
  have u6 : Un u (14 :: 0 :: 1 :: 1 :: 1 :: 1 :: 1 :: 0 :: 0 :: 1 :: u) := by simp (maxDischargeDepth := 80) only [push_cast, Nat.reduceBEq, reduceIte, reduceCtorEq, Nat.reduceEqDiff, Nat.reduceAdd, Nat.reduceMul, Nat.reduceSub, Nat.reduceLeDiff, Nat.reduceLT, Nat.reducePow, Int.reduceToNat, Int.reduceLT, Int.reduceLE, Int.reduceEq, Int.reduceAdd, Int.reduceSub, Int.reduceNeg]
  have hoff := h.off hM
  obtain ⟨x, k1, k2, k3, k4⟩ := prop1_E d (5 :: 0 :: 1 :: 0 :: 0 :: 1 :: u) (fresh_dn hM u1) h hd hes hT hT2 hl
  have hes' : ∀ e ∈ es ++ [⟨(es.length : Int) + 2, T, 1, d⟩], e.term = T := fun e he => by
    rcases List.mem_append.1 he with q | q
    · exact hes e q
    · rw [List.mem_singleton.1 q]
  have F1 : ∀ t, Un u t → Off (5 :: 0 :: 1 :: 0 :: 0 :: 1 :: u) t → Off t (5 :: 0 :: 1 :: 0 :: 0 :: 1 :: u) → FreshM t x.1 := fun t a b c => k3.to hM a b c hoff
  have hF2 := F1 _ u2 (by simp (maxDischargeDepth := 80) only [push_cast, Nat.reduceBEq, reduceIte, reduceCtorEq, Nat.reduceEqDiff, Nat.reduceAdd, Nat.reduceMul, Nat.reduceSub, Nat.reduceLeDiff, Nat.reduceLT, Nat.reducePow, Int.reduceToNat, Int.reduceLT, Int.reduceLE, Int.reduceEq, Int.reduceAdd, Int.reduceSub, Int.reduceNeg]) (by simp (maxDischargeDepth := 80) only [push_cast, Nat.reduceBEq, reduceIte, reduceCtorEq, Nat.reduceEqDiff, Nat.reduceAdd, Nat.reduceMul, Nat.reduceSub, Nat.reduceLeDiff, Nat.reduceLT, Nat.reducePow, Int.reduceToNat, Int.reduceLT, Int.reduceLE, Int.reduceEq, Int.reduceAdd, Int.reduceSub, Int.reduceNeg])
  obtain ⟨y, m1, m2, m3, m4, m5⟩ := read1_E n (2 :: 0 :: 1 :: 1 :: 0 :: 0 :: 1 :: u) hF2 k2 rfl (lg1_own T _ hes' ims)
  have hcom : (lg1 T (es ++ [⟨(es.length : Int) + 2, T, 1, d⟩])).com = (es.length : Int) + 2 := by
    show 1 + ((es ++ [(⟨(es.length : Int) + 2, T, 1, d⟩ : Ent)]).length : Int) = _
    simp only [List.length_append, List.length_singleton]; omega
  rw [hcom] at m3
  have offp : ∀ t, Un u t → Off t p := fun t a => Off_dn (hoff p (by simp)) a
  have hL2 : Lone y.1 p (lnd ie il x.2.2.2.1 x.2.2.2.2 tt tv (.sl y.2 0 1 2 none)) (lel T ims) x.2.1 x.2.2.1 (lg1 T (es ++ [⟨(es.length : Int) + 2, T, 1, d⟩])) x.2.2.2.1 := k2.chg hF2 m4 m2 rfl rfl
  have F2 : ∀ t, Un u t → Off (5 :: 0 :: 1 :: 0 :: 0 :: 1 :: u) t → Off t (5 :: 0 :: 1 :: 0 :: 0 :: 1 :: u) → Off (2 :: 0 :: 1 :: 1 :: 0 :: 0 :: 1 :: u) t → Off t (2 :: 0 :: 1 :: 1 :: 0 :: 0 :: 1 :: u) → FreshM t y.1 := fun t a b c e g =>
    m4.fr (F1 t a b c) e g (fun i hi => by rw [List.mem_singleton.1 hi]; exact offp t a)
  have hF3 := F2 _ u3 (by simp (maxDischargeDepth := 80) only [push_cast, Nat.reduceBEq, reduceIte, reduceCtorEq, Nat.reduceEqDiff, Nat.reduceAdd, Nat.reduceMul, Nat.reduceSub, Nat.reduceLeDiff, Nat.reduceLT, Nat.reducePow, Int.reduceToNat, Int.reduceLT, Int.reduceLE, Int.reduceEq, Int.reduceAdd, Int.reduceSub, Int.reduceNeg]) (by simp (maxDischargeDepth := 80) only [push_cast, Nat.reduceBEq, reduceIte, reduceCtorEq, Nat.reduceEqDiff, Nat.reduceAdd, Nat.reduceMul, Nat.reduceSub, Nat.reduceLeDiff, Nat.reduceLT, Nat.reducePow, Int.reduceToNat, Int.reduceLT, Int.reduceLE, Int.reduceEq, Int.reduceAdd, Int.reduceSub, Int.reduceNeg]) (by simp (maxDischargeDepth := 80) only [push_cast, Nat.reduceBEq, reduceIte, reduceCtorEq, Nat.reduceEqDiff, Nat.reduceAdd, Nat.reduceMul, Nat.reduceSub, Nat.reduceLeDiff, Nat.reduceLT, Nat.reducePow, Int.reduceToNat, Int.reduceLT, Int.reduceLE, Int.reduceEq, Int.reduceAdd, Int.reduceSub, Int.reduceNeg]) (by simp (maxDischargeDepth := 80) only [push_cast, Nat.reduceBEq, reduceIte, reduceCtorEq, Nat.reduceEqDiff, Nat.reduceAdd, Nat.reduceMul, Nat.reduceSub, Nat.reduceLeDiff, Nat.reduceLT, Nat.reducePow, Int.reduceToNat, Int.reduceLT, Int.reduceLE, Int.reduceEq, Int.reduceAdd, Int.reduceSub, Int.reduceNeg])
  obtain ⟨z, z1, z2, z3, z4⟩ := out_E (1 :: 0 :: 1 :: 1 :: 1 :: 0 :: 0 :: 1 :: u) hF3 hL2.at_ hL2.ok rfl
  have hL3 : Lone z.1 p (lnd ie il x.2.2.2.1 0 T 1 .nils) (lel T ims) x.2.1 x.2.2.1 (lg1 T (es ++ [⟨(es.length : Int) + 2, T, 1, d⟩])) x.2.2.2.1 := hL2.chg hF3 z4 z2 rfl rfl
  have F3 : ∀ t, Un u t → Off (5 :: 0 :: 1 :: 0 :: 0 :: 1 :: u) t → Off t (5 :: 0 :: 1 :: 0 :: 0 :: 1 :: u) → Off (2 :: 0 :: 1 :: 1 :: 0 :: 0 :: 1 :: u) t → Off t (2 :: 0 :: 1 :: 1 :: 0 :: 0 :: 1 :: u) → Off (1 :: 0 :: 1 :: 1 :: 1 :: 0 :: 0 :: 1 :: u) t → Off t (1 :: 0 :: 1 :: 1 :: 1 :: 0 :: 0 :: 1 :: u) → FreshM t z.1 := fun t a b c e g i j =>
    z4.fr (F2 t a b c e g) i j (fun i hi => by rw [List.mem_singleton.1 hi]; exact offp t a)
  have hF4 : FreshM (2 :: 0 :: 1 :: 1 :: 1 :: 0 :: 0 :: 1 :: u) z.1 := F3 _ u4 (by simp (maxDischargeDepth := 80) only [push_cast, Nat.reduceBEq, reduceIte, reduceCtorEq, Nat.reduceEqDiff, Nat.reduceAdd, Nat.reduceMul, Nat.reduceSub, Nat.reduceLeDiff, Nat.reduceLT, Nat.reducePow, Int.reduceToNat, Int.reduceLT, Int.reduceLE, Int.reduceEq, Int.reduceAdd, Int.reduceSub, Int.reduceNeg]) (by simp (maxDischargeDepth := 80) only [push_cast, Nat.reduceBEq, reduceIte, reduceCtorEq, Nat.reduceEqDiff, Nat.reduceAdd, Nat.reduceMul, Nat.reduceSub, Nat.reduceLeDiff, Nat.reduceLT, Nat.reducePow, Int.reduceToNat, Int.reduceLT, Int.reduceLE, Int.reduceEq, Int.reduceAdd, Int.reduceSub, Int.reduceNeg]) (by simp (maxDischargeDepth := 80) only [push_cast, Nat.reduceBEq, reduceIte, reduceCtorEq, Nat.reduceEqDiff, Nat.reduceAdd, Nat.reduceMul, Nat.reduceSub, Nat.reduceLeDiff, Nat.reduceLT, Nat.reducePow, Int.reduceToNat, Int.reduceLT, Int.reduceLE, Int.reduceEq, Int.reduceAdd, Int.reduceSub, Int.reduceNeg]) (by simp (maxDischargeDepth := 80) only [push_cast, Nat.reduceBEq, reduceIte, reduceCtorEq, Nat.reduceEqDiff, Nat.reduceAdd, Nat.reduceMul, Nat.reduceSub, Nat.reduceLeDiff, Nat.reduceLT, Nat.reducePow, Int.reduceToNat, Int.reduceLT, Int.reduceLE, Int.reduceEq, Int.reduceAdd, Int.reduceSub, Int.reduceNeg]) (by simp (maxDischargeDepth := 80) only [push_cast, Nat.reduceBEq, reduceIte, reduceCtorEq, Nat.reduceEqDiff, Nat.reduceAdd, Nat.reduceMul, Nat.reduceSub, Nat.reduceLeDiff, Nat.reduceLT, Nat.reducePow, Int.reduceToNat, Int.reduceLT, Int.reduceLE, Int.reduceEq, Int.reduceAdd, Int.reduceSub, Int.reduceNeg]) (by simp (maxDischargeDepth := 80) only [push_cast, Nat.reduceBEq, reduceIte, reduceCtorEq, Nat.reduceEqDiff, Nat.reduceAdd, Nat.reduceMul, Nat.reduceSub, Nat.reduceLeDiff, Nat.reduceLT, Nat.reducePow, Int.reduceToNat, Int.reduceLT, Int.reduceLE, Int.reduceEq, Int.reduceAdd, Int.reduceSub, Int.reduceNeg])
  have hF5 : FreshM (2 :: 0 :: 1 :: 1 :: 1 :: 1 :: 0 :: 0 :: 1 :: u) z.1 := F3 _ u5 (by simp (maxDischargeDepth := 80) only [push_cast, Nat.reduceBEq, reduceIte, reduceCtorEq, Nat.reduceEqDiff, Nat.reduceAdd, Nat.reduceMul, Nat.reduceSub, Nat.reduceLeDiff, Nat.reduceLT, Nat.reducePow, Int.reduceToNat, Int.reduceLT, Int.reduceLE, Int.reduceEq, Int.reduceAdd, Int.reduceSub, Int.reduceNeg]) (by simp (maxDischargeDepth := 80) only [push_cast, Nat.reduceBEq, reduceIte, reduceCtorEq, Nat.reduceEqDiff, Nat.reduceAdd, Nat.reduceMul, Nat.reduceSub, Nat.reduceLeDiff, Nat.reduceLT, Nat.reducePow, Int.reduceToNat, Int.reduceLT, Int.reduceLE, Int.reduceEq, Int.reduceAdd, Int.reduceSub, Int.reduceNeg]) (by simp (maxDischargeDepth := 80) only [push_cast, Nat.reduceBEq, reduceIte, reduceCtorEq, Nat.reduceEqDiff, Nat.reduceAdd, Nat.reduceMul, Nat.reduceSub, Nat.reduceLeDiff, Nat.reduceLT, Nat.reducePow, Int.reduceToNat, Int.reduceLT, Int.reduceLE, Int.reduceEq, Int.reduceAdd, Int.reduceSub, Int.reduceNeg]) (by simp (maxDischargeDepth := 80) only [push_cast, Nat.reduceBEq, reduceIte, reduceCtorEq, Nat.reduceEqDiff, Nat.reduceAdd, Nat.reduceMul, Nat.reduceSub, Nat.reduceLeDiff, Nat.reduceLT, Nat.reducePow, Int.reduceToNat, Int.reduceLT, Int.reduceLE, Int.reduceEq, Int.reduceAdd, Int.reduceSub, Int.reduceNeg]) (by simp (maxDischargeDepth := 80) only [push_cast, Nat.reduceBEq, reduceIte, reduceCtorEq, Nat.reduceEqDiff, Nat.reduceAdd, Nat.reduceMul, Nat.reduceSub, Nat.reduceLeDiff, Nat.reduceLT, Nat.reducePow, Int.reduceToNat, Int.reduceLT, Int.reduceLE, Int.reduceEq, Int.reduceAdd, Int.reduceSub, Int.reduceNeg]) (by simp (maxDischargeDepth := 80) only [push_cast, Nat.reduceBEq, reduceIte, reduceCtorEq, Nat.reduceEqDiff, Nat.reduceAdd, Nat.reduceMul, Nat.reduceSub, Nat.reduceLeDiff, Nat.reduceLT, Nat.reducePow, Int.reduceToNat, Int.reduceLT, Int.reduceLE, Int.reduceEq, Int.reduceAdd, Int.reduceSub, Int.reduceNeg])
  have hF6 : FreshM (14 :: 0 :: 1 :: 1 :: 1 :: 1 :: 1 :: 0 :: 0 :: 1 :: u) z.1 := F3 _ u6 (by simp (maxDischargeDepth := 80) only [push_cast, Nat.reduceBEq, reduceIte, reduceCtorEq, Nat.reduceEqDiff, Nat.reduceAdd, Nat.reduceMul, Nat.reduceSub, Nat.reduceLeDiff, Nat.reduceLT, Nat.reducePow, Int.reduceToNat, Int.reduceLT, Int.reduceLE, Int.reduceEq, Int.reduceAdd, Int.reduceSub, Int.reduceNeg]) (by simp (maxDischargeDepth := 80) only [push_cast, Nat.reduceBEq, reduceIte, reduceCtorEq, Nat.reduceEqDiff, Nat.reduceAdd, Nat.reduceMul, Nat.reduceSub, Nat.reduceLeDiff, Nat.reduceLT, Nat.reducePow, Int.reduceToNat, Int.reduceLT, Int.reduceLE, Int.reduceEq, Int.reduceAdd, Int.reduceSub, Int.reduceNeg]) (by simp (maxDischargeDepth := 80) only [push_cast, Nat.reduceBEq, reduceIte, reduceCtorEq, Nat.reduceEqDiff, Nat.reduceAdd, Nat.reduceMul, Nat.reduceSub, Nat.reduceLeDiff, Nat.reduceLT, Nat.reducePow, Int.reduceToNat, Int.reduceLT, Int.reduceLE, Int.reduceEq, Int.reduceAdd, Int.reduceSub, Int.reduceNeg]) (by simp (maxDischargeDepth := 80) only [push_cast, Nat.reduceBEq, reduceIte, reduceCtorEq, Nat.reduceEqDiff, Nat.reduceAdd, Nat.reduceMul, Nat.reduceSub, Nat.reduceLeDiff, Nat.reduceLT, Nat.reducePow, Int.reduceToNat, Int.reduceLT, Int.reduceLE, Int.reduceEq, Int.reduceAdd, Int.reduceSub, Int.reduceNeg]) (by simp (maxDischargeDepth := 80) only [push_cast, Nat.reduceBEq, reduceIte, reduceCtorEq, Nat.reduceEqDiff, Nat.reduceAdd, Nat.reduceMul, Nat.reduceSub, Nat.reduceLeDiff, Nat.reduceLT, Nat.reducePow, Int.reduceToNat, Int.reduceLT, Int.reduceLE, Int.reduceEq, Int.reduceAdd, Int.reduceSub, Int.reduceNeg]) (by simp (maxDischargeDepth := 80) only [push_cast, Nat.reduceBEq, reduceIte, reduceCtorEq, Nat.reduceEqDiff, Nat.reduceAdd, Nat.reduceMul, Nat.reduceSub, Nat.reduceLeDiff, Nat.reduceLT, Nat.reducePow, Int.reduceToNat, Int.reduceLT, Int.reduceLE, Int.reduceEq, Int.reduceAdd, Int.reduceSub, Int.reduceNeg])
  obtain ⟨M4, hM4⟩ : ∃ M4, z.1.set (2 :: 0 :: 1 :: 1 :: 1 :: 0 :: 0 :: 1 :: u) (.cells [.bool z.2.1, .int .i64 z.2.2.1, .int .i64 z.2.2.2, .bool false, .int .i64 0, .int .i64 0, .nils, .nils, .nils, .int .i64 x.2.2.2.2, .nils, .sl y.2 0 1 2 none]) = M4 := ⟨_, rfl⟩
  have hkeep : ∀ i o, z.1 i = some o → M4 i = some o := fun i o q => by
    rw [← hM4]
    have : (i = 2 :: 0 :: 1 :: 1 :: 1 :: 0 :: 0 :: 1 :: u) = False := eq_false (fun e => by rw [e, hF4 _ (List.suffix_refl _)] at q; cases q)
    simp (maxDischargeDepth := 80) only [push_cast, Nat.reduceBEq, reduceIte, reduceCtorEq, Nat.reduceEqDiff, Nat.reduceAdd, Nat.reduceMul, Nat.reduceSub, Nat.reduceLeDiff, Nat.reduceLT, Nat.reducePow, Int.reduceToNat, Int.reduceLT, Int.reduceLE, Int.reduceEq, Int.reduceAdd, Int.reduceSub, Int.reduceNeg, this, q]
  have hL4 : Lone M4 p (lnd ie il x.2.2.2.1 0 T 1 .nils) (lel T ims) x.2.1 x.2.2.1 (lg1 T (es ++ [⟨(es.length : Int) + 2, T, 1, d⟩])) x.2.2.2.1 :=
    ⟨⟨hkeep _ _ hL3.at_.obj, hkeep _ _ hL3.at_.el, hL3.at_.lg.mono hkeep⟩, hL3.kinds, rfl, rfl, rfl, rfl, rfl, rfl, rfl, rfl, rfl, rfl, rfl, rfl, rfl, hkeep _ _ hL3.pm, ⟨rfl, rfl, rfl, rfl, rfl, rfl, rfl, rfl⟩⟩
  have hF5' : FreshM (2 :: 0 :: 1 :: 1 :: 1 :: 1 :: 0 :: 0 :: 1 :: u) M4 := by rw [← hM4]; simp (maxDischargeDepth := 80) only [push_cast, Nat.reduceBEq, reduceIte, reduceCtorEq, Nat.reduceEqDiff, Nat.reduceAdd, Nat.reduceMul, Nat.reduceSub, Nat.reduceLeDiff, Nat.reduceLT, Nat.reducePow, Int.reduceToNat, Int.reduceLT, Int.reduceLE, Int.reduceEq, Int.reduceAdd, Int.reduceSub, Int.reduceNeg, fresh_dn hF5]
  have hF6' : FreshM (14 :: 0 :: 1 :: 1 :: 1 :: 1 :: 1 :: 0 :: 0 :: 1 :: u) M4 := by rw [← hM4]; simp (maxDischargeDepth := 80) only [push_cast, Nat.reduceBEq, reduceIte, reduceCtorEq, Nat.reduceEqDiff, Nat.reduceAdd, Nat.reduceMul, Nat.reduceSub, Nat.reduceLeDiff, Nat.reduceLT, Nat.reducePow, Int.reduceToNat, Int.reduceLT, Int.reduceLE, Int.reduceEq, Int.reduceAdd, Int.reduceSub, Int.reduceNeg, fresh_dn hF6]
  have g14 := nget_E ((es.length : Int) + 2) 1 _ hF5' hL4.at_
  rw [lg1_get] at g14
  have g15 := com1_E _ hF6' hL4.at_
  rw [hcom] at g15
  refine ⟨x.1, y.1, z.1, M4, y.2, z.2.1, z.2.2.1, z.2.2.2, x.2.2.2.2, x.2.2.2.1, x.2.1, x.2.2.1, k1, m1, z1, hM4, g14, g15, ?_, hL4, ?_, ?_, hF4⟩
  · refine hkeep _ _ ((z4 y.2 ?_ ?_).trans m3)
    · exact Off_un (by simp (maxDischargeDepth := 80) only [push_cast, Nat.reduceBEq, reduceIte, reduceCtorEq, Nat.reduceEqDiff, Nat.reduceAdd, Nat.reduceMul, Nat.reduceSub, Nat.reduceLeDiff, Nat.reduceLT, Nat.reducePow, Int.reduceToNat, Int.reduceLT, Int.reduceLE, Int.reduceEq, Int.reduceAdd, Int.reduceSub, Int.reduceNeg]) (by simp (maxDischargeDepth := 80) only [push_cast, Nat.reduceBEq, reduceIte, reduceCtorEq, Nat.reduceEqDiff, Nat.reduceAdd, Nat.reduceMul, Nat.reduceSub, Nat.reduceLeDiff, Nat.reduceLT, Nat.reducePow, Int.reduceToNat, Int.reduceLT, Int.reduceLE, Int.reduceEq, Int.reduceAdd, Int.reduceSub, Int.reduceNeg]) m5
    · simp only [List.mem_singleton]
      intro e
      exact offp _ u2 (e ▸ m5)
  · have w1 := k3.wide u1 (Y := [p, ie, il, ia]) (fun i _ hx => hx)
    have w2 := m4.wide u2 (Y := [p, ie, il, ia]) (fun i _ hx => by simp only [List.mem_cons, List.not_mem_nil, or_false, not_or] at hx ⊢; exact hx.1)
    have w3 := z4.wide u3 (Y := [p, ie, il, ia]) (fun i _ hx => by simp only [List.mem_cons, List.not_mem_nil, or_false, not_or] at hx ⊢; exact hx.1)
    refine (w1.trans (w2.trans w3)).trans (fun i hi _ => ?_)
    rw [← hM4]
    simp (maxDischargeDepth := 80) only [push_cast, Nat.reduceBEq, reduceIte, reduceCtorEq, Nat.reduceEqDiff, Nat.reduceAdd, Nat.reduceMul, Nat.reduceSub, Nat.reduceLeDiff, Nat.reduceLT, Nat.reducePow, Int.reduceToNat, Int.reduceLT, Int.reduceLE, Int.reduceEq, Int.reduceAdd, Int.reduceSub, Int.reduceNeg, Off_ne hi]
  · rcases k4 with q | q
    · exact .inl q
    · exact .inr (List.IsSuffix.trans u1 q)
end Go.Ab.R

/- The law RaftAlone over the evaluator. Conditions: none. -/
namespace Go.Ab.R
open Go Go.Proofs
set_option maxRecDepth 100000

/-- a value that is a slice of bytes' slices -/
structure RdB (v : V) (l : List (Option (List UInt8))) : Prop where
  len : ∀ M', lenV Tryz.prog 22 M' v = some (.int .i64 l.length)
  get : ∀ j (h : j < l.length), ∃ p, indexAddrV Tryz.prog 22 v (.int .i64 j) = some p ∧ ∀ M', loadV Tryz.prog 33 M' p = some (dataV l[j])

theorem bytes_cells (l : List UInt8) : bytesOfCells (l.map byteV) = some l := by
  induction l with
  | nil => rfl
  | cons b l ih =>
    simp only [List.map_cons, byteV, bytesOfCells]
    show (bytesOfCells (l.map byteV)).map _ = _
    rw [ih]
    simp
theorem conv_data (d : Option (List UInt8)) (M : Mem) : convV Tryz.prog 33 9 M (dataV d) = some (.str ⟨(d.getD []).toArray⟩) := by
  cases d with
  | none => simp only [dataV, convV, kd33, kd9]; rfl
  | some l =>
    simp only [dataV, convV, kd33, kd9, List.length_map, bytes_cells, if_true, true_and, Option.map_some, Option.getD_some]
    try rfl
theorem beq_self_list (l : List UInt8) : (l == l) = true := by simp

theorem alone_law (v0 : V) (l : List (Option (List UInt8))) (t : Int) (s : Id) (M : Mem) (hM : FreshM s M) (hv : RdB v0 l) : (Fn env false 3 [v0, .int .i64 t] s M).map Prod.fst = some (.bool true) := by
  have r8 := fun s' (q1 : FreshM s' M) => awake_E s' M q1 false rfl
  by_cases c1 : t < 0
  · rw [Fn_body Tryz.func3 (by decide) rfl rfl]
    simp (maxDischargeDepth := 80) only [push_cast, Nat.reduceBEq, reduceIte, reduceCtorEq, Nat.reduceEqDiff, Nat.reduceAdd, Nat.reduceMul, Nat.reduceSub, Nat.reduceLeDiff, Nat.reduceLT, Nat.reducePow, Int.reduceToNat, Int.reduceLT, Int.reduceLE, Int.reduceEq, Int.reduceAdd, Int.reduceSub, Int.reduceNeg, r8, c1, fresh_dn hM, fresh_at hM]
  by_cases c2 : 549755813888 < t
  · rw [Fn_body Tryz.func3 (by decide) rfl rfl]
    simp (maxDischargeDepth := 80) only [push_cast, Nat.reduceBEq, reduceIte, reduceCtorEq, Nat.reduceEqDiff, Nat.reduceAdd, Nat.reduceMul, Nat.reduceSub, Nat.reduceLeDiff, Nat.reduceLT, Nat.reducePow, Int.reduceToNat, Int.reduceLT, Int.reduceLE, Int.reduceEq, Int.reduceAdd, Int.reduceSub, Int.reduceNeg, r8, c1, c2, fresh_dn hM, fresh_at hM]
  have u1 : Un s (6 :: 0 :: 1 :: 1 :: 1 :: 0 :: s) := by simp (maxDischargeDepth := 80) only [push_cast, Nat.reduceBEq, reduceIte, reduceCtorEq, Nat.reduceEqDiff, Nat.reduceAdd, Nat.reduceMul, Nat.reduceSub, Nat.reduceLeDiff, Nat.reduceLT, Nat.reducePow, Int.reduceToNat, Int.reduceLT, Int.reduceLE, Int.reduceEq, Int.reduceAdd, Int.reduceSub, Int.reduceNeg]
  have u2 : Un s (1 :: 0 :: 1 :: 1 :: 1 :: 1 :: 1 :: 0 :: s) := by simp (maxDischargeDepth := 80) only [push_cast, Nat.reduceBEq, reduceIte, reduceCtorEq, Nat.reduceEqDiff, Nat.reduceAdd, Nat.reduceMul, Nat.reduceSub, Nat.reduceLeDiff, Nat.reduceLT, Nat.reducePow, Int.reduceToNat, Int.reduceLT, Int.reduceLE, Int.reduceEq, Int.reduceAdd, Int.reduceSub, Int.reduceNeg]
  obtain ⟨x, h1, h2, h3, h4⟩ := begin1_E t (by omega) (by omega) (2 :: 0 :: 1 :: 1 :: 1 :: 0 :: s) (some 1) (6 :: 0 :: 1 :: 1 :: 1 :: 0 :: s) (M.set (2 :: 0 :: 1 :: 1 :: 1 :: 0 :: s) (.cells [.int .i64 1])) (by simp (maxDischargeDepth := 80) only [push_cast, Nat.reduceBEq, reduceIte, reduceCtorEq, Nat.reduceEqDiff, Nat.reduceAdd, Nat.reduceMul, Nat.reduceSub, Nat.reduceLeDiff, Nat.reduceLT, Nat.reducePow, Int.reduceToNat, Int.reduceLT, Int.reduceLE, Int.reduceEq, Int.reduceAdd, Int.reduceSub, Int.reduceNeg, fresh_dn hM, fresh_at hM]) (by simp (maxDischargeDepth := 80) only [push_cast, Nat.reduceBEq, reduceIte, reduceCtorEq, Nat.reduceEqDiff, Nat.reduceAdd, Nat.reduceMul, Nat.reduceSub, Nat.reduceLeDiff, Nat.reduceLT, Nat.reducePow, Int.reduceToNat, Int.reduceLT, Int.reduceLE, Int.reduceEq, Int.reduceAdd, Int.reduceSub, Int.reduceNeg])
  have hF2 : FreshM (1 :: 0 :: 1 :: 1 :: 1 :: 1 :: 1 :: 0 :: s) x.1 := h3.fr (by simp (maxDischargeDepth := 80) only [push_cast, Nat.reduceBEq, reduceIte, reduceCtorEq, Nat.reduceEqDiff, Nat.reduceAdd, Nat.reduceMul, Nat.reduceSub, Nat.reduceLeDiff, Nat.reduceLT, Nat.reducePow, Int.reduceToNat, Int.reduceLT, Int.reduceLE, Int.reduceEq, Int.reduceAdd, Int.reduceSub, Int.reduceNeg, fresh_dn hM, fresh_at hM]) (by simp (maxDischargeDepth := 80) only [push_cast, Nat.reduceBEq, reduceIte, reduceCtorEq, Nat.reduceEqDiff, Nat.reduceAdd, Nat.reduceMul, Nat.reduceSub, Nat.reduceLeDiff, Nat.reduceLT, Nat.reducePow, Int.reduceToNat, Int.reduceLT, Int.reduceLE, Int.reduceEq, Int.reduceAdd, Int.reduceSub, Int.reduceNeg]) (by simp (maxDischargeDepth := 80) only [push_cast, Nat.reduceBEq, reduceIte, reduceCtorEq, Nat.reduceEqDiff, Nat.reduceAdd, Nat.reduceMul, Nat.reduceSub, Nat.reduceLeDiff, Nat.reduceLT, Nat.reducePow, Int.reduceToNat, Int.reduceLT, Int.reduceLE, Int.reduceEq, Int.reduceAdd, Int.reduceSub, Int.reduceNeg]) (fun _ hx => by cases hx)
  obtain ⟨y, k1, k2, k3, k4⟩ := ticked1_E t (by omega) (by omega) (1 :: 0 :: 1 :: 1 :: 1 :: 1 :: 1 :: 0 :: s) hF2 h2
  have hoff : ∀ u, Off u (6 :: 0 :: 1 :: 1 :: 1 :: 0 :: s) → Off (6 :: 0 :: 1 :: 1 :: 1 :: 0 :: s) u → ∀ j ∈ [x.2.1, x.2.2.1, x.2.2.2.1, x.2.2.2.2.1], Off u j := fun u a b j hj => by
    simp only [List.mem_cons, List.not_mem_nil, or_false] at hj
    rcases hj with rfl | rfl | rfl | rfl
    · exact Off_un a b h4.1
    · exact Off_un a b h4.2.1
    · exact Off_un a b h4.2.2.1
    · exact Off_un a b h4.2.2.2
  have hFl : ∀ k, FreshM (k :: 0 :: 1 :: 0 :: 1 :: 1 :: 1 :: 1 :: 1 :: 1 :: 0 :: s) y.1 := fun k => k3.fr (h3.fr (by simp (maxDischargeDepth := 80) only [push_cast, Nat.reduceBEq, reduceIte, reduceCtorEq, Nat.reduceEqDiff, Nat.reduceAdd, Nat.reduceMul, Nat.reduceSub, Nat.reduceLeDiff, Nat.reduceLT, Nat.reducePow, Int.reduceToNat, Int.reduceLT, Int.reduceLE, Int.reduceEq, Int.reduceAdd, Int.reduceSub, Int.reduceNeg, fresh_dn hM, fresh_at hM]) (by simp (maxDischargeDepth := 80) only [push_cast, Nat.reduceBEq, reduceIte, reduceCtorEq, Nat.reduceEqDiff, Nat.reduceAdd, Nat.reduceMul, Nat.reduceSub, Nat.reduceLeDiff, Nat.reduceLT, Nat.reducePow, Int.reduceToNat, Int.reduceLT, Int.reduceLE, Int.reduceEq, Int.reduceAdd, Int.reduceSub, Int.reduceNeg]) (by simp (maxDischargeDepth := 80) only [push_cast, Nat.reduceBEq, reduceIte, reduceCtorEq, Nat.reduceEqDiff, Nat.reduceAdd, Nat.reduceMul, Nat.reduceSub, Nat.reduceLeDiff, Nat.reduceLT, Nat.reducePow, Int.reduceToNat, Int.reduceLT, Int.reduceLE, Int.reduceEq, Int.reduceAdd, Int.reduceSub, Int.reduceNeg]) (fun _ hx => by cases hx)) (by simp (maxDischargeDepth := 80) only [push_cast, Nat.reduceBEq, reduceIte, reduceCtorEq, Nat.reduceEqDiff, Nat.reduceAdd, Nat.reduceMul, Nat.reduceSub, Nat.reduceLeDiff, Nat.reduceLT, Nat.reducePow, Int.reduceToNat, Int.reduceLT, Int.reduceLE, Int.reduceEq, Int.reduceAdd, Int.reduceSub, Int.reduceNeg]) (by simp (maxDischargeDepth := 80) only [push_cast, Nat.reduceBEq, reduceIte, reduceCtorEq, Nat.reduceEqDiff, Nat.reduceAdd, Nat.reduceMul, Nat.reduceSub, Nat.reduceLeDiff, Nat.reduceLT, Nat.reducePow, Int.reduceToNat, Int.reduceLT, Int.reduceLE, Int.reduceEq, Int.reduceAdd, Int.reduceSub, Int.reduceNeg]) (hoff _ (by simp (maxDischargeDepth := 80) only [push_cast, Nat.reduceBEq, reduceIte, reduceCtorEq, Nat.reduceEqDiff, Nat.reduceAdd, Nat.reduceMul, Nat.reduceSub, Nat.reduceLeDiff, Nat.reduceLT, Nat.reducePow, Int.reduceToNat, Int.reduceLT, Int.reduceLE, Int.reduceEq, Int.reduceAdd, Int.reduceSub, Int.reduceNeg]) (by simp (maxDischargeDepth := 80) only [push_cast, Nat.reduceBEq, reduceIte, reduceCtorEq, Nat.reduceEqDiff, Nat.reduceAdd, Nat.reduceMul, Nat.reduceSub, Nat.reduceLeDiff, Nat.reduceLT, Nat.reducePow, Int.reduceToNat, Int.reduceLT, Int.reduceLE, Int.reduceEq, Int.reduceAdd, Int.reduceSub, Int.reduceNeg]))
  have hFe : FreshM (4 :: 0 :: 1 :: 1 :: 1 :: 1 :: 1 :: 1 :: 1 :: 0 :: s) y.1 := k3.fr (h3.fr (by simp (maxDischargeDepth := 80) only [push_cast, Nat.reduceBEq, reduceIte, reduceCtorEq, Nat.reduceEqDiff, Nat.reduceAdd, Nat.reduceMul, Nat.reduceSub, Nat.reduceLeDiff, Nat.reduceLT, Nat.reducePow, Int.reduceToNat, Int.reduceLT, Int.reduceLE, Int.reduceEq, Int.reduceAdd, Int.reduceSub, Int.reduceNeg, fresh_dn hM, fresh_at hM]) (by simp (maxDischargeDepth := 80) only [push_cast, Nat.reduceBEq, reduceIte, reduceCtorEq, Nat.reduceEqDiff, Nat.reduceAdd, Nat.reduceMul, Nat.reduceSub, Nat.reduceLeDiff, Nat.reduceLT, Nat.reducePow, Int.reduceToNat, Int.reduceLT, Int.reduceLE, Int.reduceEq, Int.reduceAdd, Int.reduceSub, Int.reduceNeg]) (by simp (maxDischargeDepth := 80) only [push_cast, Nat.reduceBEq, reduceIte, reduceCtorEq, Nat.reduceEqDiff, Nat.reduceAdd, Nat.reduceMul, Nat.reduceSub, Nat.reduceLeDiff, Nat.reduceLT, Nat.reducePow, Int.reduceToNat, Int.reduceLT, Int.reduceLE, Int.reduceEq, Int.reduceAdd, Int.reduceSub, Int.reduceNeg]) (fun _ hx => by cases hx)) (by simp (maxDischargeDepth := 80) only [push_cast, Nat.reduceBEq, reduceIte, reduceCtorEq, Nat.reduceEqDiff, Nat.reduceAdd, Nat.reduceMul, Nat.reduceSub, Nat.reduceLeDiff, Nat.reduceLT, Nat.reducePow, Int.reduceToNat, Int.reduceLT, Int.reduceLE, Int.reduceEq, Int.reduceAdd, Int.reduceSub, Int.reduceNeg]) (by simp (maxDischargeDepth := 80) only [push_cast, Nat.reduceBEq, reduceIte, reduceCtorEq, Nat.reduceEqDiff, Nat.reduceAdd, Nat.reduceMul, Nat.reduceSub, Nat.reduceLeDiff, Nat.reduceLT, Nat.reducePow, Int.reduceToNat, Int.reduceLT, Int.reduceLE, Int.reduceEq, Int.reduceAdd, Int.reduceSub, Int.reduceNeg]) (hoff _ (by simp (maxDischargeDepth := 80) only [push_cast, Nat.reduceBEq, reduceIte, reduceCtorEq, Nat.reduceEqDiff, Nat.reduceAdd, Nat.reduceMul, Nat.reduceSub, Nat.reduceLeDiff, Nat.reduceLT, Nat.reducePow, Int.reduceToNat, Int.reduceLT, Int.reduceLE, Int.reduceEq, Int.reduceAdd, Int.reduceSub, Int.reduceNeg]) (by simp (maxDischargeDepth := 80) only [push_cast, Nat.reduceBEq, reduceIte, reduceCtorEq, Nat.reduceEqDiff, Nat.reduceAdd, Nat.reduceMul, Nat.reduceSub, Nat.reduceLeDiff, Nat.reduceLT, Nat.reducePow, Int.reduceToNat, Int.reduceLT, Int.reduceLE, Int.reduceEq, Int.reduceAdd, Int.reduceSub, Int.reduceNeg]))
  generalize hp : x.2.1 = p at *
  generalize hie : x.2.2.1 = ie at *
  generalize hil : x.2.2.2.1 = il at *
  clear h2 h4
  have wT : IntKind.wrap .i64 (t + 1) = t + 1 := wrap_id (by omega) (by omega)
  rw [Fn_body Tryz.func3 (by decide) rfl rfl]
  rw [Option.map_bind]
  simp only [Function.comp_def]
  simp (maxDischargeDepth := 80) only [push_cast, Nat.reduceBEq, reduceIte, reduceCtorEq, Nat.reduceEqDiff, Nat.reduceAdd, Nat.reduceMul, Nat.reduceSub, Nat.reduceLeDiff, Nat.reduceLT, Nat.reducePow, Int.reduceToNat, Int.reduceLT, Int.reduceLE, Int.reduceEq, Int.reduceAdd, Int.reduceSub, Int.reduceNeg, r8, c1, c2, h1, k1, fresh_dn hM, fresh_at hM]
  refine lp_rule (fun s1 j f M' => ∃ (es : List Ent) (ia im ims : Id) (v : V) (fr tt tv : Int), Lone M' p (lnd ie il im fr tt tv .nils) (lel (t + 1) ims) ia v (lg1 (t + 1) es) im ∧ (∀ e ∈ es, e.term = t + 1) ∧ es.length = j ∧
      f 0 = v0 ∧ f 1 = .int .i64 t ∧ f 6 = .ptr p 0 ∧ f 8 = .int .i64 j ∧ (∀ k, j ≤ k → FreshM (k :: s1) M') ∧ FreshM (4 :: 0 :: 1 :: 1 :: 1 :: 1 :: 1 :: 1 :: 1 :: 0 :: s) M') (min l.length 50) ?_ (Nat.zero_le _) ?_ ?_
  · refine ⟨[], y.2.1, y.2.2.2.1, y.2.2.2.2, y.2.2.1, 1, t, 0, k2, by simp, rfl, ?_, ?_, ?_, ?_, fun k _ => hFl k, hFe⟩ <;> simp (maxDischargeDepth := 80) only [push_cast, Nat.reduceBEq, reduceIte, reduceCtorEq, Nat.reduceEqDiff, Nat.reduceAdd, Nat.reduceMul, Nat.reduceSub, Nat.reduceLeDiff, Nat.reduceLT, Nat.reducePow, Int.reduceToNat, Int.reduceLT, Int.reduceLE, Int.reduceEq, Int.reduceAdd, Int.reduceSub, Int.reduceNeg]
  · rintro j f M' hj ⟨es, ia, im, ims, v, fr, tt, tv, hL, hes, hlen, f0, f1, f6, f8, hF, hFe'⟩ ih
    have hjl : j < l.length := by omega
    obtain ⟨q, hq1, hq2⟩ := hv.get j hjl
    have hj1 : ((j : Int) < (l.length : Int)) = True := by simp; omega
    have hj2 : ((j : Int) < 50) = True := by simp; omega
    by_cases c3 : 4096 < (dlen l[j] : Int)
    · simp (maxDischargeDepth := 80) only [push_cast, Nat.reduceBEq, reduceIte, reduceCtorEq, Nat.reduceEqDiff, Nat.reduceAdd, Nat.reduceMul, Nat.reduceSub, Nat.reduceLeDiff, Nat.reduceLT, Nat.reducePow, Int.reduceToNat, Int.reduceLT, Int.reduceLE, Int.reduceEq, Int.reduceAdd, Int.reduceSub, Int.reduceNeg, f0, f1, f6, f8, hv.len, hj1, hj2, hq1, hq2, len_data, c3]
    · have hFj := hF j (Nat.le_refl _)
      obtain ⟨M1, M2, M3, M4, rid, hn, a, b, f1', im', ia', v', g11, g12, g13, gM4, g14, g15, grid, gL, gfr, gia, gF3⟩ := iter1_E l[j] j (j :: 0 :: 1 :: 0 :: 1 :: 1 :: 1 :: 1 :: 1 :: 1 :: 0 :: s) hFj hL (by omega) hes (by omega) (by omega) (by omega)
      have hcl : copiedV [⟨(es.length : Int) + 2, t + 1, 1, l[j]⟩] = .psl [.int .i64 ((es.length : Int) + 2), .int .i64 (t + 1), .int .i64 1, dataV l[j]] 1 false := rfl
      rw [hcl] at g14
      have hridb : M4 (2 :: 0 :: 1 :: 1 :: 1 :: 0 :: 0 :: 1 :: j :: 0 :: 1 :: 0 :: 1 :: 1 :: 1 :: 1 :: 1 :: 1 :: 0 :: s) = some (.cells [.bool hn, .int .i64 a, .int .i64 b, .bool false, .int .i64 0, .int .i64 0, .nils, .nils, .nils, .int .i64 f1', .nils, .sl rid 0 1 2 none]) := by rw [← gM4]; simp (maxDischargeDepth := 80) only [push_cast, Nat.reduceBEq, reduceIte, reduceCtorEq, Nat.reduceEqDiff, Nat.reduceAdd, Nat.reduceMul, Nat.reduceSub, Nat.reduceLeDiff, Nat.reduceLT, Nat.reducePow, Int.reduceToNat, Int.reduceLT, Int.reduceLE, Int.reduceEq, Int.reduceAdd, Int.reduceSub, Int.reduceNeg]
      have wj : IntKind.wrap .i64 ((j : Int) + 2) = (j : Int) + 2 := wrap_id (by omega) (by omega)
      have w2 : IntKind.wrap .i64 ((j : Int) + 1) = ((j + 1 : Nat) : Int) := wrap_nat j (by omega)
      have hz : M3 (2 :: 0 :: 1 :: 1 :: 1 :: 0 :: 0 :: 1 :: j :: 0 :: 1 :: 0 :: 1 :: 1 :: 1 :: 1 :: 1 :: 1 :: 0 :: s) = none := gF3 _ (List.suffix_refl _)
      rw [hlen] at g11 g14 g15 grid
      simp (maxDischargeDepth := 80) only [push_cast, Nat.reduceBEq, reduceIte, reduceCtorEq, Nat.reduceEqDiff, Nat.reduceAdd, Nat.reduceMul, Nat.reduceSub, Nat.reduceLeDiff, Nat.reduceLT, Nat.reducePow, Int.reduceToNat, Int.reduceLT, Int.reduceLE, Int.reduceEq, Int.reduceAdd, Int.reduceSub, Int.reduceNeg, f0, f1, f6, f8, hv.len, hj1, hj2, hq1, hq2, len_data, c3, g11, g12, g13, gM4, g14, g15, hridb, grid, wj, wT, conv_data, beq_self_list]
      have hlen' : (es.length : Int) = (j : Int) := by omega
      refine ih _ _ ⟨es ++ [⟨(es.length : Int) + 2, t + 1, 1, l[j]⟩], ia', im', ims, v', 0, t + 1, 1, gL, ?_, ?_, ?_, ?_, ?_, ?_, ?_, ?_⟩
      · intro e he
        rcases List.mem_append.1 he with q | q
        · exact hes e q
        · rw [List.mem_singleton.1 q]
      · simp [hlen]
      · simp (maxDischargeDepth := 80) only [push_cast, Nat.reduceBEq, reduceIte, reduceCtorEq, Nat.reduceEqDiff, Nat.reduceAdd, Nat.reduceMul, Nat.reduceSub, Nat.reduceLeDiff, Nat.reduceLT, Nat.reducePow, Int.reduceToNat, Int.reduceLT, Int.reduceLE, Int.reduceEq, Int.reduceAdd, Int.reduceSub, Int.reduceNeg, f0]
      · simp (maxDischargeDepth := 80) only [push_cast, Nat.reduceBEq, reduceIte, reduceCtorEq, Nat.reduceEqDiff, Nat.reduceAdd, Nat.reduceMul, Nat.reduceSub, Nat.reduceLeDiff, Nat.reduceLT, Nat.reducePow, Int.reduceToNat, Int.reduceLT, Int.reduceLE, Int.reduceEq, Int.reduceAdd, Int.reduceSub, Int.reduceNeg, f1]
      · simp (maxDischargeDepth := 80) only [push_cast, Nat.reduceBEq, reduceIte, reduceCtorEq, Nat.reduceEqDiff, Nat.reduceAdd, Nat.reduceMul, Nat.reduceSub, Nat.reduceLeDiff, Nat.reduceLT, Nat.reducePow, Int.reduceToNat, Int.reduceLT, Int.reduceLE, Int.reduceEq, Int.reduceAdd, Int.reduceSub, Int.reduceNeg, f6]
      · simp (maxDischargeDepth := 80) only [push_cast, Nat.reduceBEq, reduceIte, reduceCtorEq, Nat.reduceEqDiff, Nat.reduceAdd, Nat.reduceMul, Nat.reduceSub, Nat.reduceLeDiff, Nat.reduceLT, Nat.reducePow, Int.reduceToNat, Int.reduceLT, Int.reduceLE, Int.reduceEq, Int.reduceAdd, Int.reduceSub, Int.reduceNeg, f8]
        exact congrArg (V.int IntKind.i64) w2
      · intro k hk
        have hkj : (k = j) = False := eq_false (by omega)
        have hjk : (j = k) = False := eq_false (by omega)
        exact gfr.fr (hF k (by omega)) (by simp (maxDischargeDepth := 80) only [push_cast, Nat.reduceBEq, reduceIte, reduceCtorEq, Nat.reduceEqDiff, Nat.reduceAdd, Nat.reduceMul, Nat.reduceSub, Nat.reduceLeDiff, Nat.reduceLT, Nat.reducePow, Int.reduceToNat, Int.reduceLT, Int.reduceLE, Int.reduceEq, Int.reduceAdd, Int.reduceSub, Int.reduceNeg, hkj, hjk]) (by simp (maxDischargeDepth := 80) only [push_cast, Nat.reduceBEq, reduceIte, reduceCtorEq, Nat.reduceEqDiff, Nat.reduceAdd, Nat.reduceMul, Nat.reduceSub, Nat.reduceLeDiff, Nat.reduceLT, Nat.reducePow, Int.reduceToNat, Int.reduceLT, Int.reduceLE, Int.reduceEq, Int.reduceAdd, Int.reduceSub, Int.reduceNeg, hkj, hjk]) (hL.off (hF k (by omega)))
      · exact gfr.fr hFe' (by simp (maxDischargeDepth := 80) only [push_cast, Nat.reduceBEq, reduceIte, reduceCtorEq, Nat.reduceEqDiff, Nat.reduceAdd, Nat.reduceMul, Nat.reduceSub, Nat.reduceLeDiff, Nat.reduceLT, Nat.reducePow, Int.reduceToNat, Int.reduceLT, Int.reduceLE, Int.reduceEq, Int.reduceAdd, Int.reduceSub, Int.reduceNeg]) (by simp (maxDischargeDepth := 80) only [push_cast, Nat.reduceBEq, reduceIte, reduceCtorEq, Nat.reduceEqDiff, Nat.reduceAdd, Nat.reduceMul, Nat.reduceSub, Nat.reduceLeDiff, Nat.reduceLT, Nat.reducePow, Int.reduceToNat, Int.reduceLT, Int.reduceLE, Int.reduceEq, Int.reduceAdd, Int.reduceSub, Int.reduceNeg]) (hL.off hFe')
  · rintro f M' ⟨es, ia, im, ims, v, fr, tt, tv, hL, hes, hlen, f0, f1, f6, f8, hF, hFe'⟩
    have hobj := hL.at_.obj
    have hel : M' ie = _ := hL.at_.el
    have r1 := fun s' (q1 : FreshM s' M') => role_E s' q1 hel
    have c5 : (lel (t + 1) ims).role = 3 := rfl
    rw [c5] at r1
    simp only [Nd.cs_eq, lnd] at hobj
    by_cases c4 : 50 < l.length
    · have hA : (((min l.length 50 : Nat) : Int) < (l.length : Int)) = True := eq_true (by omega)
      have hB : (((min l.length 50 : Nat) : Int) < 50) = False := eq_false (by omega)
      simp (maxDischargeDepth := 80) only [push_cast, Nat.reduceBEq, reduceIte, reduceCtorEq, Nat.reduceEqDiff, Nat.reduceAdd, Nat.reduceMul, Nat.reduceSub, Nat.reduceLeDiff, Nat.reduceLT, Nat.reducePow, Int.reduceToNat, Int.reduceLT, Int.reduceLE, Int.reduceEq, Int.reduceAdd, Int.reduceSub, Int.reduceNeg, f0, f1, f6, f8, hv.len, hA, hB, hobj, r1, fresh_dn hFe']
    · have hA : (((min l.length 50 : Nat) : Int) < (l.length : Int)) = False := eq_false (by omega)
      simp (maxDischargeDepth := 80) only [push_cast, Nat.reduceBEq, reduceIte, reduceCtorEq, Nat.reduceEqDiff, Nat.reduceAdd, Nat.reduceMul, Nat.reduceSub, Nat.reduceLeDiff, Nat.reduceLT, Nat.reducePow, Int.reduceToNat, Int.reduceLT, Int.reduceLE, Int.reduceEq, Int.reduceAdd, Int.reduceSub, Int.reduceNeg, f0, f1, f6, f8, hv.len, hA, hobj, r1, fresh_dn hFe']
end Go.Ab.R
