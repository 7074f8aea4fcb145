/- What an entry does to a group. Conditions: none. -/
import Derived.Test.YtpohfmcpfkbabaaGreatGg
import Derived.Test.YtpohfmcpfkbabaaGreatGe
set_option linter.unusedSimpArgs false
set_option linter.unusedVariables false
namespace Go.Ab.R
open Go Go.Proofs
set_option maxRecDepth 100000

theorem natsOf_byte (l : List UInt8) : natsOf (l.map byteV) = some (l.map (·.toNat)) := by
  induction l with
  | nil => rfl
  | cons b l ih =>
    have hb := b.toNat_lt
    simp only [List.map_cons, natsOf, ih, byteV, natOf]
    rw [if_pos ⟨by omega, by omega⟩]
    rfl
theorem num_psl (r : Id) (most : Int) (l : List UInt8) (s : Id) (M : Mem) (hr : M r = some (.cells [.psl (l.map byteV) l.length false, .bool false])) :
    numP [.ptr r 0, .int .u64 most] s M = some (match decB most (l.map (·.toNat)) with
      | some (n, k) => (.int .u64 n, M.set r (.cells [.psl ((l.drop k).map byteV) (l.drop k).length false, .bool false]))
      | none => (.int .u64 0, M.set r (.cells [.psl (l.map byteV) l.length false, .bool true]))) := by
  simp only [numP, hr, Bool.false_eq_true, if_false, natsOf_byte, List.length_map, if_true]
  cases decB most (l.map (·.toNat)) with
  | none => rfl
  | some x => obtain ⟨n, k⟩ := x; simp
theorem num_nil (r : Id) (most : Int) (s : Id) (M : Mem) (hr : M r = some (.cells [.nils, .bool false])) : numP [.ptr r 0, .int .u64 most] s M = some (.int .u64 0, M.set r (.cells [.nils, .bool true])) := by
  simp only [numP, hr, Bool.false_eq_true, if_false]
theorem num_bad (r : Id) (v : V) (hv : v.one = true) (most : Int) (s : Id) (M : Mem) (hr : M r = some (.cells [v, .bool true])) : numP [.ptr r 0, .int .u64 most] s M = some (.int .u64 0, M.set r (.cells [v, .bool true])) := by
  simp only [numP, hr, if_true, hv]

/-- the two numbers of a change's bytes -/
def twoL : Option (List UInt8) → Option (Int × Int)
  | none => none
  | some l => match decB 1099511627776 (l.map (·.toNat)) with
    | none => none
    | some (n, k) => match decB 1099511627776 ((l.drop k).map (·.toNat)) with
      | none => none
      | some (n2, k2) => if ((l.drop k).drop k2).length = 0 then some (n, n2) else none
def chgL (g : Grp) (x : Ent) : Grp := if x.kind = 2 then (match twoL x.data with
    | some (n, n2) => (changeL g (IntKind.wrap .i64 n) (IntKind.wrap .i64 n2)).getD g
    | none => g) else g

theorem readerNew_E (d : Option (List UInt8)) (hd : ∀ l, d = some l → l.length ≤ mostLen) (s : Id) (M : Mem) (hM : FreshM s M) : Fn env false 211 [dataV d] s M = some (.ptr (3 :: 0 :: 1 :: 0 :: s) 0, M.set (3 :: 0 :: 1 :: 0 :: s) (.cells [dataV d, .bool false])) := by
  have r48 := fun s' M' (q1 : FreshM s' M') => cloneB_E d hd s' M' q1
  rw [Fn_body Tryz.func211 (by decide) rfl rfl]
  simp (maxDischargeDepth := 80) only [push_cast, Nat.reduceBEq, reduceIte, reduceCtorEq, Nat.reduceEqDiff, Nat.reduceAdd, Nat.reduceMul, Nat.reduceSub, Nat.reduceLeDiff, Nat.reduceLT, Nat.reducePow, Int.reduceToNat, Int.reduceLT, Int.reduceLE, Int.reduceEq, Int.reduceAdd, Int.reduceSub, Int.reduceNeg, r48, one_data, data_cells, fresh_dn hM, fresh_at hM]
theorem whole_bad (r : Id) (v : V) (s : Id) (M : Mem) (hr : M r = some (.cells [v, .bool true])) : Fn env false 213 [.ptr r 0] s M = some (.bool false, M) := by
  rw [Fn_body Tryz.func213 (by decide) rfl rfl]
  simp (maxDischargeDepth := 80) only [push_cast, Nat.reduceBEq, reduceIte, reduceCtorEq, Nat.reduceEqDiff, Nat.reduceAdd, Nat.reduceMul, Nat.reduceSub, Nat.reduceLeDiff, Nat.reduceLT, Nat.reducePow, Int.reduceToNat, Int.reduceLT, Int.reduceLE, Int.reduceEq, Int.reduceAdd, Int.reduceSub, Int.reduceNeg, hr]
theorem whole_ok (r : Id) (l : List UInt8) (s : Id) (M : Mem) (hr : M r = some (.cells [.psl (l.map byteV) l.length false, .bool false])) : Fn env false 213 [.ptr r 0] s M = some (.bool (decide ((l.length : Int) = 0)), M) := by
  rw [Fn_body Tryz.func213 (by decide) rfl rfl]
  simp (maxDischargeDepth := 80) only [push_cast, Nat.reduceBEq, reduceIte, reduceCtorEq, Nat.reduceEqDiff, Nat.reduceAdd, Nat.reduceMul, Nat.reduceSub, Nat.reduceLeDiff, Nat.reduceLT, Nat.reducePow, Int.reduceToNat, Int.reduceLT, Int.reduceLE, Int.reduceEq, Int.reduceAdd, Int.reduceSub, Int.reduceNeg, hr]

theorem chgL_E (g : Grp) (h1 : (intsL g.1).length < 2 ^ 35) (h2 : (intsL g.2).length < 2 ^ 35) (x : Ent) (hd : dlen x.data ≤ mostLen) (s : Id) (M : Mem) (hM : FreshM s M) :
    Fn env false 158 [.agg [intsV g.1, intsV g.2], .agg x.cells] s M = some (.agg [intsV (chgL g x).1, intsV (chgL g x).2], M) := by
  by_cases hk : x.kind = 2
  rotate_left
  · have e : chgL g x = g := by unfold chgL; rw [if_neg hk]
    rw [e]
    exact changed0_E x hk g s M hM
  obtain ⟨xi, xt, xk, d⟩ := x
  simp only at hk hd
  subst hk
  have r48 := fun s' M' (q1 : FreshM s' M') => cloneB_E d (fun l e => by rw [e] at hd; exact hd) s' M' q1
  have rN := fun s' M' (q1 : FreshM s' M') => readerNew_E d (fun l e => by rw [e] at hd; exact hd) s' M' q1
  have rC := fun k n s' M' (q1 : FreshM s' M') => change_E g h1 h2 k n s' M' q1
  cases hd2 : d with
  | none =>
    have e : chgL g ⟨xi, xt, 2, none⟩ = g := rfl
    rw [e]
    subst hd2
    simp only [dataV] at rN
    have N1 := fun r s M => num_nil r 1099511627776 s M
    have N2 := fun r s M => num_bad r .nils rfl 1099511627776 s M
    have W1 := fun r s M => whole_bad r .nils s M
    rw [Fn_body Tryz.func158 (by decide) rfl rfl]
    simp (maxDischargeDepth := 80) only [push_cast, Nat.reduceBEq, reduceIte, reduceCtorEq, Nat.reduceEqDiff, Nat.reduceAdd, Nat.reduceMul, Nat.reduceSub, Nat.reduceLeDiff, Nat.reduceLT, Nat.reducePow, Int.reduceToNat, Int.reduceLT, Int.reduceLE, Int.reduceEq, Int.reduceAdd, Int.reduceSub, Int.reduceNeg, Ent.cells_eq, one_data, data_cells, intsV_one, intsV_cells, rN, W1, dataV, F212, N1, N2, fresh_dn hM, fresh_at hM]
  | some l =>
    subst hd2
    simp only [dataV] at rN
    have N1 := fun r s M => num_psl r 1099511627776 l s M
    have N2 := fun r s M => num_bad r (.psl (l.map byteV) l.length false) rfl 1099511627776 s M
    have W1 := fun r s M => whole_bad r (.psl (l.map byteV) l.length false) s M
    cases c1 : decB 1099511627776 (l.map (·.toNat)) with
    | none =>
      have e : chgL g ⟨xi, xt, 2, some l⟩ = g := by simp [chgL, twoL, c1]
      rw [e]
      rw [Fn_body Tryz.func158 (by decide) rfl rfl]
      simp (maxDischargeDepth := 80) only [push_cast, Nat.reduceBEq, reduceIte, reduceCtorEq, Nat.reduceEqDiff, Nat.reduceAdd, Nat.reduceMul, Nat.reduceSub, Nat.reduceLeDiff, Nat.reduceLT, Nat.reducePow, Int.reduceToNat, Int.reduceLT, Int.reduceLE, Int.reduceEq, Int.reduceAdd, Int.reduceSub, Int.reduceNeg, Ent.cells_eq, one_data, data_cells, intsV_one, intsV_cells, rN, W1, dataV, F212, N1, N2, c1, fresh_dn hM, fresh_at hM]
    | some y =>
      obtain ⟨n, k⟩ := y
      cases c2 : decB 1099511627776 ((l.drop k).map (·.toNat)) with
      | none =>
        have N3 := fun r s M => num_psl r 1099511627776 (l.drop k) s M
        have W3 := fun r s M => whole_bad r (.psl ((l.drop k).map byteV) (l.drop k).length false) s M
        have e : chgL g ⟨xi, xt, 2, some l⟩ = g := by simp only [chgL, twoL, c1, c2]; rfl
        rw [e]
        rw [Fn_body Tryz.func158 (by decide) rfl rfl]
        simp (maxDischargeDepth := 80) only [push_cast, Nat.reduceBEq, reduceIte, reduceCtorEq, Nat.reduceEqDiff, Nat.reduceAdd, Nat.reduceMul, Nat.reduceSub, Nat.reduceLeDiff, Nat.reduceLT, Nat.reducePow, Int.reduceToNat, Int.reduceLT, Int.reduceLE, Int.reduceEq, Int.reduceAdd, Int.reduceSub, Int.reduceNeg, Ent.cells_eq, one_data, data_cells, intsV_one, intsV_cells, rN, W3, dataV, F212, N1, N3, c1, c2, fresh_dn hM, fresh_at hM]
      | some y =>
        obtain ⟨n2, k2⟩ := y
        have N3 := fun r s M => num_psl r 1099511627776 (l.drop k) s M
        have W3 := fun r s M => whole_ok r ((l.drop k).drop k2) s M
        by_cases c3 : ((l.drop k).drop k2).length = 0
        · have c3' : ((((l.drop k).drop k2).length : Nat) : Int) = 0 := by omega
          simp only [List.length_drop] at c3'
          have e : chgL g ⟨xi, xt, 2, some l⟩ = (changeL g (IntKind.wrap .i64 n) (IntKind.wrap .i64 n2)).getD g := by simp only [chgL, twoL, c1, c2, if_pos c3]; rfl
          rw [e]
          cases c4 : changeL g (IntKind.wrap .i64 n) (IntKind.wrap .i64 n2) with
          | none =>
            have e5 : (changeC g (IntKind.wrap .i64 n) (IntKind.wrap .i64 n2) = 0) = False := eq_false (by unfold changeC; rw [c4]; simp only; split <;> omega)
            rw [Fn_body Tryz.func158 (by decide) rfl rfl]
            simp (maxDischargeDepth := 80) only [push_cast, Nat.reduceBEq, reduceIte, reduceCtorEq, Nat.reduceEqDiff, Nat.reduceAdd, Nat.reduceMul, Nat.reduceSub, Nat.reduceLeDiff, Nat.reduceLT, Nat.reducePow, Int.reduceToNat, Int.reduceLT, Int.reduceLE, Int.reduceEq, Int.reduceAdd, Int.reduceSub, Int.reduceNeg, Ent.cells_eq, one_data, data_cells, intsV_one, intsV_cells, rN, W3, dataV, F212, N1, N3, c1, c2, c3', rC, e5, convV, fresh_dn hM, fresh_at hM]
          | some h =>
            have e5 : changeC g (IntKind.wrap .i64 n) (IntKind.wrap .i64 n2) = 0 := by unfold changeC; rw [c4]
            have e6 : changeR g (IntKind.wrap .i64 n) (IntKind.wrap .i64 n2) = h := by unfold changeR; rw [c4]; rfl
            rw [Fn_body Tryz.func158 (by decide) rfl rfl]
            simp (maxDischargeDepth := 80) only [push_cast, Nat.reduceBEq, reduceIte, reduceCtorEq, Nat.reduceEqDiff, Nat.reduceAdd, Nat.reduceMul, Nat.reduceSub, Nat.reduceLeDiff, Nat.reduceLT, Nat.reducePow, Int.reduceToNat, Int.reduceLT, Int.reduceLE, Int.reduceEq, Int.reduceAdd, Int.reduceSub, Int.reduceNeg, Ent.cells_eq, one_data, data_cells, intsV_one, intsV_cells, rN, W3, dataV, F212, N1, N3, c1, c2, c3', rC, e5, e6, convV, fresh_dn hM, fresh_at hM]
        · have c3' : ¬ ((((l.drop k).drop k2).length : Nat) : Int) = 0 := by omega
          simp only [List.length_drop] at c3'
          have e : chgL g ⟨xi, xt, 2, some l⟩ = g := by simp only [chgL, twoL, c1, c2, if_neg c3]; rfl
          rw [e]
          rw [Fn_body Tryz.func158 (by decide) rfl rfl]
          simp (maxDischargeDepth := 80) only [push_cast, Nat.reduceBEq, reduceIte, reduceCtorEq, Nat.reduceEqDiff, Nat.reduceAdd, Nat.reduceMul, Nat.reduceSub, Nat.reduceLeDiff, Nat.reduceLT, Nat.reducePow, Int.reduceToNat, Int.reduceLT, Int.reduceLE, Int.reduceEq, Int.reduceAdd, Int.reduceSub, Int.reduceNeg, Ent.cells_eq, one_data, data_cells, intsV_one, intsV_cells, rN, W3, dataV, F212, N1, N3, c1, c2, c3', fresh_dn hM, fresh_at hM]
end Go.Ab.R

/- How a node begins, or does not. Conditions: none. -/
namespace Go.Ab.R
open Go Go.Proofs
set_option maxRecDepth 100000

/-- a group that may be one -/
def GrpOk (g : Grp) : Prop := rightL (intsL g.1) (intsL g.2) = true
theorem GrpOk.len1 {g : Grp} (h : GrpOk g) : (intsL g.1).length ≤ 15 := rises_len ((right_iff _ _).1 h).1
theorem GrpOk.len2 {g : Grp} (h : GrpOk g) : (intsL g.2).length ≤ 15 := rises_len ((right_iff _ _).1 h).2.1
theorem chgL_ok {g : Grp} (h : GrpOk g) (x : Ent) : GrpOk (chgL g x) := by
  unfold chgL
  split
  · split
    · rename_i n n2 _
      cases e : changeL g (IntKind.wrap .i64 n) (IntKind.wrap .i64 n2) with
      | none => exact h
      | some k => exact change_right e
    · exact h
  · exact h
theorem chgL_chg (l : List Ent) (h : ∀ x ∈ l, dlen x.data ≤ mostLen) : ChgE chgL GrpOk l := fun x hx g hg =>
  ⟨chgL_ok hg x, fun s M hM => chgL_E g (by have := hg.len1; omega) (by have := hg.len2; omega) x (h x hx) s M hM⟩
theorem groupL_ok {g : Grp} (si : Int) (l : List Ent) (h : GrpOk g) : GrpOk (groupL chgL si g l) := by
  induction l generalizing g with
  | nil => exact h
  | cons x l ih =>
    simp only [groupL]
    split
    · exact ih (chgL_ok h x)
    · exact ih h

/-- what New answers -/
def newC (id t vo pat window : Int) (sn : Snp) (l : List Ent) : Int :=
  if sn.right = false ∨ window < 1 ∨ 64 < window then 1 else if electOk id t vo pat (intsL sn.vs) (intsL sn.ls) = false then 1 else (Lg.start sn []).addE l
def Lg.grp (sn : Snp) (g : Lg) : Grp := groupL chgL sn.index (sn.vs, sn.ls) (g.get (g.base + 1) (g.last - g.base))

theorem right_grp {sn : Snp} (h : sn.right = true) : GrpOk (sn.vs, sn.ls) := by
  simp only [Snp.right, Bool.and_eq_true] at h
  exact h.1.2

theorem addBad_E {M : Mem} {il ia v g w} {l : List Ent} (s : Id) (hM : FreshM s M) (h : LogAt M il ia v g) (hw : RdX M w l) (hn : g.ents.length + l.length ≤ 2 ^ 35) (hne : g.addE l ≠ 0) :
    Okk (Fn env false 34 [.ptr il 0, w] s M) fun x => x = (.int .i64 (g.addE l), M) := by
  obtain ⟨M', h1, h2⟩ := add_E s hM h hw hn
  rw [if_neg hne] at h2
  subst h2
  exact .eq h1 rfl

theorem newX_E (id window pat t vo : Int) (vv lv wl : V) (sn : Snp) (l : List Ent) (s : Id) (M : Mem) (hM : FreshM s M) (h : SnpW M vv lv (dataV sn.data) sn) (hsd : dlen sn.data ≤ mostLen) (hwl : ∀ M, RdX M wl l) (hn : l.length + 1 ≤ 2 ^ 35) :
    Okk (Fn env false 9 [.int .i64 id, .agg [.int .i64 t, .int .i64 vo], .agg [.int .i64 sn.index, .int .i64 sn.term, vv, lv, dataV sn.data], wl, .agg [.int .i64 pat, .int .i64 window]] s M) fun x => (∀ i, Off s i → x.2 i = M i) ∧
      ((newC id t vo pat window sn l ≠ 0 ∧ x.1 = .tup [.nilp, .int .i64 (newC id t vo pat window sn l)]) ∨
       (newC id t vo pat window sn l = 0 ∧ ∃ p ie il ia v im, x.1 = .tup [.ptr p 0, .int .i64 0] ∧
        NodeAt x.2 p ⟨ie, id, window, il, sn, ((Lg.start sn l).grp sn).1, ((Lg.start sn l).grp sn).2, .nilm, .nils, 0, t, vo, false, 0, .nils, .nils⟩ ⟨id, pat, t, vo, intsV ((Lg.start sn l).grp sn).1, intsV ((Lg.start sn l).grp sn).2, 0, 0, 0, pat, .mapr im⟩ ia v (Lg.start sn l) ∧
        Un s p ∧ Un s ie ∧ Un s il ∧ Un s ia)) := by
  have r1 := fun s' M' (q1 : FreshM s' M') (q2 : Sub M M') => right_snapW_E vv lv (dataV sn.data) sn s' M' q1 (h.mono q2)
  have r2 := fun s' M' (q1 : FreshM s' M') (q2 : Sub M M') => electNew_E id t vo pat vv lv (intsL sn.vs) (intsL sn.ls) s' M' q1 ((h.v.mono q2).rd h.sv) ((h.l.mono q2).rd h.sl)
  have r3 := fun s' M' (q1 : FreshM s' M') => rlogNew_E sn.index sn.term s' M' q1
  by_cases c1 : sn.right = true
  rotate_left
  · have c1' : sn.right = false := by simpa using c1
    have e : newC id t vo pat window sn l = 1 := by unfold newC; rw [if_pos (.inl c1')]
    rw [e]
    rw [Fn_body Tryz.func9 (by decide) rfl rfl]
    simp (maxDischargeDepth := 80) only [push_cast, Nat.reduceBEq, reduceIte, reduceCtorEq, Nat.reduceEqDiff, Nat.reduceAdd, Nat.reduceMul, Nat.reduceSub, Nat.reduceLeDiff, Nat.reduceLT, Nat.reducePow, Int.reduceToNat, Int.reduceLT, Int.reduceLE, Int.reduceEq, Int.reduceAdd, Int.reduceSub, Int.reduceNeg, h.v.one, h.v.cells, h.l.one, h.l.cells, one_data, data_cells, r1, c1', fresh_dn hM, fresh_at hM]
    refine ⟨fun i hi => ?_, by simp⟩
    simp (maxDischargeDepth := 80) only [push_cast, Nat.reduceBEq, reduceIte, reduceCtorEq, Nat.reduceEqDiff, Nat.reduceAdd, Nat.reduceMul, Nat.reduceSub, Nat.reduceLeDiff, Nat.reduceLT, Nat.reducePow, Int.reduceToNat, Int.reduceLT, Int.reduceLE, Int.reduceEq, Int.reduceAdd, Int.reduceSub, Int.reduceNeg, Off_ne hi]
  by_cases c2 : window < 1
  · have e : newC id t vo pat window sn l = 1 := by unfold newC; rw [if_pos (.inr (.inl c2))]
    rw [e]
    rw [Fn_body Tryz.func9 (by decide) rfl rfl]
    simp (maxDischargeDepth := 80) only [push_cast, Nat.reduceBEq, reduceIte, reduceCtorEq, Nat.reduceEqDiff, Nat.reduceAdd, Nat.reduceMul, Nat.reduceSub, Nat.reduceLeDiff, Nat.reduceLT, Nat.reducePow, Int.reduceToNat, Int.reduceLT, Int.reduceLE, Int.reduceEq, Int.reduceAdd, Int.reduceSub, Int.reduceNeg, h.v.one, h.v.cells, h.l.one, h.l.cells, one_data, data_cells, r1, c1, c2, fresh_dn hM, fresh_at hM]
    refine ⟨fun i hi => ?_, by simp⟩
    simp (maxDischargeDepth := 80) only [push_cast, Nat.reduceBEq, reduceIte, reduceCtorEq, Nat.reduceEqDiff, Nat.reduceAdd, Nat.reduceMul, Nat.reduceSub, Nat.reduceLeDiff, Nat.reduceLT, Nat.reducePow, Int.reduceToNat, Int.reduceLT, Int.reduceLE, Int.reduceEq, Int.reduceAdd, Int.reduceSub, Int.reduceNeg, Off_ne hi]
  by_cases c3 : 64 < window
  · have e : newC id t vo pat window sn l = 1 := by unfold newC; rw [if_pos (.inr (.inr c3))]
    rw [e]
    rw [Fn_body Tryz.func9 (by decide) rfl rfl]
    simp (maxDischargeDepth := 80) only [push_cast, Nat.reduceBEq, reduceIte, reduceCtorEq, Nat.reduceEqDiff, Nat.reduceAdd, Nat.reduceMul, Nat.reduceSub, Nat.reduceLeDiff, Nat.reduceLT, Nat.reducePow, Int.reduceToNat, Int.reduceLT, Int.reduceLE, Int.reduceEq, Int.reduceAdd, Int.reduceSub, Int.reduceNeg, h.v.one, h.v.cells, h.l.one, h.l.cells, one_data, data_cells, r1, c1, c2, c3, fresh_dn hM, fresh_at hM]
    refine ⟨fun i hi => ?_, by simp⟩
    simp (maxDischargeDepth := 80) only [push_cast, Nat.reduceBEq, reduceIte, reduceCtorEq, Nat.reduceEqDiff, Nat.reduceAdd, Nat.reduceMul, Nat.reduceSub, Nat.reduceLeDiff, Nat.reduceLT, Nat.reducePow, Int.reduceToNat, Int.reduceLT, Int.reduceLE, Int.reduceEq, Int.reduceAdd, Int.reduceSub, Int.reduceNeg, Off_ne hi]
  have cc : ¬ (sn.right = false ∨ window < 1 ∨ 64 < window) := by simp [c1, c2, c3]
  cases c4 : electOk id t vo pat (intsL sn.vs) (intsL sn.ls) with
  | false =>
    have e : newC id t vo pat window sn l = 1 := by unfold newC; rw [if_neg cc, if_pos c4]
    rw [e]
    rw [c4] at r2
    simp only [Bool.false_eq_true, if_false] at r2
    rw [Fn_body Tryz.func9 (by decide) rfl rfl]
    simp (maxDischargeDepth := 80) only [push_cast, Nat.reduceBEq, reduceIte, reduceCtorEq, Nat.reduceEqDiff, Nat.reduceAdd, Nat.reduceMul, Nat.reduceSub, Nat.reduceLeDiff, Nat.reduceLT, Nat.reducePow, Int.reduceToNat, Int.reduceLT, Int.reduceLE, Int.reduceEq, Int.reduceAdd, Int.reduceSub, Int.reduceNeg, h.v.one, h.v.cells, h.l.one, h.l.cells, one_data, data_cells, r1, r2, c1, c2, c3, fresh_dn hM, fresh_at hM]
    refine ⟨fun i hi => ?_, by simp⟩
    simp (maxDischargeDepth := 80) only [push_cast, Nat.reduceBEq, reduceIte, reduceCtorEq, Nat.reduceEqDiff, Nat.reduceAdd, Nat.reduceMul, Nat.reduceSub, Nat.reduceLeDiff, Nat.reduceLT, Nat.reducePow, Int.reduceToNat, Int.reduceLT, Int.reduceLE, Int.reduceEq, Int.reduceAdd, Int.reduceSub, Int.reduceNeg, Off_ne hi]
  | true =>
    have e : newC id t vo pat window sn l = (Lg.start sn []).addE l := by unfold newC; rw [if_neg cc, if_neg (by simp [c4])]
    rw [e]
    by_cases c5 : (Lg.start sn []).addE l = 0
    · have ho : l.any oddL = false := by
        cases q : l.any oddL with
        | false => rfl
        | true => simp [Lg.addE, q] at c5
      have hdl : ∀ x ∈ (Lg.start sn l).ents, dlen x.data ≤ mostLen := by
        intro x hx
        simp only [Lg.start, List.mem_cons] at hx
        rcases hx with rfl | hx
        · simp [dlen]
        · exact addE_data ho x hx
      have hg := groupL_ok sn.index ((Lg.start sn l).get ((Lg.start sn l).base + 1) ((Lg.start sn l).last - (Lg.start sn l).base)) (right_grp c1)
      obtain ⟨x, g1, g2, g3, g4, g5, g6, g7⟩ := new_E chgL GrpOk id window pat t vo vv lv (dataV sn.data) wl sn l s M hM ⟨h.v, h.l, h.d, by have := (right_grp c1).len1; simp only at this; omega, by have := (right_grp c1).len2; simp only at this; omega, hsd⟩ (hwl M) c1 ⟨by omega, by omega⟩ c4 c5 hn (chgL_chg _ hdl) (right_grp c1) ((Lg.start sn l).grp sn) rfl hg (by have := hg.len1; unfold Lg.grp; omega) (by have := hg.len2; unfold Lg.grp; omega)
      refine .eq g1 ⟨fun i hi => g3 i hi (by simp), .inr ⟨c5, _, _, _, _, _, _, rfl, g2, g4, g5, g6, g7⟩⟩
    · -- the entries may not be
      have w1 : (window < 1) = False := eq_false c2
      have w2 : (64 < window) = False := eq_false c3
      have hr2 : (withinL sn.index && withinL sn.term) = true := by
        have hr := c1
        simp only [Snp.right, withinR, Bool.and_eq_true, decide_eq_true_eq] at hr
        simp only [withinL, Bool.and_eq_true, decide_eq_true_eq]
        omega
      simp only [hr2, if_true] at r3
      rw [c4] at r2
      simp only [if_true, Elc.cs_eq] at r2
      rw [Fn_body Tryz.func9 (by decide) rfl rfl]
      simp (maxDischargeDepth := 80) only [push_cast, Nat.reduceBEq, reduceIte, reduceCtorEq, Nat.reduceEqDiff, Nat.reduceAdd, Nat.reduceMul, Nat.reduceSub, Nat.reduceLeDiff, Nat.reduceLT, Nat.reducePow, Int.reduceToNat, Int.reduceLT, Int.reduceLE, Int.reduceEq, Int.reduceAdd, Int.reduceSub, Int.reduceNeg, h.v.one, h.v.cells, h.l.one, h.l.cells, one_data, data_cells, r1, r2, r3, c1, w1, w2, fresh_dn hM, fresh_at hM]
      refine Okk.call (addBad_E (g := Lg.start sn []) (ia := 3 :: 0 :: 1 :: 1 :: 0 :: 4 :: 0 :: 1 :: 1 :: 1 :: 1 :: 0 :: s) (v := .sl (3 :: 0 :: 1 :: 1 :: 0 :: 4 :: 0 :: 1 :: 1 :: 1 :: 1 :: 0 :: s) 0 1 4 (some 1)) (l := l) _ ?_ ⟨?_, ⟨some 1, rfl, .inr rfl⟩, ?_, start_ok c1⟩ (hwl _) (by simp only [Lg.start, List.length_singleton]; omega) c5) ?_
      · simp (maxDischargeDepth := 80) only [push_cast, Nat.reduceBEq, reduceIte, reduceCtorEq, Nat.reduceEqDiff, Nat.reduceAdd, Nat.reduceMul, Nat.reduceSub, Nat.reduceLeDiff, Nat.reduceLT, Nat.reducePow, Int.reduceToNat, Int.reduceLT, Int.reduceLE, Int.reduceEq, Int.reduceAdd, Int.reduceSub, Int.reduceNeg, fresh_dn hM, fresh_at hM]
      · simp (maxDischargeDepth := 80) only [push_cast, Nat.reduceBEq, reduceIte, reduceCtorEq, Nat.reduceEqDiff, Nat.reduceAdd, Nat.reduceMul, Nat.reduceSub, Nat.reduceLeDiff, Nat.reduceLT, Nat.reducePow, Int.reduceToNat, Int.reduceLT, Int.reduceLE, Int.reduceEq, Int.reduceAdd, Int.reduceSub, Int.reduceNeg, Lg.start]
      · simp (maxDischargeDepth := 80) only [push_cast, Nat.reduceBEq, reduceIte, reduceCtorEq, Nat.reduceEqDiff, Nat.reduceAdd, Nat.reduceMul, Nat.reduceSub, Nat.reduceLeDiff, Nat.reduceLT, Nat.reducePow, Int.reduceToNat, Int.reduceLT, Int.reduceLE, Int.reduceEq, Int.reduceAdd, Int.reduceSub, Int.reduceNeg, Lg.start, flatE, Ent.cells_eq, dataV, List.flatMap_cons, List.flatMap_nil]
      rintro _ rfl
      have c5' : ((Lg.start sn []).addE l = 0) = False := eq_false c5
      simp (maxDischargeDepth := 80) only [push_cast, Nat.reduceBEq, reduceIte, reduceCtorEq, Nat.reduceEqDiff, Nat.reduceAdd, Nat.reduceMul, Nat.reduceSub, Nat.reduceLeDiff, Nat.reduceLT, Nat.reducePow, Int.reduceToNat, Int.reduceLT, Int.reduceLE, Int.reduceEq, Int.reduceAdd, Int.reduceSub, Int.reduceNeg, c5']
      exact ⟨fun i hi => by simp (maxDischargeDepth := 80) only [push_cast, Nat.reduceBEq, reduceIte, reduceCtorEq, Nat.reduceEqDiff, Nat.reduceAdd, Nat.reduceMul, Nat.reduceSub, Nat.reduceLeDiff, Nat.reduceLT, Nat.reducePow, Int.reduceToNat, Int.reduceLT, Int.reduceLE, Int.reduceEq, Int.reduceAdd, Int.reduceSub, Int.reduceNeg, Off_ne hi], c5⟩
end Go.Ab.R
