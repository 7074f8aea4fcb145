/- The node in the memory; its group by its entries. Conditions: none. -/
import Derived.Test.YtpohfmcpfkbabaaGreatNd
set_option linter.unusedSimpArgs false
set_option linter.unusedVariables false
namespace Go.Ab.R
open Go Go.Proofs
set_option maxRecDepth 100000

structure Nd where
  ie : Id
  id : Int
  window : Int
  il : Id
  sn : Snp
  gvs : Option (List Int)
  gls : Option (List Int)
  peers : V
  reads : V
  round : Int
  tt : Int
  tv : Int
  snew : Bool
  from_ : Int
  msgs : V
  rds : V
def Nd.cs (d : Nd) : List V := [.ptr d.ie 0, .int .i64 d.id, .int .i64 d.window, .ptr d.il 0, .int .i64 d.sn.index, .int .i64 d.sn.term, intsV d.sn.vs, intsV d.sn.ls, dataV d.sn.data, intsV d.gvs, intsV d.gls, d.peers, d.reads, .int .i64 d.round, .int .i64 d.tt, .int .i64 d.tv,
  .bool false, .int .i64 0, .int .i64 0, .bool d.snew, .int .i64 0, .int .i64 0, .nils, .nils, .nils, .int .i64 d.from_, d.msgs, d.rds]
theorem Nd.cs_eq (d : Nd) : d.cs = [.ptr d.ie 0, .int .i64 d.id, .int .i64 d.window, .ptr d.il 0, .int .i64 d.sn.index, .int .i64 d.sn.term, intsV d.sn.vs, intsV d.sn.ls, dataV d.sn.data, intsV d.gvs, intsV d.gls, d.peers, d.reads, .int .i64 d.round, .int .i64 d.tt, .int .i64 d.tv,
  .bool false, .int .i64 0, .int .i64 0, .bool d.snew, .int .i64 0, .int .i64 0, .nils, .nils, .nils, .int .i64 d.from_, d.msgs, d.rds] := rfl

abbrev Grp := Option (List Int) × Option (List Int)
/-- what an entry does to a group -/
def ChgE (chg : Grp → Ent → Grp) (P : Grp → Prop) (l : List Ent) : Prop := ∀ x ∈ l, ∀ g, P g → P (chg g x) ∧ ∀ s M, FreshM s M → Fn env false 158 [.agg [intsV g.1, intsV g.2], .agg x.cells] s M = some (.agg [intsV (chg g x).1, intsV (chg g x).2], M)

theorem changed0_E (x : Ent) (hx : x.kind ≠ 2) (g : Grp) (s : Id) (M : Mem) (hM : FreshM s M) :
    Fn env false 158 [.agg [intsV g.1, intsV g.2], .agg x.cells] s M = some (.agg [intsV g.1, intsV g.2], M) := by
  have hx' : (x.kind = 2) = False := eq_false hx
  rw [Fn_body Tryz.func158 (by decide) rfl rfl]
  simp (maxDischargeDepth := 80) only [push_cast, Nat.reduceBEq, reduceIte, reduceCtorEq, Nat.reduceEqDiff, Nat.reduceAdd, Nat.reduceMul, Nat.reduceSub, Nat.reduceLeDiff, Nat.reduceLT, Nat.reducePow, Int.reduceToNat, Int.reduceLT, Int.reduceLE, Int.reduceEq, Int.reduceAdd, Int.reduceSub, Int.reduceNeg, intsV_one, intsV_cells, Ent.cells_eq, one_data, data_cells, hx', fresh_dn hM, fresh_at hM]
theorem chg0 (l : List Ent) (h : ∀ x ∈ l, x.kind ≠ 2) : ChgE (fun g _ => g) (fun _ => True) l := fun x hx g _ => ⟨trivial, fun s M hM => changed0_E x (h x hx) g s M hM⟩

def groupL (chg : Grp → Ent → Grp) (si : Int) : Grp → List Ent → Grp
  | g, [] => g
  | g, x :: l => groupL chg si (if si < x.index then chg g x else g) l

theorem groupAt_E {M : Mem} {p ia : Id} {v : V} {g : Lg} {d : Nd} (chg : Grp → Ent → Grp) (P : Grp → Prop) (i : Int) (s : Id) (hM : FreshM s M) (h : M p = some (.cells d.cs)) (hg : LogAt M d.il ia v g)
    (hc : ChgE chg P g.ents) (hP : P (d.sn.vs, d.sn.ls)) (hi : 0 ≤ i) (hi2 : i ≤ 2 ^ 41) :
    Fn env false 89 [.ptr p 0, .int .i64 i] s M = some (.agg [intsV (groupL chg d.sn.index (d.sn.vs, d.sn.ls) (g.get (g.base + 1) (i - g.base))).1, intsV (groupL chg d.sn.index (d.sn.vs, d.sn.ls) (g.get (g.base + 1) (i - g.base))).2], M) := by
  have hlo := hg.ok.lo
  have hhi := hg.ok.hi
  have w1 : IntKind.wrap .i64 (i + 1) = i + 1 := wrap_id (by omega) (by omega)
  have w2 : IntKind.wrap .i64 (i + 1 - (g.base + 1)) = i - g.base := by rw [wrap_id (by omega) (by omega)]; omega
  have r1 := fun s' M' (q1 : FreshM s' M') (q2 : Sub M M') => first_E s' M' q1 (hg.mono q2)
  have r2 := fun s' M' (q1 : FreshM s' M') (q2 : Sub M M') => get_E (g.base + 1) (i - g.base) s' M' q1 (hg.mono q2)
  have hsub : ∀ x ∈ g.get (g.base + 1) (i - g.base), x ∈ g.ents := fun x hx => by
    unfold Lg.get at hx
    split at hx
    · cases hx
    · exact List.mem_of_mem_drop (List.mem_of_mem_take hx)
  have hlen2 : (g.get (g.base + 1) (i - g.base)).length < 2 ^ 40 := by
    have := hg.ok.few
    unfold Lg.get
    split
    · simp
    · rw [List.length_take, List.length_drop]; omega
  generalize g.get (g.base + 1) (i - g.base) = l at *
  have hv := fun M' => (copiedV_ents M' l).rd
  have h' := h
  rw [Nd.cs_eq] at h'
  rw [Fn_body Tryz.func89 (by decide) rfl rfl]
  simp (maxDischargeDepth := 80) only [push_cast, Nat.reduceBEq, reduceIte, reduceCtorEq, Nat.reduceEqDiff, Nat.reduceAdd, Nat.reduceMul, Nat.reduceSub, Nat.reduceLeDiff, Nat.reduceLT, Nat.reducePow, Int.reduceToNat, Int.reduceLT, Int.reduceLE, Int.reduceEq, Int.reduceAdd, Int.reduceSub, Int.reduceNeg, h', Off_dn (Off_of hM h'), Off_ne (Off_of hM h'), Off_ne' (Off_of hM h'), r1, r2, w1, w2, (hv M).len, intsV_one, intsV_cells, fresh_dn hM, fresh_at hM]
  refine lp_rule (fun s1 j f M' => ∃ gr : Grp, P gr ∧ f 0 = .ptr p 0 ∧ f 4 = .ptr (0 :: 0 :: 0 :: s) 0 ∧ f 5 = .ptr (5 :: 0 :: 1 :: 0 :: s) 0 ∧ f 30 = copiedV l ∧ f 31 = .int .i64 l.length ∧ f 32 = .int .i64 j ∧
      groupL chg d.sn.index (d.sn.vs, d.sn.ls) l = groupL chg d.sn.index gr (l.drop j) ∧ M' (0 :: 0 :: 0 :: s) = some (.cells [.nils, .nils]) ∧ M' (5 :: 0 :: 1 :: 0 :: s) = some (.cells [intsV gr.1, intsV gr.2]) ∧ Sub M M' ∧ ∀ k, j ≤ k → FreshM (k :: s1) M') l.length ?_ (Nat.zero_le _) ?_ ?_
  · refine ⟨(d.sn.vs, d.sn.ls), hP, ?_, ?_, ?_, ?_, ?_, ?_, ?_, ?_, ?_, ?_, ?_⟩ <;> simp (maxDischargeDepth := 80) only [push_cast, Nat.reduceBEq, reduceIte, reduceCtorEq, Nat.reduceEqDiff, Nat.reduceAdd, Nat.reduceMul, Nat.reduceSub, Nat.reduceLeDiff, Nat.reduceLT, Nat.reducePow, Int.reduceToNat, Int.reduceLT, Int.reduceLE, Int.reduceEq, Int.reduceAdd, Int.reduceSub, Int.reduceNeg, fresh_dn hM, fresh_at hM]
    intro k _; simp (maxDischargeDepth := 80) only [push_cast, Nat.reduceBEq, reduceIte, reduceCtorEq, Nat.reduceEqDiff, Nat.reduceAdd, Nat.reduceMul, Nat.reduceSub, Nat.reduceLeDiff, Nat.reduceLT, Nat.reducePow, Int.reduceToNat, Int.reduceLT, Int.reduceLE, Int.reduceEq, Int.reduceAdd, Int.reduceSub, Int.reduceNeg, fresh_dn hM, fresh_at hM]
  · rintro j f M' hj ⟨gr, hPg, h0, h4, h5, h30, h31, h32, hr, hm0, hm5, hS, hF⟩ ih
    obtain ⟨q, _, _, hp1, _, _, hp2⟩ := (hv M).get j hj
    have hp3 := (hp2 M' hS).1
    have hjj : ((j : Int) < (l.length : Int)) = True := by simp; omega
    have hx : l.drop j = l[j] :: l.drop (j + 1) := List.drop_eq_getElem_cons hj
    have hFj := hF j (Nat.le_refl _)
    have h'' := hS _ _ h'
    obtain ⟨hP1, hch⟩ := hc l[j] (hsub _ (List.getElem_mem hj)) gr hPg
    rw [Ent.cells_eq] at hp3 hch
    by_cases c1 : d.sn.index < l[j].index
    · simp (maxDischargeDepth := 80) only [push_cast, Nat.reduceBEq, reduceIte, reduceCtorEq, Nat.reduceEqDiff, Nat.reduceAdd, Nat.reduceMul, Nat.reduceSub, Nat.reduceLeDiff, Nat.reduceLT, Nat.reducePow, Int.reduceToNat, Int.reduceLT, Int.reduceLE, Int.reduceEq, Int.reduceAdd, Int.reduceSub, Int.reduceNeg, h0, h4, h5, h30, h31, h32, hp1, hp3, hjj, h'', Off_dn (Off_of hFj h''), Off_ne (Off_of hFj h''), Off_ne' (Off_of hFj h''), hm5, Off_dn (Off_of hFj hm5), Off_ne (Off_of hFj hm5), Off_ne' (Off_of hFj hm5), hch, c1, one_data, data_cells, intsV_one, intsV_cells, fresh_dn hFj, fresh_at hFj, fresh_dn hM, fresh_at hM]
      refine ih _ _ ⟨chg gr l[j], hP1, ?_, ?_, ?_, ?_, ?_, ?_, ?_, ?_, ?_, ?_, ?_⟩
      · simp (maxDischargeDepth := 80) only [push_cast, Nat.reduceBEq, reduceIte, reduceCtorEq, Nat.reduceEqDiff, Nat.reduceAdd, Nat.reduceMul, Nat.reduceSub, Nat.reduceLeDiff, Nat.reduceLT, Nat.reducePow, Int.reduceToNat, Int.reduceLT, Int.reduceLE, Int.reduceEq, Int.reduceAdd, Int.reduceSub, Int.reduceNeg, h0]
      · simp (maxDischargeDepth := 80) only [push_cast, Nat.reduceBEq, reduceIte, reduceCtorEq, Nat.reduceEqDiff, Nat.reduceAdd, Nat.reduceMul, Nat.reduceSub, Nat.reduceLeDiff, Nat.reduceLT, Nat.reducePow, Int.reduceToNat, Int.reduceLT, Int.reduceLE, Int.reduceEq, Int.reduceAdd, Int.reduceSub, Int.reduceNeg, h4]
      · simp (maxDischargeDepth := 80) only [push_cast, Nat.reduceBEq, reduceIte, reduceCtorEq, Nat.reduceEqDiff, Nat.reduceAdd, Nat.reduceMul, Nat.reduceSub, Nat.reduceLeDiff, Nat.reduceLT, Nat.reducePow, Int.reduceToNat, Int.reduceLT, Int.reduceLE, Int.reduceEq, Int.reduceAdd, Int.reduceSub, Int.reduceNeg, h5]
      · simp (maxDischargeDepth := 80) only [push_cast, Nat.reduceBEq, reduceIte, reduceCtorEq, Nat.reduceEqDiff, Nat.reduceAdd, Nat.reduceMul, Nat.reduceSub, Nat.reduceLeDiff, Nat.reduceLT, Nat.reducePow, Int.reduceToNat, Int.reduceLT, Int.reduceLE, Int.reduceEq, Int.reduceAdd, Int.reduceSub, Int.reduceNeg, h30]
      · simp (maxDischargeDepth := 80) only [push_cast, Nat.reduceBEq, reduceIte, reduceCtorEq, Nat.reduceEqDiff, Nat.reduceAdd, Nat.reduceMul, Nat.reduceSub, Nat.reduceLeDiff, Nat.reduceLT, Nat.reducePow, Int.reduceToNat, Int.reduceLT, Int.reduceLE, Int.reduceEq, Int.reduceAdd, Int.reduceSub, Int.reduceNeg, h31]
      · simp (maxDischargeDepth := 80) only [push_cast, Nat.reduceBEq, reduceIte, reduceCtorEq, Nat.reduceEqDiff, Nat.reduceAdd, Nat.reduceMul, Nat.reduceSub, Nat.reduceLeDiff, Nat.reduceLT, Nat.reducePow, Int.reduceToNat, Int.reduceLT, Int.reduceLE, Int.reduceEq, Int.reduceAdd, Int.reduceSub, Int.reduceNeg, h32]
        exact congrArg (V.int IntKind.i64) (wrap_nat j (by omega))
      · rw [hr, hx, groupL, if_pos c1]
      · simp (maxDischargeDepth := 80) only [push_cast, Nat.reduceBEq, reduceIte, reduceCtorEq, Nat.reduceEqDiff, Nat.reduceAdd, Nat.reduceMul, Nat.reduceSub, Nat.reduceLeDiff, Nat.reduceLT, Nat.reducePow, Int.reduceToNat, Int.reduceLT, Int.reduceLE, Int.reduceEq, Int.reduceAdd, Int.reduceSub, Int.reduceNeg, hm0, Off_dn (Off_of hFj hm0), Off_ne (Off_of hFj hm0), Off_ne' (Off_of hFj hm0)]
      · simp (maxDischargeDepth := 80) only [push_cast, Nat.reduceBEq, reduceIte, reduceCtorEq, Nat.reduceEqDiff, Nat.reduceAdd, Nat.reduceMul, Nat.reduceSub, Nat.reduceLeDiff, Nat.reduceLT, Nat.reducePow, Int.reduceToNat, Int.reduceLT, Int.reduceLE, Int.reduceEq, Int.reduceAdd, Int.reduceSub, Int.reduceNeg, hm0, Off_dn (Off_of hFj hm0), Off_ne (Off_of hFj hm0), Off_ne' (Off_of hFj hm0)]
      · simp (maxDischargeDepth := 80) only [push_cast, Nat.reduceBEq, reduceIte, reduceCtorEq, Nat.reduceEqDiff, Nat.reduceAdd, Nat.reduceMul, Nat.reduceSub, Nat.reduceLeDiff, Nat.reduceLT, Nat.reducePow, Int.reduceToNat, Int.reduceLT, Int.reduceLE, Int.reduceEq, Int.reduceAdd, Int.reduceSub, Int.reduceNeg, hS, fresh_dn hM, fresh_at hM]
      · intro k hk
        simp (maxDischargeDepth := 80) only [push_cast, Nat.reduceBEq, reduceIte, reduceCtorEq, Nat.reduceEqDiff, Nat.reduceAdd, Nat.reduceMul, Nat.reduceSub, Nat.reduceLeDiff, Nat.reduceLT, Nat.reducePow, Int.reduceToNat, Int.reduceLT, Int.reduceLE, Int.reduceEq, Int.reduceAdd, Int.reduceSub, Int.reduceNeg, fresh_dn (hF k (by omega)), Off_deep (show k ≠ j by omega), eq_false (show ¬ k = j by omega), Off_of (hF k (by omega)) hm5]
    · simp (maxDischargeDepth := 80) only [push_cast, Nat.reduceBEq, reduceIte, reduceCtorEq, Nat.reduceEqDiff, Nat.reduceAdd, Nat.reduceMul, Nat.reduceSub, Nat.reduceLeDiff, Nat.reduceLT, Nat.reducePow, Int.reduceToNat, Int.reduceLT, Int.reduceLE, Int.reduceEq, Int.reduceAdd, Int.reduceSub, Int.reduceNeg, h0, h4, h5, h30, h31, h32, hp1, hp3, hjj, h'', Off_dn (Off_of hFj h''), Off_ne (Off_of hFj h''), Off_ne' (Off_of hFj h''), hm5, Off_dn (Off_of hFj hm5), Off_ne (Off_of hFj hm5), Off_ne' (Off_of hFj hm5), c1, one_data, data_cells, intsV_one, intsV_cells, fresh_dn hFj, fresh_at hFj, fresh_dn hM, fresh_at hM]
      refine ih _ _ ⟨gr, hPg, ?_, ?_, ?_, ?_, ?_, ?_, ?_, ?_, ?_, ?_, ?_⟩
      · simp (maxDischargeDepth := 80) only [push_cast, Nat.reduceBEq, reduceIte, reduceCtorEq, Nat.reduceEqDiff, Nat.reduceAdd, Nat.reduceMul, Nat.reduceSub, Nat.reduceLeDiff, Nat.reduceLT, Nat.reducePow, Int.reduceToNat, Int.reduceLT, Int.reduceLE, Int.reduceEq, Int.reduceAdd, Int.reduceSub, Int.reduceNeg, h0]
      · simp (maxDischargeDepth := 80) only [push_cast, Nat.reduceBEq, reduceIte, reduceCtorEq, Nat.reduceEqDiff, Nat.reduceAdd, Nat.reduceMul, Nat.reduceSub, Nat.reduceLeDiff, Nat.reduceLT, Nat.reducePow, Int.reduceToNat, Int.reduceLT, Int.reduceLE, Int.reduceEq, Int.reduceAdd, Int.reduceSub, Int.reduceNeg, h4]
      · simp (maxDischargeDepth := 80) only [push_cast, Nat.reduceBEq, reduceIte, reduceCtorEq, Nat.reduceEqDiff, Nat.reduceAdd, Nat.reduceMul, Nat.reduceSub, Nat.reduceLeDiff, Nat.reduceLT, Nat.reducePow, Int.reduceToNat, Int.reduceLT, Int.reduceLE, Int.reduceEq, Int.reduceAdd, Int.reduceSub, Int.reduceNeg, h5]
      · simp (maxDischargeDepth := 80) only [push_cast, Nat.reduceBEq, reduceIte, reduceCtorEq, Nat.reduceEqDiff, Nat.reduceAdd, Nat.reduceMul, Nat.reduceSub, Nat.reduceLeDiff, Nat.reduceLT, Nat.reducePow, Int.reduceToNat, Int.reduceLT, Int.reduceLE, Int.reduceEq, Int.reduceAdd, Int.reduceSub, Int.reduceNeg, h30]
      · simp (maxDischargeDepth := 80) only [push_cast, Nat.reduceBEq, reduceIte, reduceCtorEq, Nat.reduceEqDiff, Nat.reduceAdd, Nat.reduceMul, Nat.reduceSub, Nat.reduceLeDiff, Nat.reduceLT, Nat.reducePow, Int.reduceToNat, Int.reduceLT, Int.reduceLE, Int.reduceEq, Int.reduceAdd, Int.reduceSub, Int.reduceNeg, h31]
      · simp (maxDischargeDepth := 80) only [push_cast, Nat.reduceBEq, reduceIte, reduceCtorEq, Nat.reduceEqDiff, Nat.reduceAdd, Nat.reduceMul, Nat.reduceSub, Nat.reduceLeDiff, Nat.reduceLT, Nat.reducePow, Int.reduceToNat, Int.reduceLT, Int.reduceLE, Int.reduceEq, Int.reduceAdd, Int.reduceSub, Int.reduceNeg, h32]
        exact congrArg (V.int IntKind.i64) (wrap_nat j (by omega))
      · rw [hr, hx, groupL, if_neg c1]
      · simp (maxDischargeDepth := 80) only [push_cast, Nat.reduceBEq, reduceIte, reduceCtorEq, Nat.reduceEqDiff, Nat.reduceAdd, Nat.reduceMul, Nat.reduceSub, Nat.reduceLeDiff, Nat.reduceLT, Nat.reducePow, Int.reduceToNat, Int.reduceLT, Int.reduceLE, Int.reduceEq, Int.reduceAdd, Int.reduceSub, Int.reduceNeg, hm0, Off_dn (Off_of hFj hm0), Off_ne (Off_of hFj hm0), Off_ne' (Off_of hFj hm0)]
      · simp (maxDischargeDepth := 80) only [push_cast, Nat.reduceBEq, reduceIte, reduceCtorEq, Nat.reduceEqDiff, Nat.reduceAdd, Nat.reduceMul, Nat.reduceSub, Nat.reduceLeDiff, Nat.reduceLT, Nat.reducePow, Int.reduceToNat, Int.reduceLT, Int.reduceLE, Int.reduceEq, Int.reduceAdd, Int.reduceSub, Int.reduceNeg, hm5, Off_dn (Off_of hFj hm5), Off_ne (Off_of hFj hm5), Off_ne' (Off_of hFj hm5)]
      · simp (maxDischargeDepth := 80) only [push_cast, Nat.reduceBEq, reduceIte, reduceCtorEq, Nat.reduceEqDiff, Nat.reduceAdd, Nat.reduceMul, Nat.reduceSub, Nat.reduceLeDiff, Nat.reduceLT, Nat.reducePow, Int.reduceToNat, Int.reduceLT, Int.reduceLE, Int.reduceEq, Int.reduceAdd, Int.reduceSub, Int.reduceNeg, hS, fresh_dn hM, fresh_at hM]
      · intro k hk
        simp (maxDischargeDepth := 80) only [push_cast, Nat.reduceBEq, reduceIte, reduceCtorEq, Nat.reduceEqDiff, Nat.reduceAdd, Nat.reduceMul, Nat.reduceSub, Nat.reduceLeDiff, Nat.reduceLT, Nat.reducePow, Int.reduceToNat, Int.reduceLT, Int.reduceLE, Int.reduceEq, Int.reduceAdd, Int.reduceSub, Int.reduceNeg, fresh_dn (hF k (by omega)), Off_deep (show k ≠ j by omega), eq_false (show ¬ k = j by omega)]
  · rintro f M' ⟨gr, hPg, h0, h4, h5, h30, h31, h32, hr, hm0, hm5, hS, hF⟩
    have hjj : ((l.length : Int) < (l.length : Int)) = False := by simp
    simp (maxDischargeDepth := 80) only [push_cast, Nat.reduceBEq, reduceIte, reduceCtorEq, Nat.reduceEqDiff, Nat.reduceAdd, Nat.reduceMul, Nat.reduceSub, Nat.reduceLeDiff, Nat.reduceLT, Nat.reducePow, Int.reduceToNat, Int.reduceLT, Int.reduceLE, Int.reduceEq, Int.reduceAdd, Int.reduceSub, Int.reduceNeg, h0, h4, h5, h30, h31, h32, hjj, hm0, hm5, hS, intsV_one, intsV_cells, fresh_dn hM, fresh_at hM]
    rw [hr]
    simp [groupL]
end Go.Ab.R
