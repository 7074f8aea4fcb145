/- A leader that is alone: an entry put in. Conditions: none. -/
import Derived.Test.YtpohfmcpfkbabaaGreatNl
set_option linter.unusedSimpArgs false
set_option linter.unusedVariables false
namespace Go.Ab.R
open Go Go.Proofs
set_option maxRecDepth 100000

theorem groupL_const (si : Int) (g : Grp) (l : List Ent) : groupL (fun g _ => g) si g l = g := by
  induction l generalizing g with
  | nil => rfl
  | cons x l ih => rw [groupL]; split <;> exact ih _

theorem fresh1_E {M : Mem} {p ia : Id} {v : V} {g : Lg} {d : Nd} {e : Elc} {im : Id} (i : Int) (s : Id) (hM : FreshM s M) (h : NodeAt M p d e ia v g) (hk : ∀ x ∈ g.ents, x.kind ≠ 2) (hok : NdOk d) (hid : d.id = 1) (hsn : d.sn = snp1) (hr : e.role = 3)
    (hpe : d.peers = .mapr im) (hpm : M im = some (.map [])) :
    ∃ x : Mem × Id, Fn env false 159 [.ptr p 0, .int .i64 i] s M = some (.tup [], x.1) ∧
      x.1 p = some (.cells (Nd.cs { d with gvs := some [1], gls := none, peers := .mapr x.2, from_ := if d.from_ = 0 ∨ i < d.from_ then i else d.from_ })) ∧ x.1 d.ie = some (.cells (Elc.cs { e with vv := intsV (some [1]), lv := .nils })) ∧ x.1 x.2 = some (.map []) ∧ Un s x.2 ∧ FrM s [p, d.ie] M x.1 := by
  have hobj := h.obj
  have hel := h.el
  have hlo := h.lg.obj
  have hla := h.lg.arr
  have e1 := eq_false h.ne1
  have e2 := eq_false (Ne.symm h.ne1)
  have e3 := eq_false h.ne2
  have e4 := eq_false (Ne.symm h.ne2)
  have e5 := eq_false h.ne5
  have e6 := eq_false (Ne.symm h.ne5)
  have e7 : (im = p) = False := eq_false (fun e => by rw [e, hobj] at hpm; cases hpm)
  have rg : ∀ fr : Int, ∀ s' M', (FreshM s' M' ∧ M' p = some (.cells (Nd.cs { d with from_ := fr })) ∧ M' d.ie = M d.ie ∧ M' d.il = M d.il ∧ M' ia = M ia ∧ M' im = M im) →
      ∃ x : Mem × Id, Fn env false 36 [.ptr p 0] s' M' = some (.tup [], x.1) ∧ x.1 p = some (.cells (Nd.cs { d with from_ := fr, gvs := some [1], gls := none, peers := .mapr x.2 })) ∧ x.1 d.ie = some (.cells (Elc.cs { e with vv := intsV (some [1]), lv := .nils })) ∧ x.1 x.2 = some (.map []) ∧ Un s' x.2 ∧ FrM s' [p, d.ie] M' x.1 := by
    rintro fr s' M' ⟨q1, q2, q3, q4, q5, q6⟩
    have := regroupL_E (d := { d with from_ := fr }) (fun g _ => g) (fun _ => True) s' q1 ⟨q2, q3.trans hel, h.lg.frame q4 q5⟩ ⟨hok.p1, hok.p2, hok.r1, hok.r2, hok.m1, hok.m2, hok.e1, hok.e2⟩ (chg0 _ hk) trivial hr (by rw [groupL_const]; show (d.sn.vs, d.sn.ls) = (some [d.id], none); rw [hsn, hid]; rfl) (by show rightL [d.id] [] = true; rw [hid]; exact right1)
      (.inr ⟨im, hpe, q6.trans hpm⟩)
    simp only [hid] at this
    simpa only [hid] using this
  obtain ⟨ie, id, window, il, sn, gvs, gls, peers, reads, round, tt, tv, snew, from_, msgs, rds⟩ := d
  simp only at hid hsn hpe hel hlo e1 e2 e3 e4
  subst hid hsn hpe
  have hu : Un s (1 :: 1 :: 0 :: s) := by simp (maxDischargeDepth := 80) only [push_cast, Nat.reduceBEq, reduceIte, reduceCtorEq, Nat.reduceEqDiff, Nat.reduceAdd, Nat.reduceMul, Nat.reduceSub, Nat.reduceLeDiff, Nat.reduceLT, Nat.reducePow, Int.reduceToNat, Int.reduceLT, Int.reduceLE, Int.reduceEq, Int.reduceAdd, Int.reduceSub, Int.reduceNeg]
  by_cases c0 : from_ = 0 ∨ i < from_
  · simp only [if_pos c0]
    obtain ⟨x, g1, g2, g3, g4, g5, g6⟩ := rg i (1 :: 1 :: 0 :: s) (M.set p (.cells (Nd.cs ⟨ie, 1, window, il, snp1, gvs, gls, .mapr im, reads, round, tt, tv, snew, i, msgs, rds⟩))) (by
        refine ⟨?_, ?_, ?_, ?_, ?_, ?_⟩ <;> simp (maxDischargeDepth := 80) only [push_cast, Nat.reduceBEq, reduceIte, reduceCtorEq, Nat.reduceEqDiff, Nat.reduceAdd, Nat.reduceMul, Nat.reduceSub, Nat.reduceLeDiff, Nat.reduceLT, Nat.reducePow, Int.reduceToNat, Int.reduceLT, Int.reduceLE, Int.reduceEq, Int.reduceAdd, Int.reduceSub, Int.reduceNeg, hobj, Off_dn (Off_of hM hobj), Off_ne (Off_of hM hobj), Off_ne' (Off_of hM hobj), e1, e2, e3, e4, e5, e6, e7, fresh_dn hM, fresh_at hM])
    simp only [Nd.cs_eq] at hobj g1 g2
    simp only [Nd.cs_eq]
    refine ⟨x, ?_, g2, g3, g4, List.IsSuffix.trans hu g5, ?_⟩
    · rw [Fn_body Tryz.func159 (by decide) rfl rfl]
      by_cases q : from_ = 0
      · simp (maxDischargeDepth := 80) only [push_cast, Nat.reduceBEq, reduceIte, reduceCtorEq, Nat.reduceEqDiff, Nat.reduceAdd, Nat.reduceMul, Nat.reduceSub, Nat.reduceLeDiff, Nat.reduceLT, Nat.reducePow, Int.reduceToNat, Int.reduceLT, Int.reduceLE, Int.reduceEq, Int.reduceAdd, Int.reduceSub, Int.reduceNeg, hobj, Off_dn (Off_of hM hobj), Off_ne (Off_of hM hobj), Off_ne' (Off_of hM hobj), hel, Off_dn (Off_of hM hel), Off_ne (Off_of hM hel), Off_ne' (Off_of hM hel), hlo, Off_dn (Off_of hM hlo), Off_ne (Off_of hM hlo), Off_ne' (Off_of hM hlo), hla, Off_dn (Off_of hM hla), Off_ne (Off_of hM hla), Off_ne' (Off_of hM hla), hpm, Off_dn (Off_of hM hpm), Off_ne (Off_of hM hpm), Off_ne' (Off_of hM hpm), g1, q, e1, e2, e3, e4, e5, e6, e7, fresh_dn hM, fresh_at hM]
      · have q' := c0.resolve_left q
        simp (maxDischargeDepth := 80) only [push_cast, Nat.reduceBEq, reduceIte, reduceCtorEq, Nat.reduceEqDiff, Nat.reduceAdd, Nat.reduceMul, Nat.reduceSub, Nat.reduceLeDiff, Nat.reduceLT, Nat.reducePow, Int.reduceToNat, Int.reduceLT, Int.reduceLE, Int.reduceEq, Int.reduceAdd, Int.reduceSub, Int.reduceNeg, hobj, Off_dn (Off_of hM hobj), Off_ne (Off_of hM hobj), Off_ne' (Off_of hM hobj), hel, Off_dn (Off_of hM hel), Off_ne (Off_of hM hel), Off_ne' (Off_of hM hel), hlo, Off_dn (Off_of hM hlo), Off_ne (Off_of hM hlo), Off_ne' (Off_of hM hlo), hla, Off_dn (Off_of hM hla), Off_ne (Off_of hM hla), Off_ne' (Off_of hM hla), hpm, Off_dn (Off_of hM hpm), Off_ne (Off_of hM hpm), Off_ne' (Off_of hM hpm), g1, q, q', e1, e2, e3, e4, e5, e6, e7, fresh_dn hM, fresh_at hM]
    · intro j hj hx
      rw [g6 j (Off_dn hj hu) hx]
      have hjp : ¬ j = p := fun e => hx (by simp [e])
      simp (maxDischargeDepth := 80) only [push_cast, Nat.reduceBEq, reduceIte, reduceCtorEq, Nat.reduceEqDiff, Nat.reduceAdd, Nat.reduceMul, Nat.reduceSub, Nat.reduceLeDiff, Nat.reduceLT, Nat.reducePow, Int.reduceToNat, Int.reduceLT, Int.reduceLE, Int.reduceEq, Int.reduceAdd, Int.reduceSub, Int.reduceNeg, hjp]
  · simp only [if_neg c0]
    have q1 : (from_ = 0) = False := eq_false (fun q => c0 (.inl q))
    have q2 : (i < from_) = False := eq_false (fun q => c0 (.inr q))
    obtain ⟨x, g1, g2, g3, g4, g5, g6⟩ := rg from_ (1 :: 1 :: 0 :: s) M ⟨fresh_dn hM hu, hobj, rfl, rfl, rfl, rfl⟩
    simp only [Nd.cs_eq] at hobj g1 g2
    simp only [Nd.cs_eq]
    refine ⟨x, ?_, g2, g3, g4, List.IsSuffix.trans hu g5, ?_⟩
    · rw [Fn_body Tryz.func159 (by decide) rfl rfl]
      simp (maxDischargeDepth := 80) only [push_cast, Nat.reduceBEq, reduceIte, reduceCtorEq, Nat.reduceEqDiff, Nat.reduceAdd, Nat.reduceMul, Nat.reduceSub, Nat.reduceLeDiff, Nat.reduceLT, Nat.reducePow, Int.reduceToNat, Int.reduceLT, Int.reduceLE, Int.reduceEq, Int.reduceAdd, Int.reduceSub, Int.reduceNeg, hobj, Off_dn (Off_of hM hobj), Off_ne (Off_of hM hobj), Off_ne' (Off_of hM hobj), hel, Off_dn (Off_of hM hel), Off_ne (Off_of hM hel), Off_ne' (Off_of hM hel), hlo, Off_dn (Off_of hM hlo), Off_ne (Off_of hM hlo), Off_ne' (Off_of hM hlo), hla, Off_dn (Off_of hM hla), Off_ne (Off_of hM hla), Off_ne' (Off_of hM hla), hpm, Off_dn (Off_of hM hpm), Off_ne (Off_of hM hpm), Off_ne' (Off_of hM hpm), g1, q1, q2, e1, e2, e3, e4, e5, e6, e7, fresh_dn hM, fresh_at hM]
    · intro j hj hx
      exact g6 j (Off_dn hj hu) hx

/-- an entry put in by a leader that is alone -/
theorem enter1_E {M : Mem} {p ia : Id} {v : V} {g : Lg} {d : Nd} {e : Elc} {im : Id} (kind : Int) (data : Option (List UInt8)) (s : Id) (hM : FreshM s M) (h : Lone M p d e ia v g im) (hk : kind ≠ 2)
    (ha : g.addE [⟨g.last + 1, e.term, kind, data⟩] = 0) (hn : g.ents.length + 1 ≤ 2 ^ 35) :
    ∃ x : Mem × Id × V × Id, Fn env false 92 [.ptr p 0, .int .i64 kind, dataV data] s M = some (.tup [.int .i64 (g.last + 1), .int .i64 0], x.1) ∧
      Lone x.1 p { d with peers := .mapr x.2.2.2, from_ := if d.from_ = 0 ∨ g.last + 1 < d.from_ then g.last + 1 else d.from_ } e x.2.1 x.2.2.1 (g.addL [⟨g.last + 1, e.term, kind, data⟩]) x.2.2.2 ∧
      FrM s [p, d.ie, d.il, ia] M x.1 ∧ (x.2.1 = ia ∨ Un s x.2.1) ∧ Un s x.2.2.2 := by
  have hobj := h.at_.obj
  have hel := h.at_.el
  have hlg := h.at_.lg
  have hlo := hlg.obj
  have hla := hlg.arr
  have hpm := h.pm
  have hb := hlg.ok.lo
  have hhi := hlg.ok.hi
  have hl : g.last = g.base + g.ents.length - 1 := rfl
  have w1 : IntKind.wrap .i64 (g.last + 1) = g.last + 1 := wrap_id (by omega) (by omega)
  have e1 := eq_false h.at_.ne1
  have e2 := eq_false (Ne.symm h.at_.ne1)
  have e3 := eq_false h.at_.ne2
  have e4 := eq_false (Ne.symm h.at_.ne2)
  have e5 := eq_false h.at_.ne5
  have e6 := eq_false (Ne.symm h.at_.ne5)
  have e7 := eq_false h.at_.ne3
  have e8 := eq_false (Ne.symm h.at_.ne3)
  have e9 := eq_false h.at_.ne4
  have e10 := eq_false (Ne.symm h.at_.ne4)
  have r1 := fun s' M' (q1 : FreshM s' M') (q2 : Sub M M') => last_E s' M' q1 (hlg.mono q2)
  have r4 := fun s' M' (q1 : FreshM s' M') (q2 : Sub M M') => hard_E s' q1 (q2 _ _ hel)
  simp only [Nd.cs_eq] at hobj
  generalize hx0 : (⟨g.last + 1, e.term, kind, data⟩ : Ent) = x0 at ha
  have hxc : x0.cells = [.int .i64 (g.last + 1), .int .i64 e.term, .int .i64 kind, dataV data] := by rw [← hx0]; rfl
  have hu1 : Un s (14 :: 0 :: 1 :: 1 :: 0 :: s) := by simp (maxDischargeDepth := 80) only [push_cast, Nat.reduceBEq, reduceIte, reduceCtorEq, Nat.reduceEqDiff, Nat.reduceAdd, Nat.reduceMul, Nat.reduceSub, Nat.reduceLeDiff, Nat.reduceLT, Nat.reducePow, Int.reduceToNat, Int.reduceLT, Int.reduceLE, Int.reduceEq, Int.reduceAdd, Int.reduceSub, Int.reduceNeg]
  have hu2 : Un s (15 :: 0 :: 1 :: 1 :: 0 :: s) := by simp (maxDischargeDepth := 80) only [push_cast, Nat.reduceBEq, reduceIte, reduceCtorEq, Nat.reduceEqDiff, Nat.reduceAdd, Nat.reduceMul, Nat.reduceSub, Nat.reduceLeDiff, Nat.reduceLT, Nat.reducePow, Int.reduceToNat, Int.reduceLT, Int.reduceLE, Int.reduceEq, Int.reduceAdd, Int.reduceSub, Int.reduceNeg]
  have hsub1 : Sub M (M.set (14 :: 0 :: 1 :: 1 :: 0 :: s) (.cells x0.cells)) := by simp (maxDischargeDepth := 80) only [push_cast, Nat.reduceBEq, reduceIte, reduceCtorEq, Nat.reduceEqDiff, Nat.reduceAdd, Nat.reduceMul, Nat.reduceSub, Nat.reduceLeDiff, Nat.reduceLT, Nat.reducePow, Int.reduceToNat, Int.reduceLT, Int.reduceLE, Int.reduceEq, Int.reduceAdd, Int.reduceSub, Int.reduceNeg, fresh_dn hM, fresh_at hM]
  have hF1 : FreshM (15 :: 0 :: 1 :: 1 :: 0 :: s) (M.set (14 :: 0 :: 1 :: 1 :: 0 :: s) (.cells x0.cells)) := by simp (maxDischargeDepth := 80) only [push_cast, Nat.reduceBEq, reduceIte, reduceCtorEq, Nat.reduceEqDiff, Nat.reduceAdd, Nat.reduceMul, Nat.reduceSub, Nat.reduceLeDiff, Nat.reduceLT, Nat.reducePow, Int.reduceToNat, Int.reduceLT, Int.reduceLE, Int.reduceEq, Int.reduceAdd, Int.reduceSub, Int.reduceNeg, fresh_dn hM, fresh_at hM]
  have hrd : EntsV (M.set (14 :: 0 :: 1 :: 1 :: 0 :: s) (.cells x0.cells)) (.sl (14 :: 0 :: 1 :: 1 :: 0 :: s) 0 1 4 (some 1)) [x0] :=
    .sl _ 0 (some 1) x0.cells [x0] (by simp (maxDischargeDepth := 80) only [push_cast, Nat.reduceBEq, reduceIte, reduceCtorEq, Nat.reduceEqDiff, Nat.reduceAdd, Nat.reduceMul, Nat.reduceSub, Nat.reduceLeDiff, Nat.reduceLT, Nat.reducePow, Int.reduceToNat, Int.reduceLT, Int.reduceLE, Int.reduceEq, Int.reduceAdd, Int.reduceSub, Int.reduceNeg]) (by simp [cells_len]) (by simp only [List.length_singleton, Nat.one_mul, List.drop_zero, flatE_cons, flatE_nil, List.append_nil]; exact List.take_of_length_le (by rw [cells_len]; omega)) (fun c hc => by cases hc; simp)
  obtain ⟨M2, h34, hpost⟩ := add_E (15 :: 0 :: 1 :: 1 :: 0 :: s) hF1 (hlg.mono hsub1) hrd.rd hn
  rw [if_pos ha] at hpost
  obtain ⟨ia2, v2, hlg2, hfr2, hia2⟩ := hpost
  rw [ha] at h34
  have hget2 : ∀ i, Off s i → i ∉ [d.il, ia] → M2 i = M i := fun i hi hx => by
    rw [hfr2 i (Off_dn hi hu2) hx]
    simp (maxDischargeDepth := 80) only [push_cast, Nat.reduceBEq, reduceIte, reduceCtorEq, Nat.reduceEqDiff, Nat.reduceAdd, Nat.reduceMul, Nat.reduceSub, Nat.reduceLeDiff, Nat.reduceLT, Nat.reducePow, Int.reduceToNat, Int.reduceLT, Int.reduceLE, Int.reduceEq, Int.reduceAdd, Int.reduceSub, Int.reduceNeg, Off_ne hi]
  have hF2 : ∀ t, Un s t → Off (15 :: 0 :: 1 :: 1 :: 0 :: s) t → Off t (15 :: 0 :: 1 :: 1 :: 0 :: s) → Off t (14 :: 0 :: 1 :: 1 :: 0 :: s) → FreshM t M2 := fun t ht h1 h2 h3 => by
    refine hfr2.fr ?_ h1 h2 ?_
    · simp (maxDischargeDepth := 80) only [push_cast, Nat.reduceBEq, reduceIte, reduceCtorEq, Nat.reduceEqDiff, Nat.reduceAdd, Nat.reduceMul, Nat.reduceSub, Nat.reduceLeDiff, Nat.reduceLT, Nat.reducePow, Int.reduceToNat, Int.reduceLT, Int.reduceLE, Int.reduceEq, Int.reduceAdd, Int.reduceSub, Int.reduceNeg, fresh_dn hM, fresh_at hM, h3, ht]
    · intro x hx
      simp only [List.mem_cons, List.not_mem_nil, or_false] at hx
      rcases hx with rfl | rfl
      · exact Off_dn (Off_of hM hlo) ht
      · exact Off_dn (Off_of hM hla) ht
  have hp2 : M2 p = _ := (hget2 p (Off_of hM hobj) (by simp [h.at_.ne2, h.at_.ne5])).trans hobj
  have hie2 : M2 d.ie = _ := (hget2 d.ie (Off_of hM hel) (by simp [h.at_.ne3, h.at_.ne4])).trans hel
  have him2 : M2 im = _ := (hget2 im (Off_of hM hpm) (by
    simp only [List.mem_cons, List.not_mem_nil, or_false, not_or]
    exact ⟨fun q => (by rw [q, hlo] at hpm; cases hpm), fun q => (by rw [q, hla] at hpm; cases hpm)⟩)).trans hpm
  have hu3 : Un s (2 :: 0 :: 1 :: 1 :: 1 :: 1 :: 0 :: s) := by simp (maxDischargeDepth := 80) only [push_cast, Nat.reduceBEq, reduceIte, reduceCtorEq, Nat.reduceEqDiff, Nat.reduceAdd, Nat.reduceMul, Nat.reduceSub, Nat.reduceLeDiff, Nat.reduceLT, Nat.reducePow, Int.reduceToNat, Int.reduceLT, Int.reduceLE, Int.reduceEq, Int.reduceAdd, Int.reduceSub, Int.reduceNeg]
  have hF3 : FreshM (2 :: 0 :: 1 :: 1 :: 1 :: 1 :: 0 :: s) M2 := by
    refine hF2 _ hu3 ?_ ?_ ?_ <;> simp (maxDischargeDepth := 80) only [push_cast, Nat.reduceBEq, reduceIte, reduceCtorEq, Nat.reduceEqDiff, Nat.reduceAdd, Nat.reduceMul, Nat.reduceSub, Nat.reduceLeDiff, Nat.reduceLT, Nat.reducePow, Int.reduceToNat, Int.reduceLT, Int.reduceLE, Int.reduceEq, Int.reduceAdd, Int.reduceSub, Int.reduceNeg]
  have hk2 : ∀ x ∈ (g.addL [x0]).ents, x.kind ≠ 2 := by
    intro x hx
    simp only [Lg.addL, List.mem_append, List.mem_singleton] at hx
    rcases hx with hx | rfl
    · exact h.kinds x hx
    · rw [← hx0]; exact hk
  have hobj' := h.at_.obj
  have hN2 : NodeAt M2 p d e ia2 v2 (g.addL [x0]) := ⟨hp2.trans (by rw [Nd.cs_eq]), hie2, hlg2⟩
  obtain ⟨y, g1, g2, g3, g4, g5, g6⟩ := fresh1_E (g.last + 1) _ hF3 hN2 hk2 h.ok h.did h.dsn h.role h.peers him2
  refine ⟨(y.1, ia2, v2, y.2), ?_, ⟨⟨?_, ?_, ?_⟩, hk2, h.did, ?_, ?_, h.dsn, h.dre, h.dms, h.dro, h.dsw, h.eid, h.evv, h.elv, h.role, rfl, g4, ⟨rfl, rfl, h.ok.r1, h.ok.r2, h.ok.m1, h.ok.m2, h.ok.e1, h.ok.e2⟩⟩, ?_, ?_, List.IsSuffix.trans hu3 g5⟩
  · simp only [hxc] at h34
    rw [Fn_body Tryz.func92 (by decide) rfl rfl]
    simp (maxDischargeDepth := 80) only [push_cast, Nat.reduceBEq, reduceIte, reduceCtorEq, Nat.reduceEqDiff, Nat.reduceAdd, Nat.reduceMul, Nat.reduceSub, Nat.reduceLeDiff, Nat.reduceLT, Nat.reducePow, Int.reduceToNat, Int.reduceLT, Int.reduceLE, Int.reduceEq, Int.reduceAdd, Int.reduceSub, Int.reduceNeg, hobj, Off_dn (Off_of hM hobj), Off_ne (Off_of hM hobj), Off_ne' (Off_of hM hobj), hel, Off_dn (Off_of hM hel), Off_ne (Off_of hM hel), Off_ne' (Off_of hM hel), hlo, Off_dn (Off_of hM hlo), Off_ne (Off_of hM hlo), Off_ne' (Off_of hM hlo), hla, Off_dn (Off_of hM hla), Off_ne (Off_of hM hla), Off_ne' (Off_of hM hla), hpm, Off_dn (Off_of hM hpm), Off_ne (Off_of hM hpm), Off_ne' (Off_of hM hpm), r1, r4, h34, hp2, g1, w1, Nat.min_def, one_data, data_cells, e1, e2, e3, e4, e5, e6, e7, e8, e9, e10, fresh_dn hM, fresh_at hM]
  · rw [g2]; simp only [Nd.cs_eq, h.dgv, h.dgl]
  · rw [g3]; simp only [Elc.cs_eq, h.evv, h.elv]
  · exact hlg2.frame (g6 _ (Off_of hF3 hlg2.obj) (by simp [Ne.symm hN2.ne2, Ne.symm hN2.ne3])) (g6 _ (Off_of hF3 hlg2.arr) (by simp [Ne.symm hN2.ne5, Ne.symm hN2.ne4]))
  · exact h.dgv
  · exact h.dgl
  · intro i hi hx
    simp only [List.mem_cons, List.not_mem_nil, or_false, not_or] at hx
    rw [g6 i (Off_dn hi hu3) (by simp [hx.1, hx.2.1]), hget2 i hi (by simp [hx.2.2.1, hx.2.2.2])]
  · rcases hia2 with q | q
    · exact .inl q
    · exact .inr (List.IsSuffix.trans hu2 q)
end Go.Ab.R
