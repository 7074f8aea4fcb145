/- Elections: what stands in the memory, and who is alone. Conditions: none. -/
import Derived.Test.YtpohfmcpfkbabaaGreatAe
set_option linter.unusedSimpArgs false
set_option linter.unusedVariables false
namespace Go.Ab.R
open Go Go.Proofs
set_option maxRecDepth 100000

theorem skolem {α : Type} [h0 : Nonempty α] {P : Id → Mem → Prop} {Q : Id → Mem → α → Prop} (h : ∀ s M, P s M → ∃ a, Q s M a) : ∃ F : Id → Mem → α, ∀ s M, P s M → Q s M (F s M) := by
  classical
  refine ⟨fun s M => if q : P s M then (h s M q).choose else Classical.choice h0, fun s M q => ?_⟩
  simp only [dif_pos q]
  exact (h s M q).choose_spec
theorem FrM.fr {s t X M M'} (h : FrM s X M M') (hf : FreshM t M) (h1 : Off s t) (h2 : Off t s) (hx : ∀ x ∈ X, Off t x) : FreshM t M' := by
  intro i hi
  have ho : Off s i := fun hs => by
    rcases List.suffix_or_suffix_of_suffix hs hi with q | q
    · exact h1 q
    · exact h2 q
  rw [h i ho (fun hm => hx i hm hi)]
  exact hf i hi
theorem wr1 : IntKind.wrap .i64 1 = 1 := by decide
theorem wr2 : IntKind.wrap .i64 2 = 2 := by decide
theorem wr0 : IntKind.wrap .i64 0 = 0 := by decide
attribute [push_cast] wr1 wr2 wr0 List.forall_mem_cons

structure Elc where
  id : Int
  pat : Int
  term : Int
  vote : Int
  vv : V
  lv : V
  role : Int
  leader : Int
  waited : Int
  limit : Int
  said : V

def Elc.cs (e : Elc) : List V := [.int .i64 e.id, .int .i64 e.pat, .int .i64 e.term, .int .i64 e.vote, e.vv, e.lv, .int .i64 e.role, .int .i64 e.leader, .int .i64 e.waited, .int .i64 e.limit, e.said]
theorem Elc.cs_eq (e : Elc) : e.cs = [.int .i64 e.id, .int .i64 e.pat, .int .i64 e.term, .int .i64 e.vote, e.vv, e.lv, .int .i64 e.role, .int .i64 e.leader, .int .i64 e.waited, .int .i64 e.limit, e.said] := rfl

/-- an election's node; vl, ll: voters and learners -/
structure ElAt (M : Mem) (ie : Id) (e : Elc) (vl ll : List Int) : Prop where
  obj : M ie = some (.cells e.cs)
  v : ∀ M', RdI M' e.vv vl
  l : ∀ M', RdI M' e.lv ll
  s1 : e.said.one = true
  s2 : e.said.cells = [e.said]

theorem role_E {M : Mem} {ie : Id} {e : Elc} (s : Id) (hM : FreshM s M) (h : M ie = some (.cells e.cs)) : Fn env false 16 [.ptr ie 0] s M = some (.int .i64 e.role, M) := by
  rw [Elc.cs_eq] at h
  rw [Fn_body Tryz.func16 (by decide) rfl rfl]
  simp (maxDischargeDepth := 80) only [push_cast, Nat.reduceBEq, reduceIte, reduceCtorEq, Nat.reduceEqDiff, Nat.reduceAdd, Nat.reduceMul, Nat.reduceSub, Nat.reduceLeDiff, Nat.reduceLT, Nat.reducePow, Int.reduceToNat, Int.reduceLT, Int.reduceLE, Int.reduceEq, Int.reduceAdd, Int.reduceSub, Int.reduceNeg, h, fresh_dn hM, fresh_at hM]
theorem hard_E {M : Mem} {ie : Id} {e : Elc} (s : Id) (hM : FreshM s M) (h : M ie = some (.cells e.cs)) : Fn env false 23 [.ptr ie 0] s M = some (.agg [.int .i64 e.term, .int .i64 e.vote], M) := by
  rw [Elc.cs_eq] at h
  rw [Fn_body Tryz.func23 (by decide) rfl rfl]
  simp (maxDischargeDepth := 80) only [push_cast, Nat.reduceBEq, reduceIte, reduceCtorEq, Nat.reduceEqDiff, Nat.reduceAdd, Nat.reduceMul, Nat.reduceSub, Nat.reduceLeDiff, Nat.reduceLT, Nat.reducePow, Int.reduceToNat, Int.reduceLT, Int.reduceLE, Int.reduceEq, Int.reduceAdd, Int.reduceSub, Int.reduceNeg, h, Off_dn (Off_of hM h), Off_ne (Off_of hM h), Off_ne' (Off_of hM h), fresh_dn hM, fresh_at hM]

def electOk (id term vote pat : Int) (vl ll : List Int) : Bool := withinR id 1 15 && withinR term 0 1099511627776 && withinR vote 0 15 && withinR pat 1 1000 && rightL vl ll

theorem electNew_E (id term vote pat : Int) (vv lv : V) (vl ll : List Int) (s : Id) (M : Mem) (hM : FreshM s M) (hv : RdI M vv vl) (hl : RdI M lv ll) :
    Fn env false 32 [.int .i64 id, .agg [.int .i64 term, .int .i64 vote], .agg [vv, lv], .int .i64 pat] s M =
      if electOk id term vote pat vl ll then some (.tup [.ptr (7 :: 0 :: 1 :: 1 :: 1 :: 0 :: s) 0, .int .i64 0],
        (((M.set (0 :: 0 :: 0 :: s) (.cells [.int .i64 term, .int .i64 vote])).set (1 :: 0 :: 0 :: s) (.cells [vv, lv])).set (5 :: 0 :: 1 :: 1 :: 1 :: 0 :: s) (.map [])).set (7 :: 0 :: 1 :: 1 :: 1 :: 0 :: s)
          (.cells (Elc.cs ⟨id, pat, term, vote, vv, lv, 0, 0, 0, pat, .mapr (5 :: 0 :: 1 :: 1 :: 1 :: 0 :: s)⟩)))
      else some (.tup [.nilp, .int .i64 1], ((M.set (0 :: 0 :: 0 :: s) (.cells [.int .i64 term, .int .i64 vote])).set (1 :: 0 :: 0 :: s) (.cells [vv, lv]))) := by
  have r1 := fun n a b s' M' => within82_E n a b s' M'
  have r2 := fun s' M' (q1 : FreshM s' M') (q2 : Sub M M') => right_E vv lv vl ll s' M' q1 (hv.mono q2) (hl.mono q2)
  simp only [Elc.cs_eq]
  rw [Fn_body Tryz.func32 (by decide) rfl rfl]
  cases c1 : withinR id 1 15 with
  | false => simp (maxDischargeDepth := 80) only [push_cast, Nat.reduceBEq, reduceIte, reduceCtorEq, Nat.reduceEqDiff, Nat.reduceAdd, Nat.reduceMul, Nat.reduceSub, Nat.reduceLeDiff, Nat.reduceLT, Nat.reducePow, Int.reduceToNat, Int.reduceLT, Int.reduceLE, Int.reduceEq, Int.reduceAdd, Int.reduceSub, Int.reduceNeg, hv.one, hv.cells, hl.one, hl.cells, r1, c1, electOk, fresh_dn hM, fresh_at hM]
  | true =>
  cases c2 : withinR term 0 1099511627776 with
  | false => simp (maxDischargeDepth := 80) only [push_cast, Nat.reduceBEq, reduceIte, reduceCtorEq, Nat.reduceEqDiff, Nat.reduceAdd, Nat.reduceMul, Nat.reduceSub, Nat.reduceLeDiff, Nat.reduceLT, Nat.reducePow, Int.reduceToNat, Int.reduceLT, Int.reduceLE, Int.reduceEq, Int.reduceAdd, Int.reduceSub, Int.reduceNeg, hv.one, hv.cells, hl.one, hl.cells, r1, c1, c2, electOk, fresh_dn hM, fresh_at hM]
  | true =>
  cases c3 : withinR vote 0 15 with
  | false => simp (maxDischargeDepth := 80) only [push_cast, Nat.reduceBEq, reduceIte, reduceCtorEq, Nat.reduceEqDiff, Nat.reduceAdd, Nat.reduceMul, Nat.reduceSub, Nat.reduceLeDiff, Nat.reduceLT, Nat.reducePow, Int.reduceToNat, Int.reduceLT, Int.reduceLE, Int.reduceEq, Int.reduceAdd, Int.reduceSub, Int.reduceNeg, hv.one, hv.cells, hl.one, hl.cells, r1, c1, c2, c3, electOk, fresh_dn hM, fresh_at hM]
  | true =>
  cases c4 : withinR pat 1 1000 with
  | false => simp (maxDischargeDepth := 80) only [push_cast, Nat.reduceBEq, reduceIte, reduceCtorEq, Nat.reduceEqDiff, Nat.reduceAdd, Nat.reduceMul, Nat.reduceSub, Nat.reduceLeDiff, Nat.reduceLT, Nat.reducePow, Int.reduceToNat, Int.reduceLT, Int.reduceLE, Int.reduceEq, Int.reduceAdd, Int.reduceSub, Int.reduceNeg, hv.one, hv.cells, hl.one, hl.cells, r1, c1, c2, c3, c4, electOk, fresh_dn hM, fresh_at hM]
  | true =>
  cases c5 : rightL vl ll with
  | false => simp (maxDischargeDepth := 80) only [push_cast, Nat.reduceBEq, reduceIte, reduceCtorEq, Nat.reduceEqDiff, Nat.reduceAdd, Nat.reduceMul, Nat.reduceSub, Nat.reduceLeDiff, Nat.reduceLT, Nat.reducePow, Int.reduceToNat, Int.reduceLT, Int.reduceLE, Int.reduceEq, Int.reduceAdd, Int.reduceSub, Int.reduceNeg, hv.one, hv.cells, hl.one, hl.cells, r1, r2, c1, c2, c3, c4, c5, electOk, fresh_dn hM, fresh_at hM]
  | true => simp (maxDischargeDepth := 80) only [push_cast, Nat.reduceBEq, reduceIte, reduceCtorEq, Nat.reduceEqDiff, Nat.reduceAdd, Nat.reduceMul, Nat.reduceSub, Nat.reduceLeDiff, Nat.reduceLT, Nat.reducePow, Int.reduceToNat, Int.reduceLT, Int.reduceLE, Int.reduceEq, Int.reduceAdd, Int.reduceSub, Int.reduceNeg, hv.one, hv.cells, hl.one, hl.cells, r1, r2, c1, c2, c3, c4, c5, electOk, fresh_dn hM, fresh_at hM]

theorem join_E {M : Mem} {ie : Id} {e : Elc} (vv lv : V) (vl ll : List Int) (s : Id) (hM : FreshM s M) (h : M ie = some (.cells e.cs)) (hv : RdI M vv vl) (hl : RdI M lv ll) :
    Fn env false 90 [.ptr ie 0, .agg [vv, lv]] s M = if rightL vl ll then some (.int .i64 0, (M.set (0 :: 0 :: 0 :: s) (.cells [vv, lv])).set ie (.cells (Elc.cs { e with vv := vv, lv := lv }))) else some (.int .i64 1, M.set (0 :: 0 :: 0 :: s) (.cells [vv, lv])) := by
  have r2 := fun s' M' (q1 : FreshM s' M') (q2 : Sub M M') => right_E vv lv vl ll s' M' q1 (hv.mono q2) (hl.mono q2)
  simp only [Elc.cs_eq] at h ⊢
  rw [Fn_body Tryz.func90 (by decide) rfl rfl]
  cases c5 : rightL vl ll with
  | false => simp (maxDischargeDepth := 80) only [push_cast, Nat.reduceBEq, reduceIte, reduceCtorEq, Nat.reduceEqDiff, Nat.reduceAdd, Nat.reduceMul, Nat.reduceSub, Nat.reduceLeDiff, Nat.reduceLT, Nat.reducePow, Int.reduceToNat, Int.reduceLT, Int.reduceLE, Int.reduceEq, Int.reduceAdd, Int.reduceSub, Int.reduceNeg, hv.one, hv.cells, hl.one, hl.cells, r2, c5, fresh_dn hM, fresh_at hM]
  | true => simp (maxDischargeDepth := 80) only [push_cast, Nat.reduceBEq, reduceIte, reduceCtorEq, Nat.reduceEqDiff, Nat.reduceAdd, Nat.reduceMul, Nat.reduceSub, Nat.reduceLeDiff, Nat.reduceLT, Nat.reducePow, Int.reduceToNat, Int.reduceLT, Int.reduceLE, Int.reduceEq, Int.reduceAdd, Int.reduceSub, Int.reduceNeg, hv.one, hv.cells, hl.one, hl.cells, r2, c5, h, Off_dn (Off_of hM h), Off_ne (Off_of hM h), Off_ne' (Off_of hM h), fresh_dn hM, fresh_at hM]
theorem rdI_one {M : Mem} {i : Id} {n : Int} (h : M i = some (.cells [.int .i64 n])) (c : Option Nat) : RdI M (.sl i 0 1 1 c) [n] := by
  refine ⟨fun _ => by simp (maxDischargeDepth := 80) only [push_cast, Nat.reduceBEq, reduceIte, reduceCtorEq, Nat.reduceEqDiff, Nat.reduceAdd, Nat.reduceMul, Nat.reduceSub, Nat.reduceLeDiff, Nat.reduceLT, Nat.reducePow, Int.reduceToNat, Int.reduceLT, Int.reduceLE, Int.reduceEq, Int.reduceAdd, Int.reduceSub, Int.reduceNeg, List.length_singleton], fun j hj => ?_, rfl, rfl, by simp⟩
  have : j = 0 := by simpa using hj
  subst this
  refine ⟨.ptr i 0, ?_, fun M' hs => ?_⟩
  · simp (maxDischargeDepth := 80) only [push_cast, Nat.reduceBEq, reduceIte, reduceCtorEq, Nat.reduceEqDiff, Nat.reduceAdd, Nat.reduceMul, Nat.reduceSub, Nat.reduceLeDiff, Nat.reduceLT, Nat.reducePow, Int.reduceToNat, Int.reduceLT, Int.reduceLE, Int.reduceEq, Int.reduceAdd, Int.reduceSub, Int.reduceNeg]
  · simp (maxDischargeDepth := 80) only [push_cast, Nat.reduceBEq, reduceIte, reduceCtorEq, Nat.reduceEqDiff, Nat.reduceAdd, Nat.reduceMul, Nat.reduceSub, Nat.reduceLeDiff, Nat.reduceLT, Nat.reducePow, Int.reduceToNat, Int.reduceLT, Int.reduceLE, Int.reduceEq, Int.reduceAdd, Int.reduceSub, Int.reduceNeg, hs _ _ h]
    try rfl
theorem alone_E {M : Mem} {ie : Id} {e : Elc} (vl ll : List Int) (role : Int) (s : Id) (hM : FreshM s M) (h : ElAt M ie e vl ll) :
    Fn env false 96 [.ptr ie 0, .int .i64 role] s M = some (.bool (winsL vl ll [e.id]),
      ((((M.set (3 :: 0 :: 1 :: 0 :: s) (.map [])).set (8 :: 0 :: 1 :: 0 :: s) (.cells [.int .i64 e.id])).set (3 :: 0 :: 1 :: 0 :: s) (.map [(.bool true, .sl (8 :: 0 :: 1 :: 0 :: s) 0 1 1 (some 1))]))).set ie (.cells (Elc.cs { e with role := role, said := .mapr (3 :: 0 :: 1 :: 0 :: s) }))) := by
  have h0 := h.obj
  have hv := h.v M
  have hl := h.l M
  have s1 := h.s1
  have s2 := h.s2
  have r1 := fun i c s' M' (q1 : FreshM s' M') (q4 : M' i = some (.cells [.int .i64 e.id])) => wins_E e.vv e.lv (.sl i 0 1 1 c) vl ll [e.id] s' M' q1 (h.v M') (h.l M') (rdI_one q4 c)
  simp only [Elc.cs_eq] at h0 ⊢
  rw [Fn_body Tryz.func96 (by decide) rfl rfl]
  simp (maxDischargeDepth := 80) only [push_cast, Nat.reduceBEq, reduceIte, reduceCtorEq, Nat.reduceEqDiff, Nat.reduceAdd, Nat.reduceMul, Nat.reduceSub, Nat.reduceLeDiff, Nat.reduceLT, Nat.reducePow, Int.reduceToNat, Int.reduceLT, Int.reduceLE, Int.reduceEq, Int.reduceAdd, Int.reduceSub, Int.reduceNeg, hv.one, hv.cells, hl.one, hl.cells, s1, s2, r1, h0, Off_dn (Off_of hM h0), Off_ne (Off_of hM h0), Off_ne' (Off_of hM h0), fresh_dn hM, fresh_at hM]

/-- alone, it runs and leads -/
theorem run_E {M : Mem} {ie : Id} {e : Elc} (vl ll : List Int) (last lt : Int) (s : Id) (hM : FreshM s M) (h : ElAt M ie e vl ll) (hw : winsL vl ll [e.id] = true) (ht : e.term < 1099511627776) (ht0 : 0 ≤ e.term) :
    ∃ x : Mem × Id, Fn env false 97 [.ptr ie 0, .int .i64 last, .int .i64 lt] s M = some (.nils, x.1) ∧ x.1 ie = some (.cells (Elc.cs { e with term := e.term + 1, vote := e.id, role := 3, leader := e.id, said := .mapr x.2 })) ∧ FrM s [ie] M x.1 := by
  have h0 := h.obj
  have hv := h.v M
  have hl := h.l M
  have s1 := h.s1
  have s2 := h.s2
  have w1 : IntKind.wrap .i64 (e.term + 1) = e.term + 1 := wrap_id (by omega) (by omega)
  have t1 : (1099511627776 ≤ e.term) = False := eq_false (by omega)
  have r1 := fun s' M' (q1 : FreshM s' M') (q2 : M' ie = some (.cells (Elc.cs { e with term := e.term + 1, vote := e.id }))) =>
    alone_E (e := { e with term := e.term + 1, vote := e.id }) vl ll 2 s' q1 ⟨q2, h.v, h.l, s1, s2⟩
  simp only [Elc.cs_eq] at h0 r1
  simp only [Elc.cs_eq]
  refine ⟨(?_, ?_), ?a, ?b, ?c⟩
  case a =>
    rw [Fn_body Tryz.func97 (by decide) rfl rfl]
    simp (maxDischargeDepth := 80) only [push_cast, Nat.reduceBEq, reduceIte, reduceCtorEq, Nat.reduceEqDiff, Nat.reduceAdd, Nat.reduceMul, Nat.reduceSub, Nat.reduceLeDiff, Nat.reduceLT, Nat.reducePow, Int.reduceToNat, Int.reduceLT, Int.reduceLE, Int.reduceEq, Int.reduceAdd, Int.reduceSub, Int.reduceNeg, hv.one, hv.cells, hl.one, hl.cells, s1, s2, r1, hw, w1, t1, h0, Off_dn (Off_of hM h0), Off_ne (Off_of hM h0), Off_ne' (Off_of hM h0), fresh_dn hM, fresh_at hM]
    rfl
  case b =>
    simp (maxDischargeDepth := 80) only [push_cast, Nat.reduceBEq, reduceIte, reduceCtorEq, Nat.reduceEqDiff, Nat.reduceAdd, Nat.reduceMul, Nat.reduceSub, Nat.reduceLeDiff, Nat.reduceLT, Nat.reducePow, Int.reduceToNat, Int.reduceLT, Int.reduceLE, Int.reduceEq, Int.reduceAdd, Int.reduceSub, Int.reduceNeg]
    rfl
  case c =>
    intro i hi hx
    have h1 : (i = ie) = False := eq_false (fun e => hx (by simp [e]))
    simp (maxDischargeDepth := 80) only [push_cast, Nat.reduceBEq, reduceIte, reduceCtorEq, Nat.reduceEqDiff, Nat.reduceAdd, Nat.reduceMul, Nat.reduceSub, Nat.reduceLeDiff, Nat.reduceLT, Nat.reducePow, Int.reduceToNat, Int.reduceLT, Int.reduceLE, Int.reduceEq, Int.reduceAdd, Int.reduceSub, Int.reduceNeg, h1, Off_ne hi]

/-- one tick of who is alone -/
theorem etick_E {M : Mem} {ie : Id} {e : Elc} (vl ll : List Int) (draw last lt : Int) (s : Id) (hM : FreshM s M) (h : ElAt M ie e vl ll) (hw : winsL vl ll [e.id] = true) (hc : vl.contains e.id = true) (ht : e.term < 1099511627776) (ht0 : 0 ≤ e.term)
    (hr : e.role ≠ 3) (hwa : e.waited = 0) (hli : e.limit = 1) (hpa : e.pat = 1) :
    ∃ x : Mem × Id, Fn env false 38 [.ptr ie 0, .int .i64 draw, .int .i64 last, .int .i64 lt] s M = some (.nils, x.1) ∧ x.1 ie = some (.cells (Elc.cs { e with term := e.term + 1, vote := e.id, role := 3, leader := e.id, waited := 0, limit := 1, said := .mapr x.2 })) ∧ FrM s [ie] M x.1 := by
  have h0 := h.obj
  have hv := h.v M
  have hl := h.l M
  have s1 := h.s1
  have s2 := h.s2
  have m1 : ∀ a : Int, a.tmod 1 = 0 := fun a => Int.tmod_one a
  have hr' : (e.role = 3) = False := eq_false hr
  have r1 := fun s' M' (q1 : FreshM s' M') => contains_E e.vv vl e.id s' M' q1 (h.v M')
  have r2 := fun e' s' M' (q1 : FreshM s' M') (q2 : M' ie = some (.cells (Elc.cs e'))) (q3 : e'.id = e.id) (q4 : e'.vv = e.vv) (q5 : e'.lv = e.lv) (q6 : e'.said = e.said) =>
    alone_E (e := e') vl ll 1 s' q1 ⟨q2, q4 ▸ h.v, q5 ▸ h.l, q6 ▸ s1, by rw [q6]; exact s2⟩
  have rr : ∀ s' M', (FreshM s' M' ∧ ∃ im, M' ie = some (.cells (Elc.cs { e with role := 1, leader := 0, waited := 0, limit := 1, said := .mapr im }))) →
      ∃ x : Mem × Id, Fn env false 97 [.ptr ie 0, .int .i64 last, .int .i64 lt] s' M' = some (.nils, x.1) ∧ x.1 ie = some (.cells (Elc.cs { e with term := e.term + 1, vote := e.id, role := 3, leader := e.id, waited := 0, limit := 1, said := .mapr x.2 })) ∧ FrM s' [ie] M' x.1 := by
    rintro s' M' ⟨q1, im, q2⟩
    exact run_E (e := { e with role := 1, leader := 0, waited := 0, limit := 1, said := .mapr im }) vl ll last lt s' q1 ⟨q2, h.v, h.l, rfl, rfl⟩ hw ht ht0
  obtain ⟨F, hF⟩ := skolem rr
  have k1 := fun s' M' (q1 : FreshM s' M') (q2 : M' ie = _) => (hF s' M' ⟨q1, 3 :: 0 :: 1 :: 0 :: 1 :: 0 :: 0 :: 1 :: 1 :: 1 :: 1 :: 1 :: 0 :: s, q2⟩).1
  have k2 := fun s' M' (q1 : FreshM s' M') (q2 : M' ie = _) => (hF s' M' ⟨q1, 3 :: 0 :: 1 :: 0 :: 1 :: 0 :: 0 :: 1 :: 1 :: 1 :: 1 :: 1 :: 0 :: s, q2⟩).2.1
  have k3 := fun s' M' (q1 : FreshM s' M') (q2 : M' ie = _) => (hF s' M' ⟨q1, 3 :: 0 :: 1 :: 0 :: 1 :: 0 :: 0 :: 1 :: 1 :: 1 :: 1 :: 1 :: 0 :: s, q2⟩).2.2
  obtain ⟨e1, e2, e3, e4, e5, e6, e7, e8, e9, e10, e11⟩ := e
  simp only at hw hc ht ht0 hr hwa hli hpa hv hl s1 s2 hr' r1
  subst hwa hli hpa
  have r2' := fun s' M' q1 q2 => r2 ⟨e1, 1, e3, e4, e5, e6, e7, 0, 0, 1, e11⟩ s' M' q1 q2 rfl rfl rfl rfl
  simp only [Elc.cs_eq] at h0 r2' k1 k2 k3
  simp only [Elc.cs_eq]
  refine ⟨(?_, ?_), ?a, ?b, ?c⟩
  case a =>
    rw [Fn_body Tryz.func38 (by decide) rfl rfl]
    simp (maxDischargeDepth := 80) only [push_cast, Nat.reduceBEq, reduceIte, reduceCtorEq, Nat.reduceEqDiff, Nat.reduceAdd, Nat.reduceMul, Nat.reduceSub, Nat.reduceLeDiff, Nat.reduceLT, Nat.reducePow, Int.reduceToNat, Int.reduceLT, Int.reduceLE, Int.reduceEq, Int.reduceAdd, Int.reduceSub, Int.reduceNeg, hv.one, hv.cells, hl.one, hl.cells, s1, s2, r1, r2', hc, hr', hw, m1, k1, h0, Off_dn (Off_of hM h0), Off_ne (Off_of hM h0), Off_ne' (Off_of hM h0), fresh_dn hM, fresh_at hM]
    rfl
  case b =>
    simp (maxDischargeDepth := 80) only [push_cast, Nat.reduceBEq, reduceIte, reduceCtorEq, Nat.reduceEqDiff, Nat.reduceAdd, Nat.reduceMul, Nat.reduceSub, Nat.reduceLeDiff, Nat.reduceLT, Nat.reducePow, Int.reduceToNat, Int.reduceLT, Int.reduceLE, Int.reduceEq, Int.reduceAdd, Int.reduceSub, Int.reduceNeg, k2, hv.one, h0, Off_dn (Off_of hM h0), Off_ne (Off_of hM h0), Off_ne' (Off_of hM h0), fresh_dn hM, fresh_at hM]
    rfl
  case c =>
    intro i hi hx
    have h1 : (i = ie) = False := eq_false (fun e => hx (by simp [e]))
    rw [k3]
    · simp (maxDischargeDepth := 80) only [push_cast, Nat.reduceBEq, reduceIte, reduceCtorEq, Nat.reduceEqDiff, Nat.reduceAdd, Nat.reduceMul, Nat.reduceSub, Nat.reduceLeDiff, Nat.reduceLT, Nat.reducePow, Int.reduceToNat, Int.reduceLT, Int.reduceLE, Int.reduceEq, Int.reduceAdd, Int.reduceSub, Int.reduceNeg, h1, Off_ne hi]
    · simp (maxDischargeDepth := 80) only [push_cast, Nat.reduceBEq, reduceIte, reduceCtorEq, Nat.reduceEqDiff, Nat.reduceAdd, Nat.reduceMul, Nat.reduceSub, Nat.reduceLeDiff, Nat.reduceLT, Nat.reducePow, Int.reduceToNat, Int.reduceLT, Int.reduceLE, Int.reduceEq, Int.reduceAdd, Int.reduceSub, Int.reduceNeg, h0, Off_dn (Off_of hM h0), Off_ne (Off_of hM h0), Off_ne' (Off_of hM h0), fresh_dn hM, fresh_at hM]
    · simp (maxDischargeDepth := 80) only [push_cast, Nat.reduceBEq, reduceIte, reduceCtorEq, Nat.reduceEqDiff, Nat.reduceAdd, Nat.reduceMul, Nat.reduceSub, Nat.reduceLeDiff, Nat.reduceLT, Nat.reducePow, Int.reduceToNat, Int.reduceLT, Int.reduceLE, Int.reduceEq, Int.reduceAdd, Int.reduceSub, Int.reduceNeg, h0, Off_dn (Off_of hM h0), Off_ne (Off_of hM h0), Off_ne' (Off_of hM h0), fresh_dn hM, fresh_at hM]
    · simp (maxDischargeDepth := 80) only [push_cast, Nat.reduceBEq, reduceIte, reduceCtorEq, Nat.reduceEqDiff, Nat.reduceAdd, Nat.reduceMul, Nat.reduceSub, Nat.reduceLeDiff, Nat.reduceLT, Nat.reducePow, Int.reduceToNat, Int.reduceLT, Int.reduceLE, Int.reduceEq, Int.reduceAdd, Int.reduceSub, Int.reduceNeg, Off_dn hi]
    · exact hx
end Go.Ab.R
