/- Elections: what stands in the memory, and who is alone. Conditions: none. -/
import Derived.Test.YtpohfmcpfkbabaaGreatGb
set_option linter.unusedSimpArgs false
set_option linter.unusedVariables false
namespace Go.Ab.R
open Go Go.Proofs
set_option maxRecDepth 100000

theorem skolem {α : Type} [h0 : Nonempty α] {P : Id → Mem → Prop} {Q : Id → Mem → α → Prop} (h : ∀ s M, P s M → ∃ a, Q s M a) : ∃ F : Id → Mem → α, ∀ s M, P s M → Q s M (F s M) := by
  classical
  refine ⟨fun s M => if q : P s M then (h s M q).choose else Classical.choice h0, fun s M q => ?_⟩
  simp only [dif_pos q]
  exact (h s M q).choose_spec
theorem FrM.fr {s t X M M'} (h : FrM s X M M') (hf : FreshM t M) (h1 : Off s t) (h2 : Off t s) (hx : ∀ x ∈ X, Off t x) : FreshM t M' := by
  intro i hi
  have ho : Off s i := fun hs => by
    rcases List.suffix_or_suffix_of_suffix hs hi with q | q
    · exact h1 q
    · exact h2 q
  rw [h i ho (fun hm => hx i hm hi)]
  exact hf i hi
theorem wr1 : IntKind.wrap .i64 1 = 1 := by decide
theorem wr2 : IntKind.wrap .i64 2 = 2 := by decide
theorem wr0 : IntKind.wrap .i64 0 = 0 := by decide
attribute [push_cast] wr1 wr2 wr0 List.forall_mem_cons

structure Elc where
  id : Int
  pat : Int
  term : Int
  vote : Int
  vv : V
  lv : V
  role : Int
  leader : Int
  waited : Int
  limit : Int
  said : V

def Elc.cs (e : Elc) : List V := [.int .i64 e.id, .int .i64 e.pat, .int .i64 e.term, .int .i64 e.vote, e.vv, e.lv, .int .i64 e.role, .int .i64 e.leader, .int .i64 e.waited, .int .i64 e.limit, e.said]
theorem Elc.cs_eq (e : Elc) : e.cs = [.int .i64 e.id, .int .i64 e.pat, .int .i64 e.term, .int .i64 e.vote, e.vv, e.lv, .int .i64 e.role, .int .i64 e.leader, .int .i64 e.waited, .int .i64 e.limit, e.said] := rfl

/-- an election's node; vl, ll: voters and learners -/
structure ElAt (M : Mem) (ie : Id) (e : Elc) (vl ll : List Int) : Prop where
  obj : M ie = some (.cells e.cs)
  v : ∀ M', RdI M' e.vv vl
  l : ∀ M', RdI M' e.lv ll
  s1 : e.said.one = true
  s2 : e.said.cells = [e.said]

theorem role_E {M : Mem} {ie : Id} {e : Elc} (s : Id) (hM : FreshM s M) (h : M ie = some (.cells e.cs)) : Fn env false 16 [.ptr ie 0] s M = some (.int .i64 e.role, M) := by
  rw [Elc.cs_eq] at h
  rw [Fn_body Tryz.func16 (by decide) rfl rfl]
  simp (maxDischargeDepth := 80) only [push_cast, Nat.reduceBEq, reduceIte, reduceCtorEq, Nat.reduceEqDiff, Nat.reduceAdd, Nat.reduceMul, Nat.reduceSub, Nat.reduceLeDiff, Nat.reduceLT, Nat.reducePow, Int.reduceToNat, Int.reduceLT, Int.reduceLE, Int.reduceEq, Int.reduceAdd, Int.reduceSub, Int.reduceNeg, h, fresh_dn hM, fresh_at hM]
theorem hard_E {M : Mem} {ie : Id} {e : Elc} (s : Id) (hM : FreshM s M) (h : M ie = some (.cells e.cs)) : Fn env false 23 [.ptr ie 0] s M = some (.agg [.int .i64 e.term, .int .i64 e.vote], M) := by
  rw [Elc.cs_eq] at h
  rw [Fn_body Tryz.func23 (by decide) rfl rfl]
  simp (maxDischargeDepth := 80) only [push_cast, Nat.reduceBEq, reduceIte, reduceCtorEq, Nat.reduceEqDiff, Nat.reduceAdd, Nat.reduceMul, Nat.reduceSub, Nat.reduceLeDiff, Nat.reduceLT, Nat.reducePow, Int.reduceToNat, Int.reduceLT, Int.reduceLE, Int.reduceEq, Int.reduceAdd, Int.reduceSub, Int.reduceNeg, h, Off_dn (Off_of hM h), Off_ne (Off_of hM h), Off_ne' (Off_of hM h), fresh_dn hM, fresh_at hM]

def electOk (id term vote pat : Int) (vl ll : List Int) : Bool := withinR id 1 15 && withinR term 0 1099511627776 && withinR vote 0 15 && withinR pat 1 1000 && rightL vl ll

theorem electNew_E (id term vote pat : Int) (vv lv : V) (vl ll : List Int) (s : Id) (M : Mem) (hM : FreshM s M) (hv : RdI M vv vl) (hl : RdI M lv ll) :
    Fn env false 32 [.int .i64 id, .agg [.int .i64 term, .int .i64 vote], .agg [vv, lv], .int .i64 pat] s M =
      if electOk id term vote pat vl ll then some (.tup [.ptr (7 :: 0 :: 1 :: 1 :: 1 :: 0 :: s) 0, .int .i64 0],
        (((M.set (0 :: 0 :: 0 :: s) (.cells [.int .i64 term, .int .i64 vote])).set (1 :: 0 :: 0 :: s) (.cells [vv, lv])).set (5 :: 0 :: 1 :: 1 :: 1 :: 0 :: s) (.map [])).set (7 :: 0 :: 1 :: 1 :: 1 :: 0 :: s)
          (.cells (Elc.cs ⟨id, pat, term, vote, vv, lv, 0, 0, 0, pat, .mapr (5 :: 0 :: 1 :: 1 :: 1 :: 0 :: s)⟩)))
      else some (.tup [.nilp, .int .i64 1], ((M.set (0 :: 0 :: 0 :: s) (.cells [.int .i64 term, .int .i64 vote])).set (1 :: 0 :: 0 :: s) (.cells [vv, lv]))) := by
  have r1 := fun n a b s' M' => within82_E n a b s' M'
  have r2 := fun s' M' (q1 : FreshM s' M') (q2 : Sub M M') => right_E vv lv vl ll s' M' q1 (hv.mono q2) (hl.mono q2)
  simp only [Elc.cs_eq]
  rw [Fn_body Tryz.func32 (by decide) rfl rfl]
  cases c1 : withinR id 1 15 with
  | false => simp (maxDischargeDepth := 80) only [push_cast, Nat.reduceBEq, reduceIte, reduceCtorEq, Nat.reduceEqDiff, Nat.reduceAdd, Nat.reduceMul, Nat.reduceSub, Nat.reduceLeDiff, Nat.reduceLT, Nat.reducePow, Int.reduceToNat, Int.reduceLT, Int.reduceLE, Int.reduceEq, Int.reduceAdd, Int.reduceSub, Int.reduceNeg, hv.one, hv.cells, hl.one, hl.cells, r1, c1, electOk, fresh_dn hM, fresh_at hM]
  | true =>
  cases c2 : withinR term 0 1099511627776 with
  | false => simp (maxDischargeDepth := 80) only [push_cast, Nat.reduceBEq, reduceIte, reduceCtorEq, Nat.reduceEqDiff, Nat.reduceAdd, Nat.reduceMul, Nat.reduceSub, Nat.reduceLeDiff, Nat.reduceLT, Nat.reducePow, Int.reduceToNat, Int.reduceLT, Int.reduceLE, Int.reduceEq, Int.reduceAdd, Int.reduceSub, Int.reduceNeg, hv.one, hv.cells, hl.one, hl.cells, r1, c1, c2, electOk, fresh_dn hM, fresh_at hM]
  | true =>
  cases c3 : withinR vote 0 15 with
  | false => simp (maxDischargeDepth := 80) only [push_cast, Nat.reduceBEq, reduceIte, reduceCtorEq, Nat.reduceEqDiff, Nat.reduceAdd, Nat.reduceMul, Nat.reduceSub, Nat.reduceLeDiff, Nat.reduceLT, Nat.reducePow, Int.reduceToNat, Int.reduceLT, Int.reduceLE, Int.reduceEq, Int.reduceAdd, Int.reduceSub, Int.reduceNeg, hv.one, hv.cells, hl.one, hl.cells, r1, c1, c2, c3, electOk, fresh_dn hM, fresh_at hM]
  | true =>
  cases c4 : withinR pat 1 1000 with
  | false => simp (maxDischargeDepth := 80) only [push_cast, Nat.reduceBEq, reduceIte, reduceCtorEq, Nat.reduceEqDiff, Nat.reduceAdd, Nat.reduceMul, Nat.reduceSub, Nat.reduceLeDiff, Nat.reduceLT, Nat.reducePow, Int.reduceToNat, Int.reduceLT, Int.reduceLE, Int.reduceEq, Int.reduceAdd, Int.reduceSub, Int.reduceNeg, hv.one, hv.cells, hl.one, hl.cells, r1, c1, c2, c3, c4, electOk, fresh_dn hM, fresh_at hM]
  | true =>
  cases c5 : rightL vl ll with
  | false => simp (maxDischargeDepth := 80) only [push_cast, Nat.reduceBEq, reduceIte, reduceCtorEq, Nat.reduceEqDiff, Nat.reduceAdd, Nat.reduceMul, Nat.reduceSub, Nat.reduceLeDiff, Nat.reduceLT, Nat.reducePow, Int.reduceToNat, Int.reduceLT, Int.reduceLE, Int.reduceEq, Int.reduceAdd, Int.reduceSub, Int.reduceNeg, hv.one, hv.cells, hl.one, hl.cells, r1, r2, c1, c2, c3, c4, c5, electOk, fresh_dn hM, fresh_at hM]
  | true => simp (maxDischargeDepth := 80) only [push_cast, Nat.reduceBEq, reduceIte, reduceCtorEq, Nat.reduceEqDiff, Nat.reduceAdd, Nat.reduceMul, Nat.reduceSub, Nat.reduceLeDiff, Nat.reduceLT, Nat.reducePow, Int.reduceToNat, Int.reduceLT, Int.reduceLE, Int.reduceEq, Int.reduceAdd, Int.reduceSub, Int.reduceNeg, hv.one, hv.cells, hl.one, hl.cells, r1, r2, c1, c2, c3, c4, c5, electOk, fresh_dn hM, fresh_at hM]

theorem join_E {M : Mem} {ie : Id} {e : Elc} (vv lv : V) (vl ll : List Int) (s : Id) (hM : FreshM s M) (h : M ie = some (.cells e.cs)) (hv : RdI M vv vl) (hl : RdI M lv ll) :
    Fn env false 90 [.ptr ie 0, .agg [vv, lv]] s M = if rightL vl ll then some (.int .i64 0, (M.set (0 :: 0 :: 0 :: s) (.cells [vv, lv])).set ie (.cells (Elc.cs { e with vv := vv, lv := lv }))) else some (.int .i64 1, M.set (0 :: 0 :: 0 :: s) (.cells [vv, lv])) := by
  have r2 := fun s' M' (q1 : FreshM s' M') (q2 : Sub M M') => right_E vv lv vl ll s' M' q1 (hv.mono q2) (hl.mono q2)
  simp only [Elc.cs_eq] at h ⊢
  rw [Fn_body Tryz.func90 (by decide) rfl rfl]
  cases c5 : rightL vl ll with
  | false => simp (maxDischargeDepth := 80) only [push_cast, Nat.reduceBEq, reduceIte, reduceCtorEq, Nat.reduceEqDiff, Nat.reduceAdd, Nat.reduceMul, Nat.reduceSub, Nat.reduceLeDiff, Nat.reduceLT, Nat.reducePow, Int.reduceToNat, Int.reduceLT, Int.reduceLE, Int.reduceEq, Int.reduceAdd, Int.reduceSub, Int.reduceNeg, hv.one, hv.cells, hl.one, hl.cells, r2, c5, fresh_dn hM, fresh_at hM]
  | true => simp (maxDischargeDepth := 80) only [push_cast, Nat.reduceBEq, reduceIte, reduceCtorEq, Nat.reduceEqDiff, Nat.reduceAdd, Nat.reduceMul, Nat.reduceSub, Nat.reduceLeDiff, Nat.reduceLT, Nat.reducePow, Int.reduceToNat, Int.reduceLT, Int.reduceLE, Int.reduceEq, Int.reduceAdd, Int.reduceSub, Int.reduceNeg, hv.one, hv.cells, hl.one, hl.cells, r2, c5, h, Off_dn (Off_of hM h), Off_ne (Off_of hM h), Off_ne' (Off_of hM h), fresh_dn hM, fresh_at hM]
theorem rdI_one {M : Mem} {i : Id} {n : Int} (h : M i = some (.cells [.int .i64 n])) (c : Option Nat) : RdI M (.sl i 0 1 1 c) [n] := by
  refine ⟨fun _ => by simp (maxDischargeDepth := 80) only [push_cast, Nat.reduceBEq, reduceIte, reduceCtorEq, Nat.reduceEqDiff, Nat.reduceAdd, Nat.reduceMul, Nat.reduceSub, Nat.reduceLeDiff, Nat.reduceLT, Nat.reducePow, Int.reduceToNat, Int.reduceLT, Int.reduceLE, Int.reduceEq, Int.reduceAdd, Int.reduceSub, Int.reduceNeg, List.length_singleton], fun j hj => ?_, rfl, rfl, by simp⟩
  have : j = 0 := by simpa using hj
  subst this
  refine ⟨.ptr i 0, ?_, fun M' hs => ?_⟩
  · simp (maxDischargeDepth := 80) only [push_cast, Nat.reduceBEq, reduceIte, reduceCtorEq, Nat.reduceEqDiff, Nat.reduceAdd, Nat.reduceMul, Nat.reduceSub, Nat.reduceLeDiff, Nat.reduceLT, Nat.reducePow, Int.reduceToNat, Int.reduceLT, Int.reduceLE, Int.reduceEq, Int.reduceAdd, Int.reduceSub, Int.reduceNeg]
  · simp (maxDischargeDepth := 80) only [push_cast, Nat.reduceBEq, reduceIte, reduceCtorEq, Nat.reduceEqDiff, Nat.reduceAdd, Nat.reduceMul, Nat.reduceSub, Nat.reduceLeDiff, Nat.reduceLT, Nat.reducePow, Int.reduceToNat, Int.reduceLT, Int.reduceLE, Int.reduceEq, Int.reduceAdd, Int.reduceSub, Int.reduceNeg, hs _ _ h]
    try rfl
theorem alone_E {M : Mem} {ie : Id} {e : Elc} (vl ll : List Int) (role : Int) (s : Id) (hM : FreshM s M) (h : ElAt M ie e vl ll) :
    Fn env false 96 [.ptr ie 0, .int .i64 role] s M = some (.bool (winsL vl ll [e.id]),
      ((((M.set (3 :: 0 :: 1 :: 0 :: s) (.map [])).set (8 :: 0 :: 1 :: 0 :: s) (.cells [.int .i64 e.id])).set (3 :: 0 :: 1 :: 0 :: s) (.map [(.bool true, .sl (8 :: 0 :: 1 :: 0 :: s) 0 1 1 (some 1))]))).set ie (.cells (Elc.cs { e with role := role, said := .mapr (3 :: 0 :: 1 :: 0 :: s) }))) := by
  have h0 := h.obj
  have hv := h.v M
  have hl := h.l M
  have s1 := h.s1
  have s2 := h.s2
  have r1 := fun i c s' M' (q1 : FreshM s' M') (q4 : M' i = some (.cells [.int .i64 e.id])) => wins_E e.vv e.lv (.sl i 0 1 1 c) vl ll [e.id] s' M' q1 (h.v M') (h.l M') (rdI_one q4 c)
  simp only [Elc.cs_eq] at h0 ⊢
  rw [Fn_body Tryz.func96 (by decide) rfl rfl]
  simp (maxDischargeDepth := 80) only [push_cast, Nat.reduceBEq, reduceIte, reduceCtorEq, Nat.reduceEqDiff, Nat.reduceAdd, Nat.reduceMul, Nat.reduceSub, Nat.reduceLeDiff, Nat.reduceLT, Nat.reducePow, Int.reduceToNat, Int.reduceLT, Int.reduceLE, Int.reduceEq, Int.reduceAdd, Int.reduceSub, Int.reduceNeg, hv.one, hv.cells, hl.one, hl.cells, s1, s2, r1, h0, Off_dn (Off_of hM h0), Off_ne (Off_of hM h0), Off_ne' (Off_of hM h0), fresh_dn hM, fresh_at hM]

/-- alone, it runs and leads -/
theorem run_E {M : Mem} {ie : Id} {e : Elc} (vl ll : List Int) (last lt : Int) (s : Id) (hM : FreshM s M) (h : ElAt M ie e vl ll) (hw : winsL vl ll [e.id] = true) (ht : e.term < 1099511627776) (ht0 : 0 ≤ e.term) :
    ∃ x : Mem × Id, Fn env false 97 [.ptr ie 0, .int .i64 last, .int .i64 lt] s M = some (.nils, x.1) ∧ x.1 ie = some (.cells (Elc.cs { e with term := e.term + 1, vote := e.id, role := 3, leader := e.id, said := .mapr x.2 })) ∧ FrM s [ie] M x.1 := by
  have h0 := h.obj
  have hv := h.v M
  have hl := h.l M
  have s1 := h.s1
  have s2 := h.s2
  have w1 : IntKind.wrap .i64 (e.term + 1) = e.term + 1 := wrap_id (by omega) (by omega)
  have t1 : (1099511627776 ≤ e.term) = False := eq_false (by omega)
  have r1 := fun s' M' (q1 : FreshM s' M') (q2 : M' ie = some (.cells (Elc.cs { e with term := e.term + 1, vote := e.id }))) =>
    alone_E (e := { e with term := e.term + 1, vote := e.id }) vl ll 2 s' q1 ⟨q2, h.v, h.l, s1, s2⟩
  simp only [Elc.cs_eq] at h0 r1
  simp only [Elc.cs_eq]
  refine ⟨(?_, ?_), ?a, ?b, ?c⟩
  case a =>
    rw [Fn_body Tryz.func97 (by decide) rfl rfl]
    simp (maxDischargeDepth := 80) only [push_cast, Nat.reduceBEq, reduceIte, reduceCtorEq, Nat.reduceEqDiff, Nat.reduceAdd, Nat.reduceMul, Nat.reduceSub, Nat.reduceLeDiff, Nat.reduceLT, Nat.reducePow, Int.reduceToNat, Int.reduceLT, Int.reduceLE, Int.reduceEq, Int.reduceAdd, Int.reduceSub, Int.reduceNeg, hv.one, hv.cells, hl.one, hl.cells, s1, s2, r1, hw, w1, t1, h0, Off_dn (Off_of hM h0), Off_ne (Off_of hM h0), Off_ne' (Off_of hM h0), fresh_dn hM, fresh_at hM]
    rfl
  case b =>
    simp (maxDischargeDepth := 80) only [push_cast, Nat.reduceBEq, reduceIte, reduceCtorEq, Nat.reduceEqDiff, Nat.reduceAdd, Nat.reduceMul, Nat.reduceSub, Nat.reduceLeDiff, Nat.reduceLT, Nat.reducePow, Int.reduceToNat, Int.reduceLT, Int.reduceLE, Int.reduceEq, Int.reduceAdd, Int.reduceSub, Int.reduceNeg]
    rfl
  case c =>
    intro i hi hx
    have h1 : (i = ie) = False := eq_false (fun e => hx (by simp [e]))
    simp (maxDischargeDepth := 80) only [push_cast, Nat.reduceBEq, reduceIte, reduceCtorEq, Nat.reduceEqDiff, Nat.reduceAdd, Nat.reduceMul, Nat.reduceSub, Nat.reduceLeDiff, Nat.reduceLT, Nat.reducePow, Int.reduceToNat, Int.reduceLT, Int.reduceLE, Int.reduceEq, Int.reduceAdd, Int.reduceSub, Int.reduceNeg, h1, Off_ne hi]

/-- one tick of who is alone -/
theorem etick_E {M : Mem} {ie : Id} {e : Elc} (vl ll : List Int) (draw last lt : Int) (s : Id) (hM : FreshM s M) (h : ElAt M ie e vl ll) (hw : winsL vl ll [e.id] = true) (hc : vl.contains e.id = true) (ht : e.term < 1099511627776) (ht0 : 0 ≤ e.term)
    (hr : e.role ≠ 3) (hwa : e.waited = 0) (hli : e.limit = 1) (hpa : e.pat = 1) :
    ∃ x : Mem × Id, Fn env false 38 [.ptr ie 0, .int .i64 draw, .int .i64 last, .int .i64 lt] s M = some (.nils, x.1) ∧ x.1 ie = some (.cells (Elc.cs { e with term := e.term + 1, vote := e.id, role := 3, leader := e.id, waited := 0, limit := 1, said := .mapr x.2 })) ∧ FrM s [ie] M x.1 := by
  have h0 := h.obj
  have hv := h.v M
  have hl := h.l M
  have s1 := h.s1
  have s2 := h.s2
  have m1 : ∀ a : Int, a.tmod 1 = 0 := fun a => Int.tmod_one a
  have hr' : (e.role = 3) = False := eq_false hr
  have r1 := fun s' M' (q1 : FreshM s' M') => contains_E e.vv vl e.id s' M' q1 (h.v M')
  have r2 := fun e' s' M' (q1 : FreshM s' M') (q2 : M' ie = some (.cells (Elc.cs e'))) (q3 : e'.id = e.id) (q4 : e'.vv = e.vv) (q5 : e'.lv = e.lv) (q6 : e'.said = e.said) =>
    alone_E (e := e') vl ll 1 s' q1 ⟨q2, q4 ▸ h.v, q5 ▸ h.l, q6 ▸ s1, by rw [q6]; exact s2⟩
  have rr : ∀ s' M', (FreshM s' M' ∧ ∃ im, M' ie = some (.cells (Elc.cs { e with role := 1, leader := 0, waited := 0, limit := 1, said := .mapr im }))) →
      ∃ x : Mem × Id, Fn env false 97 [.ptr ie 0, .int .i64 last, .int .i64 lt] s' M' = some (.nils, x.1) ∧ x.1 ie = some (.cells (Elc.cs { e with term := e.term + 1, vote := e.id, role := 3, leader := e.id, waited := 0, limit := 1, said := .mapr x.2 })) ∧ FrM s' [ie] M' x.1 := by
    rintro s' M' ⟨q1, im, q2⟩
    exact run_E (e := { e with role := 1, leader := 0, waited := 0, limit := 1, said := .mapr im }) vl ll last lt s' q1 ⟨q2, h.v, h.l, rfl, rfl⟩ hw ht ht0
  obtain ⟨F, hF⟩ := skolem rr
  have k1 := fun s' M' (q1 : FreshM s' M') (q2 : M' ie = _) => (hF s' M' ⟨q1, 3 :: 0 :: 1 :: 0 :: 1 :: 0 :: 0 :: 1 :: 1 :: 1 :: 1 :: 1 :: 0 :: s, q2⟩).1
  have k2 := fun s' M' (q1 : FreshM s' M') (q2 : M' ie = _) => (hF s' M' ⟨q1, 3 :: 0 :: 1 :: 0 :: 1 :: 0 :: 0 :: 1 :: 1 :: 1 :: 1 :: 1 :: 0 :: s, q2⟩).2.1
  have k3 := fun s' M' (q1 : FreshM s' M') (q2 : M' ie = _) => (hF s' M' ⟨q1, 3 :: 0 :: 1 :: 0 :: 1 :: 0 :: 0 :: 1 :: 1 :: 1 :: 1 :: 1 :: 0 :: s, q2⟩).2.2
  obtain ⟨e1, e2, e3, e4, e5, e6, e7, e8, e9, e10, e11⟩ := e
  simp only at hw hc ht ht0 hr hwa hli hpa hv hl s1 s2 hr' r1
  subst hwa hli hpa
  have r2' := fun s' M' q1 q2 => r2 ⟨e1, 1, e3, e4, e5, e6, e7, 0, 0, 1, e11⟩ s' M' q1 q2 rfl rfl rfl rfl
  simp only [Elc.cs_eq] at h0 r2' k1 k2 k3
  simp only [Elc.cs_eq]
  refine ⟨(?_, ?_), ?a, ?b, ?c⟩
  case a =>
    rw [Fn_body Tryz.func38 (by decide) rfl rfl]
    simp (maxDischargeDepth := 80) only [push_cast, Nat.reduceBEq, reduceIte, reduceCtorEq, Nat.reduceEqDiff, Nat.reduceAdd, Nat.reduceMul, Nat.reduceSub, Nat.reduceLeDiff, Nat.reduceLT, Nat.reducePow, Int.reduceToNat, Int.reduceLT, Int.reduceLE, Int.reduceEq, Int.reduceAdd, Int.reduceSub, Int.reduceNeg, hv.one, hv.cells, hl.one, hl.cells, s1, s2, r1, r2', hc, hr', hw, m1, k1, h0, Off_dn (Off_of hM h0), Off_ne (Off_of hM h0), Off_ne' (Off_of hM h0), fresh_dn hM, fresh_at hM]
    rfl
  case b =>
    simp (maxDischargeDepth := 80) only [push_cast, Nat.reduceBEq, reduceIte, reduceCtorEq, Nat.reduceEqDiff, Nat.reduceAdd, Nat.reduceMul, Nat.reduceSub, Nat.reduceLeDiff, Nat.reduceLT, Nat.reducePow, Int.reduceToNat, Int.reduceLT, Int.reduceLE, Int.reduceEq, Int.reduceAdd, Int.reduceSub, Int.reduceNeg, k2, hv.one, h0, Off_dn (Off_of hM h0), Off_ne (Off_of hM h0), Off_ne' (Off_of hM h0), fresh_dn hM, fresh_at hM]
    rfl
  case c =>
    intro i hi hx
    have h1 : (i = ie) = False := eq_false (fun e => hx (by simp [e]))
    rw [k3]
    · simp (maxDischargeDepth := 80) only [push_cast, Nat.reduceBEq, reduceIte, reduceCtorEq, Nat.reduceEqDiff, Nat.reduceAdd, Nat.reduceMul, Nat.reduceSub, Nat.reduceLeDiff, Nat.reduceLT, Nat.reducePow, Int.reduceToNat, Int.reduceLT, Int.reduceLE, Int.reduceEq, Int.reduceAdd, Int.reduceSub, Int.reduceNeg, h1, Off_ne hi]
    · simp (maxDischargeDepth := 80) only [push_cast, Nat.reduceBEq, reduceIte, reduceCtorEq, Nat.reduceEqDiff, Nat.reduceAdd, Nat.reduceMul, Nat.reduceSub, Nat.reduceLeDiff, Nat.reduceLT, Nat.reducePow, Int.reduceToNat, Int.reduceLT, Int.reduceLE, Int.reduceEq, Int.reduceAdd, Int.reduceSub, Int.reduceNeg, h0, Off_dn (Off_of hM h0), Off_ne (Off_of hM h0), Off_ne' (Off_of hM h0), fresh_dn hM, fresh_at hM]
    · simp (maxDischargeDepth := 80) only [push_cast, Nat.reduceBEq, reduceIte, reduceCtorEq, Nat.reduceEqDiff, Nat.reduceAdd, Nat.reduceMul, Nat.reduceSub, Nat.reduceLeDiff, Nat.reduceLT, Nat.reducePow, Int.reduceToNat, Int.reduceLT, Int.reduceLE, Int.reduceEq, Int.reduceAdd, Int.reduceSub, Int.reduceNeg, h0, Off_dn (Off_of hM h0), Off_ne (Off_of hM h0), Off_ne' (Off_of hM h0), fresh_dn hM, fresh_at hM]
    · simp (maxDischargeDepth := 80) only [push_cast, Nat.reduceBEq, reduceIte, reduceCtorEq, Nat.reduceEqDiff, Nat.reduceAdd, Nat.reduceMul, Nat.reduceSub, Nat.reduceLeDiff, Nat.reduceLT, Nat.reducePow, Int.reduceToNat, Int.reduceLT, Int.reduceLE, Int.reduceEq, Int.reduceAdd, Int.reduceSub, Int.reduceNeg, Off_dn hi]
    · exact hx
end Go.Ab.R

/- The node's snapshot and group: copies, checks. Conditions: none. -/
namespace Go.Ab.R
open Go Go.Proofs
set_option maxRecDepth 100000

/-- where numbers of a slice lie -/
inductive IntsV (M : Mem) : V → Option (List Int) → Prop
  | nils : IntsV M .nils none
  | sl (i : Id) (cap : Option Nat) (l : List Int) (h : M i = some (.cells (l.map intV))) : IntsV M (.sl i 0 l.length 1 cap) (some l)
  | psl (l : List Int) (b : Bool) : IntsV M (.psl (l.map intV) l.length b) (some l)
theorem IntsV.mono {M M' v o} (h : IntsV M v o) (hs : Sub M M') : IntsV M' v o := by
  cases h with
  | nils => exact .nils
  | sl i cap l h => exact .sl i cap l (hs _ _ h)
  | psl l b => exact .psl l b
theorem intsV_V (M : Mem) (o : Option (List Int)) : IntsV M (intsV o) o := by
  cases o with
  | none => exact .nils
  | some l => exact .psl l false
theorem IntsV.rd {M v o} (h : IntsV M v o) (hs : (intsL o).length < 2 ^ 63) : RdI M v (intsL o) := by
  cases h with
  | nils => exact RdI_ints M none hs
  | sl i cap l h =>
    refine ⟨fun _ => by simp (maxDischargeDepth := 80) only [push_cast, Nat.reduceBEq, reduceIte, reduceCtorEq, Nat.reduceEqDiff, Nat.reduceAdd, Nat.reduceMul, Nat.reduceSub, Nat.reduceLeDiff, Nat.reduceLT, Nat.reducePow, Int.reduceToNat, Int.reduceLT, Int.reduceLE, Int.reduceEq, Int.reduceAdd, Int.reduceSub, Int.reduceNeg, intsL], fun j hj => ?_, rfl, rfl, hs⟩
    have hj' : j < l.length := hj
    have h1 : ((j : Int) < (l.length : Int)) = True := by simp; omega
    refine ⟨.ptr i j, ?_, fun M' hs => ?_⟩
    · simp (maxDischargeDepth := 80) only [push_cast, Nat.reduceBEq, reduceIte, reduceCtorEq, Nat.reduceEqDiff, Nat.reduceAdd, Nat.reduceMul, Nat.reduceSub, Nat.reduceLeDiff, Nat.reduceLT, Nat.reducePow, Int.reduceToNat, Int.reduceLT, Int.reduceLE, Int.reduceEq, Int.reduceAdd, Int.reduceSub, Int.reduceNeg, h1]
      simp
    · simp (maxDischargeDepth := 80) only [push_cast, Nat.reduceBEq, reduceIte, reduceCtorEq, Nat.reduceEqDiff, Nat.reduceAdd, Nat.reduceMul, Nat.reduceSub, Nat.reduceLeDiff, Nat.reduceLT, Nat.reducePow, Int.reduceToNat, Int.reduceLT, Int.reduceLE, Int.reduceEq, Int.reduceAdd, Int.reduceSub, Int.reduceNeg, hs _ _ h]
      simp [intsL, hj', intV]
  | psl l b =>
    refine ⟨fun _ => by simp (maxDischargeDepth := 80) only [push_cast, Nat.reduceBEq, reduceIte, reduceCtorEq, Nat.reduceEqDiff, Nat.reduceAdd, Nat.reduceMul, Nat.reduceSub, Nat.reduceLeDiff, Nat.reduceLT, Nat.reducePow, Int.reduceToNat, Int.reduceLT, Int.reduceLE, Int.reduceEq, Int.reduceAdd, Int.reduceSub, Int.reduceNeg, intsL], fun j hj => ?_, rfl, rfl, hs⟩
    have hj' : j < l.length := hj
    have h1 : ((j : Int) < (l.length : Int)) = True := by simp; omega
    refine ⟨.pptr ((l.map intV).drop j), ?_, fun M' _ => ?_⟩
    · simp (maxDischargeDepth := 80) only [push_cast, Nat.reduceBEq, reduceIte, reduceCtorEq, Nat.reduceEqDiff, Nat.reduceAdd, Nat.reduceMul, Nat.reduceSub, Nat.reduceLeDiff, Nat.reduceLT, Nat.reducePow, Int.reduceToNat, Int.reduceLT, Int.reduceLE, Int.reduceEq, Int.reduceAdd, Int.reduceSub, Int.reduceNeg, h1]
      simp
    · simp (maxDischargeDepth := 80) only [push_cast, Nat.reduceBEq, reduceIte, reduceCtorEq, Nat.reduceEqDiff, Nat.reduceAdd, Nat.reduceMul, Nat.reduceSub, Nat.reduceLeDiff, Nat.reduceLT, Nat.reducePow, Int.reduceToNat, Int.reduceLT, Int.reduceLE, Int.reduceEq, Int.reduceAdd, Int.reduceSub, Int.reduceNeg]
      simp [intsL, hj', intV]
theorem IntsV.one {M v o} (h : IntsV M v o) : v.one = true := by cases h <;> rfl
theorem IntsV.cells {M v o} (h : IntsV M v o) : v.cells = [v] := by cases h <;> rfl
theorem intsV_one (o : Option (List Int)) : (intsV o).one = true := (intsV_V (fun _ => none) o).one
theorem intsV_cells (o : Option (List Int)) : (intsV o).cells = [intsV o] := (intsV_V (fun _ => none) o).cells
theorem data_cells (d : Option (List UInt8)) : (dataV d).cells = [dataV d] := by cases d <;> rfl

theorem cloneI_E (v : V) (o : Option (List Int)) (s : Id) (M : Mem) (hM : FreshM s M) (hv : IntsV M v o) (hs : (intsL o).length < 2 ^ 35) : Fn env true 88 [v] s M = some (intsV o, M) := by
  rw [Fn_body Tryz.func88 (by decide) rfl rfl]
  cases hv with
  | nils => simp (maxDischargeDepth := 80) only [push_cast, Nat.reduceBEq, reduceIte, reduceCtorEq, Nat.reduceEqDiff, Nat.reduceAdd, Nat.reduceMul, Nat.reduceSub, Nat.reduceLeDiff, Nat.reduceLT, Nat.reducePow, Int.reduceToNat, Int.reduceLT, Int.reduceLE, Int.reduceEq, Int.reduceAdd, Int.reduceSub, Int.reduceNeg, intsV]
  | sl i cap l h =>
    have hs' : l.length ≤ 68719476736 := by simp only [intsL] at hs; omega
    by_cases h0 : l.length = 0
    · obtain rfl := List.length_eq_zero_iff.1 h0
      simp (maxDischargeDepth := 80) only [push_cast, Nat.reduceBEq, reduceIte, reduceCtorEq, Nat.reduceEqDiff, Nat.reduceAdd, Nat.reduceMul, Nat.reduceSub, Nat.reduceLeDiff, Nat.reduceLT, Nat.reducePow, Int.reduceToNat, Int.reduceLT, Int.reduceLE, Int.reduceEq, Int.reduceAdd, Int.reduceSub, Int.reduceNeg, intsV, h, Off_dn (Off_of hM h), Off_ne (Off_of hM h), Off_ne' (Off_of hM h), fresh_dn hM, fresh_at hM, mostLen]
    · have h0' : ¬ l.length ≤ 0 := by omega
      simp (maxDischargeDepth := 80) only [push_cast, Nat.reduceBEq, reduceIte, reduceCtorEq, Nat.reduceEqDiff, Nat.reduceAdd, Nat.reduceMul, Nat.reduceSub, Nat.reduceLeDiff, Nat.reduceLT, Nat.reducePow, Int.reduceToNat, Int.reduceLT, Int.reduceLE, Int.reduceEq, Int.reduceAdd, Int.reduceSub, Int.reduceNeg, intsV, h0, h0', h, Off_dn (Off_of hM h), Off_ne (Off_of hM h), Off_ne' (Off_of hM h), hs', fresh_dn hM, fresh_at hM, mostLen, take_len]
  | psl l b =>
    have hs' : l.length ≤ 68719476736 := by simp only [intsL] at hs; omega
    by_cases h0 : l.length = 0
    · obtain rfl := List.length_eq_zero_iff.1 h0
      simp (maxDischargeDepth := 80) only [push_cast, Nat.reduceBEq, reduceIte, reduceCtorEq, Nat.reduceEqDiff, Nat.reduceAdd, Nat.reduceMul, Nat.reduceSub, Nat.reduceLeDiff, Nat.reduceLT, Nat.reducePow, Int.reduceToNat, Int.reduceLT, Int.reduceLE, Int.reduceEq, Int.reduceAdd, Int.reduceSub, Int.reduceNeg, intsV, fresh_dn hM, fresh_at hM, mostLen]
    · have h0' : ¬ l.length ≤ 0 := by omega
      simp (maxDischargeDepth := 80) only [push_cast, Nat.reduceBEq, reduceIte, reduceCtorEq, Nat.reduceEqDiff, Nat.reduceAdd, Nat.reduceMul, Nat.reduceSub, Nat.reduceLeDiff, Nat.reduceLT, Nat.reducePow, Int.reduceToNat, Int.reduceLT, Int.reduceLE, Int.reduceEq, Int.reduceAdd, Int.reduceSub, Int.reduceNeg, intsV, h0, h0', hs', fresh_dn hM, fresh_at hM, mostLen, take_len]

/-- a snapshot -/
structure Snp where
  index : Int
  term : Int
  vs : Option (List Int)
  ls : Option (List Int)
  data : Option (List UInt8)
def Snp.cs (x : Snp) : List V := [.int .i64 x.index, .int .i64 x.term, intsV x.vs, intsV x.ls, dataV x.data]
theorem Snp.cs_eq (x : Snp) : x.cs = [.int .i64 x.index, .int .i64 x.term, intsV x.vs, intsV x.ls, dataV x.data] := rfl
structure SnpAt (M : Mem) (vv lv dv : V) (x : Snp) : Prop where
  v : IntsV M vv x.vs
  l : IntsV M lv x.ls
  d : dv = dataV x.data
  sv : (intsL x.vs).length < 2 ^ 35
  sl : (intsL x.ls).length < 2 ^ 35
  sd : dlen x.data ≤ mostLen
theorem SnpAt.mono {M M' vv lv dv x} (h : SnpAt M vv lv dv x) (hs : Sub M M') : SnpAt M' vv lv dv x := ⟨h.v.mono hs, h.l.mono hs, h.d, h.sv, h.sl, h.sd⟩

theorem copied_snap_E (vv lv dv : V) (x : Snp) (s : Id) (M : Mem) (hM : FreshM s M) (h : SnpAt M vv lv dv x) :
    Fn env true 35 [.agg [.int .i64 x.index, .int .i64 x.term, vv, lv, dv]] s M = some (.agg x.cs, M) := by
  have r1 := fun s' M' (q1 : FreshM s' M') (q2 : Sub M M') => cloneI_E vv x.vs s' M' q1 (h.v.mono q2) h.sv
  have r2 := fun s' M' (q1 : FreshM s' M') (q2 : Sub M M') => cloneI_E lv x.ls s' M' q1 (h.l.mono q2) h.sl
  have r3 := fun s' M' (q1 : FreshM s' M') => cloneB_E x.data (fun l e => by have := h.sd; rw [e] at this; exact this) s' M' q1
  have f1 : ∀ M', freeze1 M' (intsV x.vs) = some (intsV x.vs, M') := fun M' => by cases x.vs <;> rfl
  have f2 : ∀ M', freeze1 M' (intsV x.ls) = some (intsV x.ls, M') := fun M' => by cases x.ls <;> rfl
  have f3 : ∀ M', freeze1 M' (dataV x.data) = some (dataV x.data, M') := fun M' => by cases x.data <;> rfl
  have hd := h.d
  subst hd
  rw [Fn_body Tryz.func35 (by decide) rfl rfl]
  simp (maxDischargeDepth := 80) only [push_cast, Nat.reduceBEq, reduceIte, reduceCtorEq, Nat.reduceEqDiff, Nat.reduceAdd, Nat.reduceMul, Nat.reduceSub, Nat.reduceLeDiff, Nat.reduceLT, Nat.reducePow, Int.reduceToNat, Int.reduceLT, Int.reduceLE, Int.reduceEq, Int.reduceAdd, Int.reduceSub, Int.reduceNeg, h.v.one, h.v.cells, h.l.one, h.l.cells, one_data, data_cells, intsV_one, intsV_cells, r1, r2, r3, f1, f2, f3, Snp.cs_eq, fresh_dn hM, fresh_at hM]

def Snp.right (x : Snp) : Bool := withinR x.index 0 1099511627776 && withinR x.term 0 1099511627776 && rightL (intsL x.vs) (intsL x.ls) && decide ((dlen x.data : Int) ≤ 60000)
structure SnpW (M : Mem) (vv lv dv : V) (x : Snp) : Prop where
  v : IntsV M vv x.vs
  l : IntsV M lv x.ls
  d : dv = dataV x.data
  sv : (intsL x.vs).length < 2 ^ 63
  sl : (intsL x.ls).length < 2 ^ 63
theorem SnpW.mono {M M' vv lv dv x} (h : SnpW M vv lv dv x) (hs : Sub M M') : SnpW M' vv lv dv x := ⟨h.v.mono hs, h.l.mono hs, h.d, h.sv, h.sl⟩
theorem SnpAt.w {M vv lv dv x} (h : SnpAt M vv lv dv x) : SnpW M vv lv dv x := ⟨h.v, h.l, h.d, by have := h.sv; omega, by have := h.sl; omega⟩
theorem right_snapW_E (vv lv dv : V) (x : Snp) (s : Id) (M : Mem) (hM : FreshM s M) (h : SnpW M vv lv dv x) :
    Fn env false 31 [.agg [.int .i64 x.index, .int .i64 x.term, vv, lv, dv]] s M = some (.bool x.right, M) := by
  have r1 := fun n b s' M' => within80_E n b s' M'
  have r2 := fun s' M' (q1 : FreshM s' M') (q2 : Sub M M') => right_E vv lv (intsL x.vs) (intsL x.ls) s' M' q1 ((h.v.mono q2).rd (by have := h.sv; omega)) ((h.l.mono q2).rd (by have := h.sl; omega))
  have hd := h.d
  subst hd
  rw [Fn_body Tryz.func31 (by decide) rfl rfl]
  cases c1 : withinR x.index 0 1099511627776 with
  | false => simp (maxDischargeDepth := 80) only [push_cast, Nat.reduceBEq, reduceIte, reduceCtorEq, Nat.reduceEqDiff, Nat.reduceAdd, Nat.reduceMul, Nat.reduceSub, Nat.reduceLeDiff, Nat.reduceLT, Nat.reducePow, Int.reduceToNat, Int.reduceLT, Int.reduceLE, Int.reduceEq, Int.reduceAdd, Int.reduceSub, Int.reduceNeg, h.v.one, h.v.cells, h.l.one, h.l.cells, one_data, data_cells, r1, c1, Snp.right, fresh_dn hM, fresh_at hM]
  | true =>
  cases c2 : withinR x.term 0 1099511627776 with
  | false => simp (maxDischargeDepth := 80) only [push_cast, Nat.reduceBEq, reduceIte, reduceCtorEq, Nat.reduceEqDiff, Nat.reduceAdd, Nat.reduceMul, Nat.reduceSub, Nat.reduceLeDiff, Nat.reduceLT, Nat.reducePow, Int.reduceToNat, Int.reduceLT, Int.reduceLE, Int.reduceEq, Int.reduceAdd, Int.reduceSub, Int.reduceNeg, h.v.one, h.v.cells, h.l.one, h.l.cells, one_data, data_cells, r1, c1, c2, Snp.right, fresh_dn hM, fresh_at hM]
  | true =>
  cases c3 : rightL (intsL x.vs) (intsL x.ls) with
  | false => simp (maxDischargeDepth := 80) only [push_cast, Nat.reduceBEq, reduceIte, reduceCtorEq, Nat.reduceEqDiff, Nat.reduceAdd, Nat.reduceMul, Nat.reduceSub, Nat.reduceLeDiff, Nat.reduceLT, Nat.reducePow, Int.reduceToNat, Int.reduceLT, Int.reduceLE, Int.reduceEq, Int.reduceAdd, Int.reduceSub, Int.reduceNeg, h.v.one, h.v.cells, h.l.one, h.l.cells, one_data, data_cells, r1, r2, c1, c2, c3, Snp.right, fresh_dn hM, fresh_at hM]
  | true => simp (maxDischargeDepth := 80) only [push_cast, Nat.reduceBEq, reduceIte, reduceCtorEq, Nat.reduceEqDiff, Nat.reduceAdd, Nat.reduceMul, Nat.reduceSub, Nat.reduceLeDiff, Nat.reduceLT, Nat.reducePow, Int.reduceToNat, Int.reduceLT, Int.reduceLE, Int.reduceEq, Int.reduceAdd, Int.reduceSub, Int.reduceNeg, h.v.one, h.v.cells, h.l.one, h.l.cells, one_data, data_cells, len_data, r1, r2, c1, c2, c3, Snp.right, fresh_dn hM, fresh_at hM]
theorem right_snap_E (vv lv dv : V) (x : Snp) (s : Id) (M : Mem) (hM : FreshM s M) (h : SnpAt M vv lv dv x) :
    Fn env false 31 [.agg [.int .i64 x.index, .int .i64 x.term, vv, lv, dv]] s M = some (.bool x.right, M) := right_snapW_E vv lv dv x s M hM h.w
end Go.Ab.R

/- The node in the memory; its group by its entries. Conditions: none. -/
namespace Go.Ab.R
open Go Go.Proofs
set_option maxRecDepth 100000

structure Nd where
  ie : Id
  id : Int
  window : Int
  il : Id
  sn : Snp
  gvs : Option (List Int)
  gls : Option (List Int)
  peers : V
  reads : V
  round : Int
  tt : Int
  tv : Int
  snew : Bool
  from_ : Int
  msgs : V
  rds : V
def Nd.cs (d : Nd) : List V := [.ptr d.ie 0, .int .i64 d.id, .int .i64 d.window, .ptr d.il 0, .int .i64 d.sn.index, .int .i64 d.sn.term, intsV d.sn.vs, intsV d.sn.ls, dataV d.sn.data, intsV d.gvs, intsV d.gls, d.peers, d.reads, .int .i64 d.round, .int .i64 d.tt, .int .i64 d.tv,
  .bool false, .int .i64 0, .int .i64 0, .bool d.snew, .int .i64 0, .int .i64 0, .nils, .nils, .nils, .int .i64 d.from_, d.msgs, d.rds]
theorem Nd.cs_eq (d : Nd) : d.cs = [.ptr d.ie 0, .int .i64 d.id, .int .i64 d.window, .ptr d.il 0, .int .i64 d.sn.index, .int .i64 d.sn.term, intsV d.sn.vs, intsV d.sn.ls, dataV d.sn.data, intsV d.gvs, intsV d.gls, d.peers, d.reads, .int .i64 d.round, .int .i64 d.tt, .int .i64 d.tv,
  .bool false, .int .i64 0, .int .i64 0, .bool d.snew, .int .i64 0, .int .i64 0, .nils, .nils, .nils, .int .i64 d.from_, d.msgs, d.rds] := rfl

abbrev Grp := Option (List Int) × Option (List Int)
/-- what an entry does to a group -/
def ChgE (chg : Grp → Ent → Grp) (P : Grp → Prop) (l : List Ent) : Prop := ∀ x ∈ l, ∀ g, P g → P (chg g x) ∧ ∀ s M, FreshM s M → Fn env false 158 [.agg [intsV g.1, intsV g.2], .agg x.cells] s M = some (.agg [intsV (chg g x).1, intsV (chg g x).2], M)

theorem changed0_E (x : Ent) (hx : x.kind ≠ 2) (g : Grp) (s : Id) (M : Mem) (hM : FreshM s M) :
    Fn env false 158 [.agg [intsV g.1, intsV g.2], .agg x.cells] s M = some (.agg [intsV g.1, intsV g.2], M) := by
  have hx' : (x.kind = 2) = False := eq_false hx
  rw [Fn_body Tryz.func158 (by decide) rfl rfl]
  simp (maxDischargeDepth := 80) only [push_cast, Nat.reduceBEq, reduceIte, reduceCtorEq, Nat.reduceEqDiff, Nat.reduceAdd, Nat.reduceMul, Nat.reduceSub, Nat.reduceLeDiff, Nat.reduceLT, Nat.reducePow, Int.reduceToNat, Int.reduceLT, Int.reduceLE, Int.reduceEq, Int.reduceAdd, Int.reduceSub, Int.reduceNeg, intsV_one, intsV_cells, Ent.cells_eq, one_data, data_cells, hx', fresh_dn hM, fresh_at hM]
theorem chg0 (l : List Ent) (h : ∀ x ∈ l, x.kind ≠ 2) : ChgE (fun g _ => g) (fun _ => True) l := fun x hx g _ => ⟨trivial, fun s M hM => changed0_E x (h x hx) g s M hM⟩

def groupL (chg : Grp → Ent → Grp) (si : Int) : Grp → List Ent → Grp
  | g, [] => g
  | g, x :: l => groupL chg si (if si < x.index then chg g x else g) l

theorem groupAt_E {M : Mem} {p ia : Id} {v : V} {g : Lg} {d : Nd} (chg : Grp → Ent → Grp) (P : Grp → Prop) (i : Int) (s : Id) (hM : FreshM s M) (h : M p = some (.cells d.cs)) (hg : LogAt M d.il ia v g)
    (hc : ChgE chg P g.ents) (hP : P (d.sn.vs, d.sn.ls)) (hi : 0 ≤ i) (hi2 : i ≤ 2 ^ 41) :
    Fn env false 89 [.ptr p 0, .int .i64 i] s M = some (.agg [intsV (groupL chg d.sn.index (d.sn.vs, d.sn.ls) (g.get (g.base + 1) (i - g.base))).1, intsV (groupL chg d.sn.index (d.sn.vs, d.sn.ls) (g.get (g.base + 1) (i - g.base))).2], M) := by
  have hlo := hg.ok.lo
  have hhi := hg.ok.hi
  have w1 : IntKind.wrap .i64 (i + 1) = i + 1 := wrap_id (by omega) (by omega)
  have w2 : IntKind.wrap .i64 (i + 1 - (g.base + 1)) = i - g.base := by rw [wrap_id (by omega) (by omega)]; omega
  have r1 := fun s' M' (q1 : FreshM s' M') (q2 : Sub M M') => first_E s' M' q1 (hg.mono q2)
  have r2 := fun s' M' (q1 : FreshM s' M') (q2 : Sub M M') => get_E (g.base + 1) (i - g.base) s' M' q1 (hg.mono q2)
  have hsub : ∀ x ∈ g.get (g.base + 1) (i - g.base), x ∈ g.ents := fun x hx => by
    unfold Lg.get at hx
    split at hx
    · cases hx
    · exact List.mem_of_mem_drop (List.mem_of_mem_take hx)
  have hlen2 : (g.get (g.base + 1) (i - g.base)).length < 2 ^ 40 := by
    have := hg.ok.few
    unfold Lg.get
    split
    · simp
    · rw [List.length_take, List.length_drop]; omega
  generalize g.get (g.base + 1) (i - g.base) = l at *
  have hv := fun M' => (copiedV_ents M' l).rd
  have h' := h
  rw [Nd.cs_eq] at h'
  rw [Fn_body Tryz.func89 (by decide) rfl rfl]
  simp (maxDischargeDepth := 80) only [push_cast, Nat.reduceBEq, reduceIte, reduceCtorEq, Nat.reduceEqDiff, Nat.reduceAdd, Nat.reduceMul, Nat.reduceSub, Nat.reduceLeDiff, Nat.reduceLT, Nat.reducePow, Int.reduceToNat, Int.reduceLT, Int.reduceLE, Int.reduceEq, Int.reduceAdd, Int.reduceSub, Int.reduceNeg, h', Off_dn (Off_of hM h'), Off_ne (Off_of hM h'), Off_ne' (Off_of hM h'), r1, r2, w1, w2, (hv M).len, intsV_one, intsV_cells, fresh_dn hM, fresh_at hM]
  refine lp_rule (fun s1 j f M' => ∃ gr : Grp, P gr ∧ f 0 = .ptr p 0 ∧ f 4 = .ptr (0 :: 0 :: 0 :: s) 0 ∧ f 5 = .ptr (5 :: 0 :: 1 :: 0 :: s) 0 ∧ f 30 = copiedV l ∧ f 31 = .int .i64 l.length ∧ f 32 = .int .i64 j ∧
      groupL chg d.sn.index (d.sn.vs, d.sn.ls) l = groupL chg d.sn.index gr (l.drop j) ∧ M' (0 :: 0 :: 0 :: s) = some (.cells [.nils, .nils]) ∧ M' (5 :: 0 :: 1 :: 0 :: s) = some (.cells [intsV gr.1, intsV gr.2]) ∧ Sub M M' ∧ ∀ k, j ≤ k → FreshM (k :: s1) M') l.length ?_ (Nat.zero_le _) ?_ ?_
  · refine ⟨(d.sn.vs, d.sn.ls), hP, ?_, ?_, ?_, ?_, ?_, ?_, ?_, ?_, ?_, ?_, ?_⟩ <;> simp (maxDischargeDepth := 80) only [push_cast, Nat.reduceBEq, reduceIte, reduceCtorEq, Nat.reduceEqDiff, Nat.reduceAdd, Nat.reduceMul, Nat.reduceSub, Nat.reduceLeDiff, Nat.reduceLT, Nat.reducePow, Int.reduceToNat, Int.reduceLT, Int.reduceLE, Int.reduceEq, Int.reduceAdd, Int.reduceSub, Int.reduceNeg, fresh_dn hM, fresh_at hM]
    intro k _; simp (maxDischargeDepth := 80) only [push_cast, Nat.reduceBEq, reduceIte, reduceCtorEq, Nat.reduceEqDiff, Nat.reduceAdd, Nat.reduceMul, Nat.reduceSub, Nat.reduceLeDiff, Nat.reduceLT, Nat.reducePow, Int.reduceToNat, Int.reduceLT, Int.reduceLE, Int.reduceEq, Int.reduceAdd, Int.reduceSub, Int.reduceNeg, fresh_dn hM, fresh_at hM]
  · rintro j f M' hj ⟨gr, hPg, h0, h4, h5, h30, h31, h32, hr, hm0, hm5, hS, hF⟩ ih
    obtain ⟨q, _, _, hp1, _, _, hp2⟩ := (hv M).get j hj
    have hp3 := (hp2 M' hS).1
    have hjj : ((j : Int) < (l.length : Int)) = True := by simp; omega
    have hx : l.drop j = l[j] :: l.drop (j + 1) := List.drop_eq_getElem_cons hj
    have hFj := hF j (Nat.le_refl _)
    have h'' := hS _ _ h'
    obtain ⟨hP1, hch⟩ := hc l[j] (hsub _ (List.getElem_mem hj)) gr hPg
    rw [Ent.cells_eq] at hp3 hch
    by_cases c1 : d.sn.index < l[j].index
    · simp (maxDischargeDepth := 80) only [push_cast, Nat.reduceBEq, reduceIte, reduceCtorEq, Nat.reduceEqDiff, Nat.reduceAdd, Nat.reduceMul, Nat.reduceSub, Nat.reduceLeDiff, Nat.reduceLT, Nat.reducePow, Int.reduceToNat, Int.reduceLT, Int.reduceLE, Int.reduceEq, Int.reduceAdd, Int.reduceSub, Int.reduceNeg, h0, h4, h5, h30, h31, h32, hp1, hp3, hjj, h'', Off_dn (Off_of hFj h''), Off_ne (Off_of hFj h''), Off_ne' (Off_of hFj h''), hm5, Off_dn (Off_of hFj hm5), Off_ne (Off_of hFj hm5), Off_ne' (Off_of hFj hm5), hch, c1, one_data, data_cells, intsV_one, intsV_cells, fresh_dn hFj, fresh_at hFj, fresh_dn hM, fresh_at hM]
      refine ih _ _ ⟨chg gr l[j], hP1, ?_, ?_, ?_, ?_, ?_, ?_, ?_, ?_, ?_, ?_, ?_⟩
      · simp (maxDischargeDepth := 80) only [push_cast, Nat.reduceBEq, reduceIte, reduceCtorEq, Nat.reduceEqDiff, Nat.reduceAdd, Nat.reduceMul, Nat.reduceSub, Nat.reduceLeDiff, Nat.reduceLT, Nat.reducePow, Int.reduceToNat, Int.reduceLT, Int.reduceLE, Int.reduceEq, Int.reduceAdd, Int.reduceSub, Int.reduceNeg, h0]
      · simp (maxDischargeDepth := 80) only [push_cast, Nat.reduceBEq, reduceIte, reduceCtorEq, Nat.reduceEqDiff, Nat.reduceAdd, Nat.reduceMul, Nat.reduceSub, Nat.reduceLeDiff, Nat.reduceLT, Nat.reducePow, Int.reduceToNat, Int.reduceLT, Int.reduceLE, Int.reduceEq, Int.reduceAdd, Int.reduceSub, Int.reduceNeg, h4]
      · simp (maxDischargeDepth := 80) only [push_cast, Nat.reduceBEq, reduceIte, reduceCtorEq, Nat.reduceEqDiff, Nat.reduceAdd, Nat.reduceMul, Nat.reduceSub, Nat.reduceLeDiff, Nat.reduceLT, Nat.reducePow, Int.reduceToNat, Int.reduceLT, Int.reduceLE, Int.reduceEq, Int.reduceAdd, Int.reduceSub, Int.reduceNeg, h5]
      · simp (maxDischargeDepth := 80) only [push_cast, Nat.reduceBEq, reduceIte, reduceCtorEq, Nat.reduceEqDiff, Nat.reduceAdd, Nat.reduceMul, Nat.reduceSub, Nat.reduceLeDiff, Nat.reduceLT, Nat.reducePow, Int.reduceToNat, Int.reduceLT, Int.reduceLE, Int.reduceEq, Int.reduceAdd, Int.reduceSub, Int.reduceNeg, h30]
      · simp (maxDischargeDepth := 80) only [push_cast, Nat.reduceBEq, reduceIte, reduceCtorEq, Nat.reduceEqDiff, Nat.reduceAdd, Nat.reduceMul, Nat.reduceSub, Nat.reduceLeDiff, Nat.reduceLT, Nat.reducePow, Int.reduceToNat, Int.reduceLT, Int.reduceLE, Int.reduceEq, Int.reduceAdd, Int.reduceSub, Int.reduceNeg, h31]
      · simp (maxDischargeDepth := 80) only [push_cast, Nat.reduceBEq, reduceIte, reduceCtorEq, Nat.reduceEqDiff, Nat.reduceAdd, Nat.reduceMul, Nat.reduceSub, Nat.reduceLeDiff, Nat.reduceLT, Nat.reducePow, Int.reduceToNat, Int.reduceLT, Int.reduceLE, Int.reduceEq, Int.reduceAdd, Int.reduceSub, Int.reduceNeg, h32]
        exact congrArg (V.int IntKind.i64) (wrap_nat j (by omega))
      · rw [hr, hx, groupL, if_pos c1]
      · simp (maxDischargeDepth := 80) only [push_cast, Nat.reduceBEq, reduceIte, reduceCtorEq, Nat.reduceEqDiff, Nat.reduceAdd, Nat.reduceMul, Nat.reduceSub, Nat.reduceLeDiff, Nat.reduceLT, Nat.reducePow, Int.reduceToNat, Int.reduceLT, Int.reduceLE, Int.reduceEq, Int.reduceAdd, Int.reduceSub, Int.reduceNeg, hm0, Off_dn (Off_of hFj hm0), Off_ne (Off_of hFj hm0), Off_ne' (Off_of hFj hm0)]
      · simp (maxDischargeDepth := 80) only [push_cast, Nat.reduceBEq, reduceIte, reduceCtorEq, Nat.reduceEqDiff, Nat.reduceAdd, Nat.reduceMul, Nat.reduceSub, Nat.reduceLeDiff, Nat.reduceLT, Nat.reducePow, Int.reduceToNat, Int.reduceLT, Int.reduceLE, Int.reduceEq, Int.reduceAdd, Int.reduceSub, Int.reduceNeg, hm0, Off_dn (Off_of hFj hm0), Off_ne (Off_of hFj hm0), Off_ne' (Off_of hFj hm0)]
      · simp (maxDischargeDepth := 80) only [push_cast, Nat.reduceBEq, reduceIte, reduceCtorEq, Nat.reduceEqDiff, Nat.reduceAdd, Nat.reduceMul, Nat.reduceSub, Nat.reduceLeDiff, Nat.reduceLT, Nat.reducePow, Int.reduceToNat, Int.reduceLT, Int.reduceLE, Int.reduceEq, Int.reduceAdd, Int.reduceSub, Int.reduceNeg, hS, fresh_dn hM, fresh_at hM]
      · intro k hk
        simp (maxDischargeDepth := 80) only [push_cast, Nat.reduceBEq, reduceIte, reduceCtorEq, Nat.reduceEqDiff, Nat.reduceAdd, Nat.reduceMul, Nat.reduceSub, Nat.reduceLeDiff, Nat.reduceLT, Nat.reducePow, Int.reduceToNat, Int.reduceLT, Int.reduceLE, Int.reduceEq, Int.reduceAdd, Int.reduceSub, Int.reduceNeg, fresh_dn (hF k (by omega)), Off_deep (show k ≠ j by omega), eq_false (show ¬ k = j by omega), Off_of (hF k (by omega)) hm5]
    · simp (maxDischargeDepth := 80) only [push_cast, Nat.reduceBEq, reduceIte, reduceCtorEq, Nat.reduceEqDiff, Nat.reduceAdd, Nat.reduceMul, Nat.reduceSub, Nat.reduceLeDiff, Nat.reduceLT, Nat.reducePow, Int.reduceToNat, Int.reduceLT, Int.reduceLE, Int.reduceEq, Int.reduceAdd, Int.reduceSub, Int.reduceNeg, h0, h4, h5, h30, h31, h32, hp1, hp3, hjj, h'', Off_dn (Off_of hFj h''), Off_ne (Off_of hFj h''), Off_ne' (Off_of hFj h''), hm5, Off_dn (Off_of hFj hm5), Off_ne (Off_of hFj hm5), Off_ne' (Off_of hFj hm5), c1, one_data, data_cells, intsV_one, intsV_cells, fresh_dn hFj, fresh_at hFj, fresh_dn hM, fresh_at hM]
      refine ih _ _ ⟨gr, hPg, ?_, ?_, ?_, ?_, ?_, ?_, ?_, ?_, ?_, ?_, ?_⟩
      · simp (maxDischargeDepth := 80) only [push_cast, Nat.reduceBEq, reduceIte, reduceCtorEq, Nat.reduceEqDiff, Nat.reduceAdd, Nat.reduceMul, Nat.reduceSub, Nat.reduceLeDiff, Nat.reduceLT, Nat.reducePow, Int.reduceToNat, Int.reduceLT, Int.reduceLE, Int.reduceEq, Int.reduceAdd, Int.reduceSub, Int.reduceNeg, h0]
      · simp (maxDischargeDepth := 80) only [push_cast, Nat.reduceBEq, reduceIte, reduceCtorEq, Nat.reduceEqDiff, Nat.reduceAdd, Nat.reduceMul, Nat.reduceSub, Nat.reduceLeDiff, Nat.reduceLT, Nat.reducePow, Int.reduceToNat, Int.reduceLT, Int.reduceLE, Int.reduceEq, Int.reduceAdd, Int.reduceSub, Int.reduceNeg, h4]
      · simp (maxDischargeDepth := 80) only [push_cast, Nat.reduceBEq, reduceIte, reduceCtorEq, Nat.reduceEqDiff, Nat.reduceAdd, Nat.reduceMul, Nat.reduceSub, Nat.reduceLeDiff, Nat.reduceLT, Nat.reducePow, Int.reduceToNat, Int.reduceLT, Int.reduceLE, Int.reduceEq, Int.reduceAdd, Int.reduceSub, Int.reduceNeg, h5]
      · simp (maxDischargeDepth := 80) only [push_cast, Nat.reduceBEq, reduceIte, reduceCtorEq, Nat.reduceEqDiff, Nat.reduceAdd, Nat.reduceMul, Nat.reduceSub, Nat.reduceLeDiff, Nat.reduceLT, Nat.reducePow, Int.reduceToNat, Int.reduceLT, Int.reduceLE, Int.reduceEq, Int.reduceAdd, Int.reduceSub, Int.reduceNeg, h30]
      · simp (maxDischargeDepth := 80) only [push_cast, Nat.reduceBEq, reduceIte, reduceCtorEq, Nat.reduceEqDiff, Nat.reduceAdd, Nat.reduceMul, Nat.reduceSub, Nat.reduceLeDiff, Nat.reduceLT, Nat.reducePow, Int.reduceToNat, Int.reduceLT, Int.reduceLE, Int.reduceEq, Int.reduceAdd, Int.reduceSub, Int.reduceNeg, h31]
      · simp (maxDischargeDepth := 80) only [push_cast, Nat.reduceBEq, reduceIte, reduceCtorEq, Nat.reduceEqDiff, Nat.reduceAdd, Nat.reduceMul, Nat.reduceSub, Nat.reduceLeDiff, Nat.reduceLT, Nat.reducePow, Int.reduceToNat, Int.reduceLT, Int.reduceLE, Int.reduceEq, Int.reduceAdd, Int.reduceSub, Int.reduceNeg, h32]
        exact congrArg (V.int IntKind.i64) (wrap_nat j (by omega))
      · rw [hr, hx, groupL, if_neg c1]
      · simp (maxDischargeDepth := 80) only [push_cast, Nat.reduceBEq, reduceIte, reduceCtorEq, Nat.reduceEqDiff, Nat.reduceAdd, Nat.reduceMul, Nat.reduceSub, Nat.reduceLeDiff, Nat.reduceLT, Nat.reducePow, Int.reduceToNat, Int.reduceLT, Int.reduceLE, Int.reduceEq, Int.reduceAdd, Int.reduceSub, Int.reduceNeg, hm0, Off_dn (Off_of hFj hm0), Off_ne (Off_of hFj hm0), Off_ne' (Off_of hFj hm0)]
      · simp (maxDischargeDepth := 80) only [push_cast, Nat.reduceBEq, reduceIte, reduceCtorEq, Nat.reduceEqDiff, Nat.reduceAdd, Nat.reduceMul, Nat.reduceSub, Nat.reduceLeDiff, Nat.reduceLT, Nat.reducePow, Int.reduceToNat, Int.reduceLT, Int.reduceLE, Int.reduceEq, Int.reduceAdd, Int.reduceSub, Int.reduceNeg, hm5, Off_dn (Off_of hFj hm5), Off_ne (Off_of hFj hm5), Off_ne' (Off_of hFj hm5)]
      · simp (maxDischargeDepth := 80) only [push_cast, Nat.reduceBEq, reduceIte, reduceCtorEq, Nat.reduceEqDiff, Nat.reduceAdd, Nat.reduceMul, Nat.reduceSub, Nat.reduceLeDiff, Nat.reduceLT, Nat.reducePow, Int.reduceToNat, Int.reduceLT, Int.reduceLE, Int.reduceEq, Int.reduceAdd, Int.reduceSub, Int.reduceNeg, hS, fresh_dn hM, fresh_at hM]
      · intro k hk
        simp (maxDischargeDepth := 80) only [push_cast, Nat.reduceBEq, reduceIte, reduceCtorEq, Nat.reduceEqDiff, Nat.reduceAdd, Nat.reduceMul, Nat.reduceSub, Nat.reduceLeDiff, Nat.reduceLT, Nat.reducePow, Int.reduceToNat, Int.reduceLT, Int.reduceLE, Int.reduceEq, Int.reduceAdd, Int.reduceSub, Int.reduceNeg, fresh_dn (hF k (by omega)), Off_deep (show k ≠ j by omega), eq_false (show ¬ k = j by omega)]
  · rintro f M' ⟨gr, hPg, h0, h4, h5, h30, h31, h32, hr, hm0, hm5, hS, hF⟩
    have hjj : ((l.length : Int) < (l.length : Int)) = False := by simp
    simp (maxDischargeDepth := 80) only [push_cast, Nat.reduceBEq, reduceIte, reduceCtorEq, Nat.reduceEqDiff, Nat.reduceAdd, Nat.reduceMul, Nat.reduceSub, Nat.reduceLeDiff, Nat.reduceLT, Nat.reducePow, Int.reduceToNat, Int.reduceLT, Int.reduceLE, Int.reduceEq, Int.reduceAdd, Int.reduceSub, Int.reduceNeg, h0, h4, h5, h30, h31, h32, hjj, hm0, hm5, hS, intsV_one, intsV_cells, fresh_dn hM, fresh_at hM]
    rw [hr]
    simp [groupL]
end Go.Ab.R
