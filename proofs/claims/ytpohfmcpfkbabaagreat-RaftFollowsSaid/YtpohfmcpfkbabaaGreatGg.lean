/- A result is there, and something holds of it: the evaluator's goals, a call at a time. Conditions: none. -/
import Derived.Test.YtpohfmcpfkbabaaGreatAbSim
import Derived.Test.YtpohfmcpfkbabaaGreatGc
import Derived.Test.YtpohfmcpfkbabaaGreatGe
set_option linter.unusedSimpArgs false
set_option linter.unusedVariables false
set_option maxRecDepth 100000
namespace Go.Ab
/-- there is a result, and that holds of it -/
def Okk {α : Type} (X : Option α) (Q : α → Prop) : Prop := ∃ a, X = some a ∧ Q a
theorem Okk.bind {α β : Type} {X : Option α} {K : α → Option β} {P : α → Prop} {Q : β → Prop} (h : Okk X P) (k : ∀ a, P a → Okk (K a) Q) : Okk (X.bind K) Q := by
  obtain ⟨a, rfl, ha⟩ := h
  exact k a ha
theorem Okk.call {α β γ : Type} {X : Option α} {K : α → Option β} {K2 : β → Option γ} {P : α → Prop} {Q : γ → Prop} (h : Okk X P) (k : ∀ a, P a → Okk ((K a).bind K2) Q) : Okk ((X.bind K).bind K2) Q := by
  obtain ⟨a, rfl, ha⟩ := h
  exact k a ha
theorem Okk.call3 {α β γ δ : Type} {X : Option α} {K : α → Option β} {K2 : β → Option γ} {K3 : γ → Option δ} {P : α → Prop} {Q : δ → Prop} (h : Okk X P) (k : ∀ a, P a → Okk (((K a).bind K2).bind K3) Q) : Okk (((X.bind K).bind K2).bind K3) Q := by
  obtain ⟨a, rfl, ha⟩ := h
  exact k a ha
theorem Okk_cong {α : Type} {X X' : Option α} (h : X = X') (Q : α → Prop) : Okk X Q = Okk X' Q := by rw [h]
theorem Okk_some {α : Type} (a : α) (Q : α → Prop) : Okk (some a) Q = Q a := by
  apply propext
  constructor
  · rintro ⟨b, h, hq⟩
    cases h; exact hq
  · intro h; exact ⟨a, rfl, h⟩
theorem Okk.mono {α : Type} {X : Option α} {P Q : α → Prop} (h : Okk X P) (k : ∀ a, P a → Q a) : Okk X Q := by
  obtain ⟨a, e, ha⟩ := h; exact ⟨a, e, k a ha⟩
theorem Okk.eq {α : Type} {X : Option α} {a : α} (h : X = some a) {Q : α → Prop} (hq : Q a) : Okk X Q := ⟨a, h, hq⟩
theorem Okk.of {α β : Type} {X : Option (α × β)} {P : α × β → Prop} (h : ∃ v M', X = some (v, M') ∧ P (v, M')) : Okk X P := by
  obtain ⟨v, M', e, q⟩ := h; exact ⟨_, e, q⟩
theorem Okk_map {α β : Type} (X : Option α) (f : α → β) (Q : β → Prop) : Okk (X.map f) Q = Okk X fun a => Q (f a) := by
  cases X with
  | none =>
    apply propext
    constructor
    · rintro ⟨_, h, _⟩; cases h
    · rintro ⟨_, h, _⟩; cases h
  | some a => simp only [Option.map_some, Okk_some]
/-- a loop, by what grows less -/
theorem lp_ok {E : Env} {cur : FuncId} {a : Code} {s : Id} {k : List It} {β : Type} {K : Tm × Mem → Option β} {Q : β → Prop} (I : Nat → Nat → Tm → Mem → Prop) {m j : Nat} {f : Tm} {M : Mem} (h0 : I m j f M)
    (step : ∀ m j f M, I m j f M → (∀ m' f' M', m' < m → I m' (j + 1) f' M' → Okk ((run E cur (.lp a (j + 1) s :: k) f' M').bind K) Q) → Okk ((run E cur (.code a (j :: s) :: .lp a (j + 1) s :: k) f M).bind K) Q) : Okk ((run E cur (.lp a j s :: k) f M).bind K) Q := by
  induction m using Nat.strongRecOn generalizing j f M with
  | _ m ih =>
    rw [run_lp]
    exact step m j f M h0 (fun m' f' M' hm h => ih m' hm h)
/-- where the ways of a test come together -/
theorem join_cs {E : Env} {cur : FuncId} {id : Nat} {a b : Code} {s1 s2 : Id} {k : List It} {β : Type} {K : Tm × Mem → Option β} {Q : β → Prop} {f f2 : Tm} {M M2 : Mem} {v : V} {h} (I : Tm → Mem → Prop)
    (fin : ∀ f' M', I f' M' → Okk ((run E cur k f' M').bind K) Q)
    (body : ∀ k', (∀ f' M', I f' M' → Okk ((run E cur k' f' M').bind K) Q) → Okk ((csel v (run E cur (.code a s1 :: .blk id :: k') f M) (run E cur (.code b s2 :: .blk id :: k') f2 M2) ⟨⟩).bind K) Q) : Okk ((csel v (run E cur (.code a s1 :: .blk id :: k) f M) (run E cur (.code b s2 :: .blk id :: k) f2 M2) h).bind K) Q := body k fin
/-- .. that are no block's -/
theorem join_c0 {E : Env} {cur : FuncId} {a b : Code} {s1 s2 : Id} {k : List It} {β : Type} {K : Tm × Mem → Option β} {Q : β → Prop} {f f2 : Tm} {M M2 : Mem} {v : V} {h} (I : Tm → Mem → Prop)
    (fin : ∀ f' M', I f' M' → Okk ((run E cur k f' M').bind K) Q)
    (body : ∀ k', (∀ f' M', I f' M' → Okk ((run E cur k' f' M').bind K) Q) → Okk ((csel v (run E cur (.code a s1 :: k') f M) (run E cur (.code b s2 :: k') f2 M2) ⟨⟩).bind K) Q) : Okk ((csel v (run E cur (.code a s1 :: k) f M) (run E cur (.code b s2 :: k) f2 M2) h).bind K) Q := body k fin
theorem natCast_nn (n : Nat) : (0 ≤ (n : Int)) = True := eq_true (Int.natCast_nonneg n)
attribute [push_cast] Okk_some Okk_map natCast_nn Int.toNat_natCast Int.le_refl imp_self implies_true Nat.sub_zero Nat.le_add_right
attribute [congr] Okk_cong
end Go.Ab

/- Groups: what a change makes of one, and that it may be one. Conditions: none. -/
namespace Go.Ab.R
open Go Go.Proofs
set_option maxRecDepth 100000

theorem rises_iff (l : List Int) (a : Int) : risesL l a = true ↔ (∀ x ∈ l, a < x ∧ x ≤ 15) ∧ l.Pairwise (· < ·) := by
  induction l generalizing a with
  | nil => simp [risesL]
  | cons x l ih =>
    simp only [risesL, List.mem_cons, forall_eq_or_imp, List.pairwise_cons]
    by_cases h : x ≤ a ∨ 15 < x
    · rw [if_pos h]; simp; omega
    · rw [if_neg h, ih]
      constructor
      · rintro ⟨h1, h2⟩
        exact ⟨⟨by omega, fun y hy => ⟨by have := (h1 y hy).1; omega, (h1 y hy).2⟩⟩, fun y hy => (h1 y hy).1, h2⟩
      · rintro ⟨⟨h1, h2⟩, h3, h4⟩
        exact ⟨fun y hy => ⟨h3 y hy, (h2 y hy).2⟩, h4⟩
theorem count0_iff (l l2 : List Int) : decide ((countL l l2 : Int) = 0) = true ↔ ∀ x ∈ l, x ∉ l2 := by
  have : (countL l l2 : Int) = 0 ↔ countL l l2 = 0 := by omega
  simp only [decide_eq_true_eq, this, countL, List.countP_eq_zero]
  simp
theorem right_iff (l l2 : List Int) : rightL l l2 = true ↔ risesL l 0 = true ∧ risesL l2 0 = true ∧ 0 < l.length ∧ ∀ x ∈ l, x ∉ l2 := by
  simp only [rightL, Bool.and_eq_true, count0_iff]
  constructor
  · rintro ⟨⟨⟨a, b⟩, c⟩, d⟩
    exact ⟨a, b, by simpa using c, d⟩
  · rintro ⟨a, b, c, d⟩
    exact ⟨⟨⟨a, b⟩, by simpa using c⟩, d⟩

theorem sortI_perm (l : List Int) : (sortI l).Perm l := List.mergeSort_perm _ _
theorem sortI_sorted (l : List Int) : (sortI l).Pairwise (· ≤ ·) := by
  have := List.pairwise_mergeSort (le := fun x y : Int => decide (x ≤ y)) (by intro a b c h1 h2; simp at *; omega) (by intro a b; simp; omega) l
  exact this.imp (by intro a b h; simpa using h)
theorem sortI_len (l : List Int) : (sortI l).length = l.length := (sortI_perm l).length_eq
theorem sort_rises {l : List Int} (h : ∀ x ∈ l, 0 < x ∧ x ≤ 15) (hn : l.Nodup) : risesL (sortI l) 0 = true := by
  rw [rises_iff]
  refine ⟨fun x hx => h x ((sortI_perm l).mem_iff.1 hx), ?_⟩
  have h1 := sortI_sorted l
  have h2 : (sortI l).Nodup := (sortI_perm l).nodup_iff.2 hn
  exact (h1.and h2).imp (by intro a b ⟨h, h'⟩; omega)
theorem rises_nodup {l : List Int} (h : risesL l 0 = true) : l.Nodup := ((rises_iff l 0).1 h).2.imp (by intro a b h; omega)
theorem rises_len {l : List Int} (h : risesL l 0 = true) : l.length ≤ 15 := by
  have key : ∀ (l : List Int) (a : Nat), risesL l a = true → a ≤ 15 → l.length + a ≤ 15 := by
    intro l
    induction l with
    | nil => intro a _ h; simpa using h
    | cons x l ih =>
      intro a h1 h2
      simp only [risesL] at h1
      split at h1
      · cases h1
      · rename_i hx
        have e : x = ((x.toNat : Nat) : Int) := by omega
        rw [e] at h1
        have := ih x.toNat h1 (by omega)
        simp only [List.length_cons]
        omega
  simpa using key l 0 h (by omega)

/-- a group in which one node is another thing -/
def changeL (g : Grp) (kind node : Int) : Option Grp :=
  if rightL (intsL g.1) (intsL g.2) = true ∧ 1 ≤ kind ∧ kind ≤ 3 ∧ 1 ≤ node ∧ node ≤ 15 then
    let vs := g.1.map fun l => l.filter fun x => !decide (x = node)
    let ls := g.2.map fun l => l.filter fun x => !decide (x = node)
    let votes := (intsL g.1).contains node
    let learns := (intsL g.2).contains node
    if kind = 1 then (if !votes && !learns then some (vs.map sortI, some (sortI (intsL ls ++ [node]))) else none)
    else if kind = 2 then (if learns then some (some (sortI (intsL vs ++ [node])), ls.map sortI) else none)
    else (if learns || (votes && decide (0 < ((intsL vs).length : Int))) then some (vs.map sortI, ls.map sortI) else none)
  else none

theorem intsL_map (o : Option (List Int)) (f : List Int → List Int) (h : f [] = []) : intsL (o.map f) = f (intsL o) := by
  cases o with
  | none => exact h.symm
  | some l => rfl
theorem sortI_nil : sortI [] = [] := by simp [sortI]

theorem change_right {g h : Grp} {kind node : Int} (e : changeL g kind node = some h) : rightL (intsL h.1) (intsL h.2) = true := by
  unfold changeL at e
  split at e
  rotate_left
  · cases e
  rename_i hc
  obtain ⟨hr, _, _, hn1, hn2⟩ := hc
  rw [right_iff] at hr
  obtain ⟨h1, h2, h3, h4⟩ := hr
  have m1 := ((rises_iff _ _).1 h1).1
  have m2 := ((rises_iff _ _).1 h2).1
  have n1 := rises_nodup h1
  have n2 := rises_nodup h2
  have d1 : ((intsL g.1).filter fun x => !decide (x = node)).Nodup := n1.filter _
  have d2 : ((intsL g.2).filter fun x => !decide (x = node)).Nodup := n2.filter _
  have a1 : ∀ l : List Int, l.Nodup → (∀ x ∈ l, 0 < x ∧ x ≤ 15) → risesL (sortI (l.filter fun x => !decide (x = node))) 0 = true := fun l hn hm => sort_rises (fun x hx => hm x ((List.mem_filter.1 hx).1)) (hn.filter _)
  have a2 : ∀ l : List Int, l.Nodup → (∀ x ∈ l, 0 < x ∧ x ≤ 15) → risesL (sortI ((l.filter fun x => !decide (x = node)) ++ [node])) 0 = true := fun l hn hm => by
    refine sort_rises (fun x hx => ?_) ?_
    · rcases List.mem_append.1 hx with q | q
      · exact hm x ((List.mem_filter.1 q).1)
      · rw [List.mem_singleton.1 q]; omega
    · rw [List.nodup_append]
      refine ⟨hn.filter _, by simp, ?_⟩
      intro a ha b hb
      rw [List.mem_singleton.1 hb]
      intro q
      subst q
      simp at ha
  have f0 : ∀ l : Option (List Int), intsL ((l.map fun l => l.filter fun x => !decide (x = node)).map sortI) = sortI ((intsL l).filter fun x => !decide (x = node)) := fun l => by
    rw [intsL_map _ _ sortI_nil, intsL_map _ _ rfl]
  have f1 : ∀ l : Option (List Int), intsL (l.map fun l => l.filter fun x => !decide (x = node)) = (intsL l).filter fun x => !decide (x = node) := fun l => intsL_map _ _ rfl
  have f2 : ∀ l : List Int, intsL (some l) = l := fun _ => rfl
  simp only at e
  split at e
  · split at e
    · rename_i hk hm
      simp only [Option.some.injEq] at e
      subst e
      simp only [f0, f1, f2]
      rw [right_iff]
      refine ⟨a1 _ n1 m1, a2 _ n2 m2, ?_, ?_⟩
      · rw [sortI_len]
        have : (intsL g.1).filter (fun x => !decide (x = node)) = intsL g.1 := by
          rw [List.filter_eq_self]
          intro a ha
          simp at hm ⊢
          rintro rfl
          exact hm.1 ha
        rw [this]; exact h3
      · intro x hx
        rw [(sortI_perm _).mem_iff] at hx ⊢
        simp at hx ⊢
        exact ⟨fun q => absurd q (h4 x hx.1), hx.2⟩
    · cases e
  · split at e
    · split at e
      · simp only [Option.some.injEq] at e
        subst e
        simp only [f0, f1, f2]
        rw [right_iff]
        refine ⟨a2 _ n1 m1, a1 _ n2 m2, ?_, ?_⟩
        · rw [sortI_len]; simp
        · intro x hx
          rw [(sortI_perm _).mem_iff] at hx ⊢
          simp at hx ⊢
          rcases hx with q | q
          · exact fun q' => absurd q' (h4 x q.1)
          · intro _; exact q
      · cases e
    · split at e
      · rename_i hm
        simp only [Option.some.injEq] at e
        subst e
        simp only [f0]
        rw [right_iff]
        refine ⟨a1 _ n1 m1, a1 _ n2 m2, ?_, ?_⟩
        · rw [sortI_len]
          rw [f1] at hm
          simp only [Bool.or_eq_true, Bool.and_eq_true, decide_eq_true_eq] at hm
          rcases hm with q | q
          · have : (intsL g.1).filter (fun x => !decide (x = node)) = intsL g.1 := by
              rw [List.filter_eq_self]
              intro a ha
              simp at q ⊢
              rintro rfl
              exact h4 a ha q
            rw [this]; exact h3
          · omega
        · intro x hx
          rw [(sortI_perm _).mem_iff] at hx ⊢
          simp at hx ⊢
          exact fun q => absurd q (h4 x hx.1)
      · cases e
end Go.Ab.R

/- Nodes taken out of a list. Conditions: none. -/
namespace Go.Ab.R
open Go Go.Proofs
set_option maxRecDepth 100000

theorem this_E (x a : Int) (i : Id) (s : Id) (M : Mem) (hi : M i = some (.cells [.int .i64 a])) : Fn env false 116 [.int .i64 x, .ptr i 0] s M = some (.bool (decide (x = a)), M) := by
  rw [Fn_body Tryz.func116 (by decide) rfl rfl]
  simp (maxDischargeDepth := 80) only [push_cast, Nat.reduceBEq, reduceIte, reduceCtorEq, Nat.reduceEqDiff, Nat.reduceAdd, Nat.reduceMul, Nat.reduceSub, Nat.reduceLeDiff, Nat.reduceLT, Nat.reducePow, Int.reduceToNat, Int.reduceLT, Int.reduceLE, Int.reduceEq, Int.reduceAdd, Int.reduceSub, Int.reduceNeg, hi]

def idxA : List Int → Int → Nat → Int
  | [], _, _ => -1
  | x :: l, a, j => if x = a then j else idxA l a (j + 1)

theorem idxA_E (v : V) (l : List Int) (a : Int) (i : Id) (s : Id) (M : Mem) (hM : FreshM s M) (hv : RdI M v l) (hi : M i = some (.cells [.int .i64 a])) :
    Fn env false 166 [v, .fn (.func 116) [] [.ptr i 0]] s M = some (.int .i64 (idxA l a 0), M) := by
  have hl := hv.small
  rw [Fn_body Tryz.func166 (by decide) rfl rfl]
  simp (maxDischargeDepth := 80) only [push_cast, Nat.reduceBEq, reduceIte, reduceCtorEq, Nat.reduceEqDiff, Nat.reduceAdd, Nat.reduceMul, Nat.reduceSub, Nat.reduceLeDiff, Nat.reduceLT, Nat.reducePow, Int.reduceToNat, Int.reduceLT, Int.reduceLE, Int.reduceEq, Int.reduceAdd, Int.reduceSub, Int.reduceNeg, hv.len]
  refine lp_rule (fun s1 j f M' => f 0 = v ∧ f 1 = .fn (.func 116) [] [.ptr i 0] ∧ f 7 = .int .i64 l.length ∧ f 8 = .int .i64 j ∧ idxA l a 0 = idxA (l.drop j) a j ∧ M' = M) l.length ?_ (Nat.zero_le _) ?_ ?_
  · refine ⟨?_, ?_, ?_, ?_, ?_, ?_⟩ <;> simp (maxDischargeDepth := 80) only [push_cast, Nat.reduceBEq, reduceIte, reduceCtorEq, Nat.reduceEqDiff, Nat.reduceAdd, Nat.reduceMul, Nat.reduceSub, Nat.reduceLeDiff, Nat.reduceLT, Nat.reducePow, Int.reduceToNat, Int.reduceLT, Int.reduceLE, Int.reduceEq, Int.reduceAdd, Int.reduceSub, Int.reduceNeg]
  · rintro j f M' hj ⟨h0, h1, h7, h8, hr, rfl⟩ ih
    obtain ⟨p, hp1, hp2⟩ := hv.get j hj
    have hp3 := hp2 M' (fun _ _ e => e)
    have hjj : ((j : Int) < (l.length : Int)) = True := by simp; omega
    have hx : l.drop j = l[j] :: l.drop (j + 1) := List.drop_eq_getElem_cons hj
    have ht := fun x s' => this_E x a i s' M' hi
    by_cases c1 : l[j] = a
    · have e : idxA l a 0 = j := by rw [hr, hx, idxA, if_pos c1]
      simp (maxDischargeDepth := 80) only [push_cast, Nat.reduceBEq, reduceIte, reduceCtorEq, Nat.reduceEqDiff, Nat.reduceAdd, Nat.reduceMul, Nat.reduceSub, Nat.reduceLeDiff, Nat.reduceLT, Nat.reducePow, Int.reduceToNat, Int.reduceLT, Int.reduceLE, Int.reduceEq, Int.reduceAdd, Int.reduceSub, Int.reduceNeg, h0, h1, h7, h8, hp1, hp3, hjj, ht, c1, e, fresh_dn hM, fresh_at hM]
    · simp (maxDischargeDepth := 80) only [push_cast, Nat.reduceBEq, reduceIte, reduceCtorEq, Nat.reduceEqDiff, Nat.reduceAdd, Nat.reduceMul, Nat.reduceSub, Nat.reduceLeDiff, Nat.reduceLT, Nat.reducePow, Int.reduceToNat, Int.reduceLT, Int.reduceLE, Int.reduceEq, Int.reduceAdd, Int.reduceSub, Int.reduceNeg, h0, h1, h7, h8, hp1, hp3, hjj, ht, c1, fresh_dn hM, fresh_at hM]
      refine ih _ _ ⟨?_, ?_, ?_, ?_, ?_, rfl⟩
      · simp (maxDischargeDepth := 80) only [push_cast, Nat.reduceBEq, reduceIte, reduceCtorEq, Nat.reduceEqDiff, Nat.reduceAdd, Nat.reduceMul, Nat.reduceSub, Nat.reduceLeDiff, Nat.reduceLT, Nat.reducePow, Int.reduceToNat, Int.reduceLT, Int.reduceLE, Int.reduceEq, Int.reduceAdd, Int.reduceSub, Int.reduceNeg, h0]
      · simp (maxDischargeDepth := 80) only [push_cast, Nat.reduceBEq, reduceIte, reduceCtorEq, Nat.reduceEqDiff, Nat.reduceAdd, Nat.reduceMul, Nat.reduceSub, Nat.reduceLeDiff, Nat.reduceLT, Nat.reducePow, Int.reduceToNat, Int.reduceLT, Int.reduceLE, Int.reduceEq, Int.reduceAdd, Int.reduceSub, Int.reduceNeg, h1]
      · simp (maxDischargeDepth := 80) only [push_cast, Nat.reduceBEq, reduceIte, reduceCtorEq, Nat.reduceEqDiff, Nat.reduceAdd, Nat.reduceMul, Nat.reduceSub, Nat.reduceLeDiff, Nat.reduceLT, Nat.reducePow, Int.reduceToNat, Int.reduceLT, Int.reduceLE, Int.reduceEq, Int.reduceAdd, Int.reduceSub, Int.reduceNeg, h7]
      · simp (maxDischargeDepth := 80) only [push_cast, Nat.reduceBEq, reduceIte, reduceCtorEq, Nat.reduceEqDiff, Nat.reduceAdd, Nat.reduceMul, Nat.reduceSub, Nat.reduceLeDiff, Nat.reduceLT, Nat.reducePow, Int.reduceToNat, Int.reduceLT, Int.reduceLE, Int.reduceEq, Int.reduceAdd, Int.reduceSub, Int.reduceNeg, h8]
        exact congrArg (V.int IntKind.i64) (wrap_nat j (by omega))
      · rw [hr, hx, idxA, if_neg c1]
  · rintro f M' ⟨h0, h1, h7, h8, hr, rfl⟩
    have hjj : ((l.length : Int) < (l.length : Int)) = False := by simp
    simp (maxDischargeDepth := 80) only [push_cast, Nat.reduceBEq, reduceIte, reduceCtorEq, Nat.reduceEqDiff, Nat.reduceAdd, Nat.reduceMul, Nat.reduceSub, Nat.reduceLeDiff, Nat.reduceLT, Nat.reducePow, Int.reduceToNat, Int.reduceLT, Int.reduceLE, Int.reduceEq, Int.reduceAdd, Int.reduceSub, Int.reduceNeg, h0, h1, h7, h8, hjj]
    rw [hr]
    simp [idxA]

def wout (l : List Int) (a : Int) : List Int := l.filter fun x => !decide (x = a)
theorem wout_hit (l : List Int) (x a : Int) (h : x = a) : wout (l ++ [x]) a = wout l a := by simp [wout, List.filter_append, h]
theorem wout_miss (l : List Int) (x a : Int) (h : x ≠ a) : wout (l ++ [x]) a = wout l a ++ [x] := by simp [wout, List.filter_append, h]
theorem idxA_none (l : List Int) (a : Int) (j : Nat) (h : idxA l a j = -1) : wout l a = l := by
  induction l generalizing j with
  | nil => rfl
  | cons x l ih =>
    simp only [idxA] at h
    split at h
    · omega
    · rename_i hx
      simp only [wout, List.filter_cons, hx, decide_false, Bool.not_false, if_true]
      exact congrArg (x :: ·) (ih (j + 1) h)
theorem idxA_some (l : List Int) (a : Int) (j : Nat) (h : idxA l a j ≠ -1) : ∃ k, k < l.length ∧ idxA l a j = j + k ∧ wout (l.take (k + 1)) a = l.take k ∧ l[k]? = some a := by
  induction l generalizing j with
  | nil => exact absurd rfl h
  | cons x l ih =>
    simp only [idxA] at h ⊢
    split
    · rename_i hx
      exact ⟨0, by simp, by simp, by simp [wout, hx], by simp [hx]⟩
    · rename_i hx
      rw [if_neg hx] at h
      obtain ⟨k, h1, h2, h3, h4⟩ := ih (j + 1) h
      refine ⟨k + 1, by simp; omega, by rw [h2]; omega, ?_, by simpa using h4⟩
      simp only [List.take_succ_cons, wout, List.filter_cons, hx, decide_false, Bool.not_false, if_true]
      exact congrArg (x :: ·) h3

theorem map_int (l : List Int) (j : Nat) : (l.map intV)[j]? = (l[j]?).map intV := List.getElem?_map

theorem set_get (l : List V) (i : Nat) (v : V) (h : i < l.length) : splice l i [v] = l.set i v := by
  simp only [splice, List.length_singleton]
  rw [List.set_eq_take_append_cons_drop, if_pos h]
  simp

theorem repeat_int (n : Nat) : repeatV [V.int .i64 0] n = (List.replicate n (0 : Int)).map intV := by
  induction n with
  | zero => rfl
  | succ n ih => simp only [repeatV, ih, List.replicate_succ, List.map_cons]; rfl

theorem delete_E (l : List Int) (a : Int) (i p : Id) (s : Id) (M : Mem) (hM : FreshM s M) (hl : l.length < 2 ^ 40) (hi : M i = some (.cells (l.map intV))) (hp : M p = some (.cells [.int .i64 a])) (hpi : p ≠ i) :
    Okk (Fn env false 117 [.sl i 0 l.length 1 none, .fn (.func 116) [] [.ptr p 0]] s M) fun x => ∃ Z : List Int, (wout l a).length + Z.length = l.length ∧ x = (.sl i 0 (wout l a).length 1 none, M.set i (.cells ((wout l a ++ Z).map intV))) := by
  have e1 : (p = i) = False := eq_false hpi
  have hrd : RdI M (.sl i 0 l.length 1 none) l := (IntsV.sl i none l hi).rd (by simp only [intsL]; omega)
  have r1 := fun s' (q1 : FreshM s' M) => idxA_E (.sl i 0 l.length 1 none) l a p s' M q1 hrd hp
  by_cases c0 : idxA l a 0 = -1
  · have hx : (wout l a).length + ([] : List Int).length = l.length := by simp [idxA_none l a 0 c0]
    rw [Fn_body Tryz.func117 (by decide) rfl rfl]
    simp (maxDischargeDepth := 80) only [push_cast, Nat.reduceBEq, reduceIte, reduceCtorEq, Nat.reduceEqDiff, Nat.reduceAdd, Nat.reduceMul, Nat.reduceSub, Nat.reduceLeDiff, Nat.reduceLT, Nat.reducePow, Int.reduceToNat, Int.reduceLT, Int.reduceLE, Int.reduceEq, Int.reduceAdd, Int.reduceSub, Int.reduceNeg, r1, c0, fresh_dn hM, fresh_at hM]
    refine ⟨[], hx, ?_⟩
    rw [idxA_none l a 0 c0]
    congr 1
    funext q
    simp only [Mem.set]
    split
    · rename_i h; rw [h, hi]; simp
    · rfl
  · obtain ⟨k, hk1, hk2, hk3, hk4⟩ := idxA_some l a 0 c0
    have hk2' : idxA l a 0 = (k : Int) := by rw [hk2]; simp
    have wk : IntKind.wrap .i64 ((k : Int) + 1) = ((k + 1 : Nat) : Int) := wrap_nat k (by omega)
    have hkne : ((k : Int) = -1) = False := eq_false (by omega)
    rw [Fn_body Tryz.func117 (by decide) rfl rfl]
    simp (maxDischargeDepth := 80) only [push_cast, Nat.reduceBEq, reduceIte, reduceCtorEq, Nat.reduceEqDiff, Nat.reduceAdd, Nat.reduceMul, Nat.reduceSub, Nat.reduceLeDiff, Nat.reduceLT, Nat.reducePow, Int.reduceToNat, Int.reduceLT, Int.reduceLE, Int.reduceEq, Int.reduceAdd, Int.reduceSub, Int.reduceNeg, r1, hk2', hkne, wk, fresh_dn hM, fresh_at hM]
    refine lp_ok (fun m r f M' => ∃ (n : Nat) (X : List Int), n + m = l.length ∧ X.length + (wout (l.take n) a).length = n ∧ f 0 = .sl i 0 l.length 1 none ∧ f 1 = .fn (.func 116) [] [.ptr p 0] ∧ f 5 = .int .i64 (wout (l.take n) a).length ∧ f 6 = .int .i64 n ∧
      M' = M.set i (.cells ((wout (l.take n) a ++ X ++ l.drop n).map intV))) (m := l.length - (k + 1)) ?_ ?_
    · refine ⟨k + 1, [a], by omega, ?_, ?_, ?_, ?_, ?_, ?_⟩
      · rw [hk3]; simp; omega
      · simp (maxDischargeDepth := 80) only [push_cast, Nat.reduceBEq, reduceIte, reduceCtorEq, Nat.reduceEqDiff, Nat.reduceAdd, Nat.reduceMul, Nat.reduceSub, Nat.reduceLeDiff, Nat.reduceLT, Nat.reducePow, Int.reduceToNat, Int.reduceLT, Int.reduceLE, Int.reduceEq, Int.reduceAdd, Int.reduceSub, Int.reduceNeg]
      · simp (maxDischargeDepth := 80) only [push_cast, Nat.reduceBEq, reduceIte, reduceCtorEq, Nat.reduceEqDiff, Nat.reduceAdd, Nat.reduceMul, Nat.reduceSub, Nat.reduceLeDiff, Nat.reduceLT, Nat.reducePow, Int.reduceToNat, Int.reduceLT, Int.reduceLE, Int.reduceEq, Int.reduceAdd, Int.reduceSub, Int.reduceNeg]
      · simp (maxDischargeDepth := 80) only [push_cast, Nat.reduceBEq, reduceIte, reduceCtorEq, Nat.reduceEqDiff, Nat.reduceAdd, Nat.reduceMul, Nat.reduceSub, Nat.reduceLeDiff, Nat.reduceLT, Nat.reducePow, Int.reduceToNat, Int.reduceLT, Int.reduceLE, Int.reduceEq, Int.reduceAdd, Int.reduceSub, Int.reduceNeg]; rw [hk3]; simp; try omega
      · simp (maxDischargeDepth := 80) only [push_cast, Nat.reduceBEq, reduceIte, reduceCtorEq, Nat.reduceEqDiff, Nat.reduceAdd, Nat.reduceMul, Nat.reduceSub, Nat.reduceLeDiff, Nat.reduceLT, Nat.reducePow, Int.reduceToNat, Int.reduceLT, Int.reduceLE, Int.reduceEq, Int.reduceAdd, Int.reduceSub, Int.reduceNeg]
      · funext q
        simp only [Mem.set]
        split
        · rename_i h
          rw [h, hi, hk3]
          congr 3
          have hk5 : l[k] = a := by rw [List.getElem?_eq_getElem hk1] at hk4; exact Option.some.inj hk4
          rw [List.append_assoc, ← hk5, List.singleton_append, ← List.drop_eq_getElem_cons hk1, List.take_append_drop]
        · rfl
    · rintro m r f M' ⟨n, X, hm, hX, f0, f1, f5, f6, rfl⟩ ih
      obtain ⟨C, hC⟩ : ∃ C, (wout (l.take n) a ++ X ++ l.drop n).map intV = C := ⟨_, rfl⟩
      have hCl : C.length = l.length := by rw [← hC]; simp only [List.length_map, List.length_append, List.length_drop]; omega
      rw [hC]
      have wW : ((wout (l.take n) a).length : Int) < 2 ^ 62 := by omega
      by_cases c1 : n < l.length
      · have hjj : ((n : Int) < (l.length : Int)) = True := by simp; omega
        have hget : C[n]? = some (.int .i64 l[n]) := by
          rw [← hC, List.getElem?_map, List.getElem?_append_right (by simp; omega)]
          simp only [List.length_append]
          rw [show n - ((wout (l.take n) a).length + X.length) = 0 by omega, List.getElem?_drop, Nat.add_zero, List.getElem?_eq_getElem c1]
          rfl
        have ht := fun x s' => this_E x a p s' (M.set i (.cells C)) (by simp [Mem.set, e1, hp])
        have wn : IntKind.wrap .i64 ((n : Int) + 1) = ((n + 1 : Nat) : Int) := wrap_nat n (by omega)
        have htk : l.take (n + 1) = l.take n ++ [l[n]] := List.take_succ_eq_append_getElem c1
        by_cases c2 : l[n] = a
        · simp (maxDischargeDepth := 80) only [push_cast, Nat.reduceBEq, reduceIte, reduceCtorEq, Nat.reduceEqDiff, Nat.reduceAdd, Nat.reduceMul, Nat.reduceSub, Nat.reduceLeDiff, Nat.reduceLT, Nat.reducePow, Int.reduceToNat, Int.reduceLT, Int.reduceLE, Int.reduceEq, Int.reduceAdd, Int.reduceSub, Int.reduceNeg, f0, f1, f5, f6, hjj, hget, ht, c2, wn, fresh_dn hM, fresh_at hM]
          have hw1 : wout (l.take (n + 1)) a = wout (l.take n) a := by rw [htk]; exact wout_hit _ _ _ c2
          refine ih (m - 1) _ _ (by omega) ⟨n + 1, X ++ [a], by omega, ?_, ?_, ?_, ?_, ?_, ?_⟩
          · rw [hw1]; simp; omega
          · simp (maxDischargeDepth := 80) only [push_cast, Nat.reduceBEq, reduceIte, reduceCtorEq, Nat.reduceEqDiff, Nat.reduceAdd, Nat.reduceMul, Nat.reduceSub, Nat.reduceLeDiff, Nat.reduceLT, Nat.reducePow, Int.reduceToNat, Int.reduceLT, Int.reduceLE, Int.reduceEq, Int.reduceAdd, Int.reduceSub, Int.reduceNeg, f0]
          · simp (maxDischargeDepth := 80) only [push_cast, Nat.reduceBEq, reduceIte, reduceCtorEq, Nat.reduceEqDiff, Nat.reduceAdd, Nat.reduceMul, Nat.reduceSub, Nat.reduceLeDiff, Nat.reduceLT, Nat.reducePow, Int.reduceToNat, Int.reduceLT, Int.reduceLE, Int.reduceEq, Int.reduceAdd, Int.reduceSub, Int.reduceNeg, f1]
          · simp (maxDischargeDepth := 80) only [push_cast, Nat.reduceBEq, reduceIte, reduceCtorEq, Nat.reduceEqDiff, Nat.reduceAdd, Nat.reduceMul, Nat.reduceSub, Nat.reduceLeDiff, Nat.reduceLT, Nat.reducePow, Int.reduceToNat, Int.reduceLT, Int.reduceLE, Int.reduceEq, Int.reduceAdd, Int.reduceSub, Int.reduceNeg, f5, hw1]
          · simp (maxDischargeDepth := 80) only [push_cast, Nat.reduceBEq, reduceIte, reduceCtorEq, Nat.reduceEqDiff, Nat.reduceAdd, Nat.reduceMul, Nat.reduceSub, Nat.reduceLeDiff, Nat.reduceLT, Nat.reducePow, Int.reduceToNat, Int.reduceLT, Int.reduceLE, Int.reduceEq, Int.reduceAdd, Int.reduceSub, Int.reduceNeg]
          · rw [← hC, hw1]
            congr 3
            rw [List.drop_eq_getElem_cons c1, c2]
            simp
        · have hWn : (wout (l.take n) a).length ≤ n := by omega
          have h0 : ((wout (l.take n) a).length : Int) < (l.length : Int) := by omega
          have hle : (wout (l.take n) a).length + 1 ≤ C.length := by omega
          have wW1 : IntKind.wrap .i64 (((wout (l.take n) a).length : Int) + 1) = (((wout (l.take n) a).length + 1 : Nat) : Int) := wrap_nat _ (by omega)
          simp (maxDischargeDepth := 80) only [push_cast, Nat.reduceBEq, reduceIte, reduceCtorEq, Nat.reduceEqDiff, Nat.reduceAdd, Nat.reduceMul, Nat.reduceSub, Nat.reduceLeDiff, Nat.reduceLT, Nat.reducePow, Int.reduceToNat, Int.reduceLT, Int.reduceLE, Int.reduceEq, Int.reduceAdd, Int.reduceSub, Int.reduceNeg, f0, f1, f5, f6, hjj, hget, ht, c2, wn, wW1, h0, hle, fresh_dn hM, fresh_at hM]
          obtain ⟨y, X', hX'⟩ : ∃ y X', X ++ [l[n]] = y :: X' := by
            cases X with
            | nil => exact ⟨_, [], rfl⟩
            | cons y X => exact ⟨y, X ++ [l[n]], rfl⟩
          have hX2 : X'.length = X.length := by
            have := congrArg List.length hX'; simp at this; omega
          have hw1 : wout (l.take (n + 1)) a = wout (l.take n) a ++ [l[n]] := by rw [htk]; exact wout_miss _ _ _ c2
          refine ih (m - 1) _ _ (by omega) ⟨n + 1, X', by omega, ?_, ?_, ?_, ?_, ?_, ?_⟩
          · rw [hw1]; simp; omega
          · simp (maxDischargeDepth := 80) only [push_cast, Nat.reduceBEq, reduceIte, reduceCtorEq, Nat.reduceEqDiff, Nat.reduceAdd, Nat.reduceMul, Nat.reduceSub, Nat.reduceLeDiff, Nat.reduceLT, Nat.reducePow, Int.reduceToNat, Int.reduceLT, Int.reduceLE, Int.reduceEq, Int.reduceAdd, Int.reduceSub, Int.reduceNeg, f0]
          · simp (maxDischargeDepth := 80) only [push_cast, Nat.reduceBEq, reduceIte, reduceCtorEq, Nat.reduceEqDiff, Nat.reduceAdd, Nat.reduceMul, Nat.reduceSub, Nat.reduceLeDiff, Nat.reduceLT, Nat.reducePow, Int.reduceToNat, Int.reduceLT, Int.reduceLE, Int.reduceEq, Int.reduceAdd, Int.reduceSub, Int.reduceNeg, f1]
          · simp (maxDischargeDepth := 80) only [push_cast, Nat.reduceBEq, reduceIte, reduceCtorEq, Nat.reduceEqDiff, Nat.reduceAdd, Nat.reduceMul, Nat.reduceSub, Nat.reduceLeDiff, Nat.reduceLT, Nat.reducePow, Int.reduceToNat, Int.reduceLT, Int.reduceLE, Int.reduceEq, Int.reduceAdd, Int.reduceSub, Int.reduceNeg]; rw [hw1]; simp
          · simp (maxDischargeDepth := 80) only [push_cast, Nat.reduceBEq, reduceIte, reduceCtorEq, Nat.reduceEqDiff, Nat.reduceAdd, Nat.reduceMul, Nat.reduceSub, Nat.reduceLeDiff, Nat.reduceLT, Nat.reducePow, Int.reduceToNat, Int.reduceLT, Int.reduceLE, Int.reduceEq, Int.reduceAdd, Int.reduceSub, Int.reduceNeg]
          · congr 2
            have hC2 : C = (wout (l.take n) a ++ y :: (X' ++ l.drop (n + 1))).map intV := by
              rw [← hC, List.drop_eq_getElem_cons c1]
              congr 1
              have : X ++ l[n] :: l.drop (n + 1) = (X ++ [l[n]]) ++ l.drop (n + 1) := by simp
              rw [List.append_assoc, this, hX']; simp
            rw [hC2, hw1]
            simp only [List.map_append, List.map_cons, List.map_nil, List.append_assoc, List.cons_append, List.nil_append]
            have hlw : (List.map intV (wout (l.take n) a)).length = (wout (l.take n) a).length := by simp
            rw [← hlw, List.take_left', List.drop_append, List.drop_eq_nil_of_le (by simp)]
            · simp [intV]
            · rfl
      · have hne : n = l.length := by omega
        have hjj : ((n : Int) < (l.length : Int)) = False := by simp; omega
        have h1 : (wout (l.take n) a).length ≤ C.length := by omega
        have h2 : (((wout (l.take n) a).length : Int) ≤ (l.length : Int)) = True := eq_true (by omega)
        have hlt : l.take n = l := by rw [hne]; exact List.take_length
        have h3 : (wout (l.take n) a).length + (l.length - (wout (l.take n) a).length) ≤ C.length := by omega
        simp (maxDischargeDepth := 80) only [push_cast, Nat.reduceBEq, reduceIte, reduceCtorEq, Nat.reduceEqDiff, Nat.reduceAdd, Nat.reduceMul, Nat.reduceSub, Nat.reduceLeDiff, Nat.reduceLT, Nat.reducePow, Int.reduceToNat, Int.reduceLT, Int.reduceLE, Int.reduceEq, Int.reduceAdd, Int.reduceSub, Int.reduceNeg, f0, f1, f5, f6, hjj, h2, h3, fresh_dn hM, fresh_at hM]
        refine ⟨List.replicate (l.length - (wout l a).length) 0, ?_, ?_⟩
        · rw [hlt] at h3; simp; omega
        · rw [hlt]
          congr 3
          have hX0 : (wout l a).length + X.length = l.length := by rw [hlt] at hX; omega
          rw [repeat_int, ← hC, hlt, List.map_append]
          subst hne
          simp only [List.drop_length, List.map_nil, List.append_nil, List.length_map, List.length_replicate]
          rw [List.drop_eq_nil_of_le (by simp only [List.length_map, List.length_append]; omega), List.append_nil, List.map_append, List.map_append]
          congr 1
          rw [List.take_append_of_le_length (by simp), List.take_of_length_le (by simp)]
end Go.Ab.R

/- Lists of one's own: cloned, cut, sorted. Conditions: none. -/
namespace Go.Ab.R
open Go Go.Proofs
set_option maxRecDepth 100000

/-- a list of numbers of one's own; Z: what lies behind it -/
inductive Ow (M : Mem) (t : Id) (Z : List Int) : V → Option (List Int) → Prop
  | nils : Ow M t Z .nils none
  | sl (l : List Int) (h : M t = some (.cells ((l ++ Z).map intV))) : Ow M t Z (.sl t 0 l.length 1 none) (some l)
  | sl0 (h : M t = some (.cells [])) (hz : Z = []) : Ow M t Z (.sl t 0 0 1 (some 0)) (some [])

theorem Ow.one {M t Z v o} (h : Ow M t Z v o) : v.one = true := by cases h <;> rfl
theorem Ow.cells {M t Z v o} (h : Ow M t Z v o) : v.cells = [v] := by cases h <;> rfl
theorem Ow.keep {M M' t Z v o} (h : Ow M t Z v o) (e : M' t = M t) : Ow M' t Z v o := by
  cases h with
  | nils => exact .nils
  | sl l h => exact .sl l (e.trans h)
  | sl0 h hz => exact .sl0 (e.trans h) hz

theorem cloneO_E (o : Option (List Int)) (ho : (intsL o).length < 2 ^ 35) (s : Id) (M : Mem) (hM : FreshM s M) : Okk (Fn env false 88 [intsV o] s M) fun x => ∃ t, Un s t ∧ Ow x.2 t [] x.1 o ∧ FrM s [] M x.2 := by
  rw [Fn_body Tryz.func88 (by decide) rfl rfl]
  have hfr : ∀ (M' : Mem), (∀ i, Off s i → M' i = M i) → FrM s [] M M' := fun M' h i hi _ => h i hi
  cases o with
  | none =>
    simp (maxDischargeDepth := 80) only [push_cast, Nat.reduceBEq, reduceIte, reduceCtorEq, Nat.reduceEqDiff, Nat.reduceAdd, Nat.reduceMul, Nat.reduceSub, Nat.reduceLeDiff, Nat.reduceLT, Nat.reducePow, Int.reduceToNat, Int.reduceLT, Int.reduceLE, Int.reduceEq, Int.reduceAdd, Int.reduceSub, Int.reduceNeg, intsV]
    exact ⟨s, List.suffix_refl _, .nils, fun _ _ _ => rfl⟩
  | some l =>
    have hs' : l.length ≤ 68719476736 := by simp only [intsL] at ho; omega
    by_cases h0 : l.length = 0
    · obtain rfl := List.length_eq_zero_iff.1 h0
      simp (maxDischargeDepth := 80) only [push_cast, Nat.reduceBEq, reduceIte, reduceCtorEq, Nat.reduceEqDiff, Nat.reduceAdd, Nat.reduceMul, Nat.reduceSub, Nat.reduceLeDiff, Nat.reduceLT, Nat.reducePow, Int.reduceToNat, Int.reduceLT, Int.reduceLE, Int.reduceEq, Int.reduceAdd, Int.reduceSub, Int.reduceNeg, intsV, fresh_dn hM, fresh_at hM, mostLen]
      refine ⟨0 :: 0 :: 1 :: 1 :: 0 :: s, ?_, .sl0 ?_ rfl, hfr _ fun i hi => ?_⟩
      · simp (maxDischargeDepth := 80) only [push_cast, Nat.reduceBEq, reduceIte, reduceCtorEq, Nat.reduceEqDiff, Nat.reduceAdd, Nat.reduceMul, Nat.reduceSub, Nat.reduceLeDiff, Nat.reduceLT, Nat.reducePow, Int.reduceToNat, Int.reduceLT, Int.reduceLE, Int.reduceEq, Int.reduceAdd, Int.reduceSub, Int.reduceNeg]
      · simp (maxDischargeDepth := 80) only [push_cast, Nat.reduceBEq, reduceIte, reduceCtorEq, Nat.reduceEqDiff, Nat.reduceAdd, Nat.reduceMul, Nat.reduceSub, Nat.reduceLeDiff, Nat.reduceLT, Nat.reducePow, Int.reduceToNat, Int.reduceLT, Int.reduceLE, Int.reduceEq, Int.reduceAdd, Int.reduceSub, Int.reduceNeg]
      simp (maxDischargeDepth := 80) only [push_cast, Nat.reduceBEq, reduceIte, reduceCtorEq, Nat.reduceEqDiff, Nat.reduceAdd, Nat.reduceMul, Nat.reduceSub, Nat.reduceLeDiff, Nat.reduceLT, Nat.reducePow, Int.reduceToNat, Int.reduceLT, Int.reduceLE, Int.reduceEq, Int.reduceAdd, Int.reduceSub, Int.reduceNeg, Off_ne hi]
    · have h0' : ¬ l.length ≤ 0 := by omega
      simp (maxDischargeDepth := 80) only [push_cast, Nat.reduceBEq, reduceIte, reduceCtorEq, Nat.reduceEqDiff, Nat.reduceAdd, Nat.reduceMul, Nat.reduceSub, Nat.reduceLeDiff, Nat.reduceLT, Nat.reducePow, Int.reduceToNat, Int.reduceLT, Int.reduceLE, Int.reduceEq, Int.reduceAdd, Int.reduceSub, Int.reduceNeg, intsV, h0, h0', hs', fresh_dn hM, fresh_at hM, mostLen, take_len]
      refine ⟨2 :: 0 :: 1 :: 1 :: 0 :: s, ?_, .sl l ?_, hfr _ fun i hi => ?_⟩
      · simp (maxDischargeDepth := 80) only [push_cast, Nat.reduceBEq, reduceIte, reduceCtorEq, Nat.reduceEqDiff, Nat.reduceAdd, Nat.reduceMul, Nat.reduceSub, Nat.reduceLeDiff, Nat.reduceLT, Nat.reducePow, Int.reduceToNat, Int.reduceLT, Int.reduceLE, Int.reduceEq, Int.reduceAdd, Int.reduceSub, Int.reduceNeg]
      · simp (maxDischargeDepth := 80) only [push_cast, Nat.reduceBEq, reduceIte, reduceCtorEq, Nat.reduceEqDiff, Nat.reduceAdd, Nat.reduceMul, Nat.reduceSub, Nat.reduceLeDiff, Nat.reduceLT, Nat.reducePow, Int.reduceToNat, Int.reduceLT, Int.reduceLE, Int.reduceEq, Int.reduceAdd, Int.reduceSub, Int.reduceNeg]
        trace_state
      simp (maxDischargeDepth := 80) only [push_cast, Nat.reduceBEq, reduceIte, reduceCtorEq, Nat.reduceEqDiff, Nat.reduceAdd, Nat.reduceMul, Nat.reduceSub, Nat.reduceLeDiff, Nat.reduceLT, Nat.reducePow, Int.reduceToNat, Int.reduceLT, Int.reduceLE, Int.reduceEq, Int.reduceAdd, Int.reduceSub, Int.reduceNeg, Off_ne hi]

theorem delete0_E (v : V) (l : List Int) (a : Int) (p : Id) (s : Id) (M : Mem) (hM : FreshM s M) (hv : RdI M v l) (hp : M p = some (.cells [.int .i64 a])) (h0 : idxA l a 0 = -1) :
    Fn env false 117 [v, .fn (.func 116) [] [.ptr p 0]] s M = some (v, M) := by
  have r1 := fun s' (q1 : FreshM s' M) => idxA_E v l a p s' M q1 hv hp
  rw [Fn_body Tryz.func117 (by decide) rfl rfl]
  simp (maxDischargeDepth := 80) only [push_cast, Nat.reduceBEq, reduceIte, reduceCtorEq, Nat.reduceEqDiff, Nat.reduceAdd, Nat.reduceMul, Nat.reduceSub, Nat.reduceLeDiff, Nat.reduceLT, Nat.reducePow, Int.reduceToNat, Int.reduceLT, Int.reduceLE, Int.reduceEq, Int.reduceAdd, Int.reduceSub, Int.reduceNeg, r1, h0, fresh_dn hM, fresh_at hM]

theorem deleteO_E {M : Mem} {t : Id} {v : V} {o : Option (List Int)} (a : Int) (p : Id) (s : Id) (hM : FreshM s M) (h : Ow M t [] v o) (ho : (intsL o).length < 2 ^ 35) (hp : M p = some (.cells [.int .i64 a])) (hpt : p ≠ t) :
    Okk (Fn env false 117 [v, .fn (.func 116) [] [.ptr p 0]] s M) fun x => ∃ Z, (o = none → Z = []) ∧ Ow x.2 t Z x.1 (o.map (wout · a)) ∧ ∀ j, j ≠ t → x.2 j = M j := by
  cases h with
  | nils => exact .eq (delete0_E .nils [] a p s M hM (RdI_ints M none (by simp [intsL])) hp rfl) ⟨[], fun _ => rfl, .nils, fun _ _ => rfl⟩
  | sl l h =>
    refine (delete_E l a t p s M hM (by simp only [intsL] at ho; omega) (by simpa using h) hp hpt).mono ?_
    rintro x ⟨Z, _, rfl⟩
    exact ⟨Z, fun q => (by cases q), .sl _ (by simp [Mem.set]), fun j hj => by simp [Mem.set, hj]⟩
  | sl0 h hz =>
    refine .eq (delete0_E _ [] a p s M hM ((IntsV.sl t (some 0) [] (by simpa using h)).rd (by simp [intsL])) hp rfl) ⟨[], fun _ => rfl, .sl0 h rfl, fun _ _ => rfl⟩

theorem sortP_nils (s M) : sortP [.nils] s M = some (.tup [], M) := rfl
theorem intsOf_map (l : List Int) : intsOf (l.map intV) = some l := by
  induction l with
  | nil => rfl
  | cons x l ih => simp only [List.map_cons, intsOf, ih, intV, intOf]
theorem sortO_E {M : Mem} {t : Id} {Z : List Int} {v : V} {o : Option (List Int)} (frz : Bool) (s : Id) (h : Ow M t Z v o) (ho : (intsL o).length < 2 ^ 35) :
    Okk (Fn env frz 118 [v] s M) fun x => x.1 = .tup [] ∧ Ow x.2 t Z v (o.map sortI) ∧ ∀ j, j ≠ t → x.2 j = M j := by
  rw [F118]
  cases h with
  | nils => exact .eq rfl ⟨rfl, .nils, fun _ _ => rfl⟩
  | sl0 h hz => exact .eq (a := (.tup [], M)) (by simp [sortP]) ⟨rfl, (by simp only [Option.map_some, sortI_nil]; exact .sl0 h hz), fun _ _ => rfl⟩
  | sl l h =>
    by_cases h0 : l.length = 0
    · obtain rfl := List.length_eq_zero_iff.1 h0
      exact .eq (a := (.tup [], M)) (by simp [sortP]) ⟨rfl, (by simp only [Option.map_some, sortI_nil]; exact .sl [] h), fun _ _ => rfl⟩
    · have h1 : ((l ++ Z).map intV).length = l.length + Z.length := by simp
      have h2 : (((l ++ Z).map intV).drop 0).take l.length = l.map intV := by simp
      have h3 : l.length ≤ mostLen := by simp only [intsL, mostLen] at *; omega
      refine .eq (a := (.tup [], M.set t (.cells (splice ((l ++ Z).map intV) 0 ((sortI l).map (V.int .i64)))))) ?_ ⟨rfl, ?_, fun j hj => by simp [Mem.set, hj]⟩
      · simp only [sortP, h0, if_false, h]
        rw [if_pos ⟨trivial, by omega, by omega, h3⟩, h2, intsOf_map]
      · have := Ow.sl (M := M.set t (.cells (splice ((l ++ Z).map intV) 0 ((sortI l).map (V.int .i64))))) (t := t) (Z := Z) (sortI l) (by
          simp only [Mem.set, if_true, splice]
          congr 2
          simp only [List.take_zero, List.nil_append, List.length_map, sortI_len, Nat.zero_add, List.map_append]
          rw [List.drop_append_of_le_length (by simp), List.drop_of_length_le (by simp)]
          rfl)
        rw [sortI_len] at this
        exact this

theorem wout_len (l : List Int) (a : Int) : (wout l a).length ≤ l.length := List.length_filter_le _ _
theorem Ow.len {M t Z v o} (h : Ow M t Z v o) (M' : Mem) : lenV Tryz.prog 30 M' v = some (.int .i64 (intsL o).length) := by
  cases h with
  | nils => simp (maxDischargeDepth := 80) only [push_cast, Nat.reduceBEq, reduceIte, reduceCtorEq, Nat.reduceEqDiff, Nat.reduceAdd, Nat.reduceMul, Nat.reduceSub, Nat.reduceLeDiff, Nat.reduceLT, Nat.reducePow, Int.reduceToNat, Int.reduceLT, Int.reduceLE, Int.reduceEq, Int.reduceAdd, Int.reduceSub, Int.reduceNeg, intsL]
  | sl l h => simp (maxDischargeDepth := 80) only [push_cast, Nat.reduceBEq, reduceIte, reduceCtorEq, Nat.reduceEqDiff, Nat.reduceAdd, Nat.reduceMul, Nat.reduceSub, Nat.reduceLeDiff, Nat.reduceLT, Nat.reducePow, Int.reduceToNat, Int.reduceLT, Int.reduceLE, Int.reduceEq, Int.reduceAdd, Int.reduceSub, Int.reduceNeg, intsL]
  | sl0 h hz => simp (maxDischargeDepth := 80) only [push_cast, Nat.reduceBEq, reduceIte, reduceCtorEq, Nat.reduceEqDiff, Nat.reduceAdd, Nat.reduceMul, Nat.reduceSub, Nat.reduceLeDiff, Nat.reduceLT, Nat.reducePow, Int.reduceToNat, Int.reduceLT, Int.reduceLE, Int.reduceEq, Int.reduceAdd, Int.reduceSub, Int.reduceNeg, intsL]

theorem freezeO_E {M : Mem} {t : Id} {Z : List Int} {v : V} {o : Option (List Int)} (h : Ow M t Z v o) : Okk (freeze1 M v) fun x => x.1 = intsV o ∧ ∀ j, j ≠ t → x.2 j = M j := by
  cases h with
  | nils => exact .eq rfl ⟨rfl, fun _ _ => rfl⟩
  | sl0 h hz =>
    simp (maxDischargeDepth := 80) only [push_cast, Nat.reduceBEq, reduceIte, reduceCtorEq, Nat.reduceEqDiff, Nat.reduceAdd, Nat.reduceMul, Nat.reduceSub, Nat.reduceLeDiff, Nat.reduceLT, Nat.reducePow, Int.reduceToNat, Int.reduceLT, Int.reduceLE, Int.reduceEq, Int.reduceAdd, Int.reduceSub, Int.reduceNeg, h]
    exact ⟨rfl, fun j hj => by simp [Mem.del, hj]⟩
  | sl l h =>
    simp (maxDischargeDepth := 80) only [push_cast, Nat.reduceBEq, reduceIte, reduceCtorEq, Nat.reduceEqDiff, Nat.reduceAdd, Nat.reduceMul, Nat.reduceSub, Nat.reduceLeDiff, Nat.reduceLT, Nat.reducePow, Int.reduceToNat, Int.reduceLT, Int.reduceLE, Int.reduceEq, Int.reduceAdd, Int.reduceSub, Int.reduceNeg, h]
    refine ⟨?_, fun j hj => by simp [Mem.del, hj]⟩
    simp [intsV]

theorem appendO_E {M : Mem} {t : Id} {Z : List Int} {v : V} {o : Option (List Int)} (e : El) (he : e.size = 1) (n : Int) (i : Id) (h : Ow M t Z v o) (ho : (intsL o).length < 2 ^ 35) :
    Okk (joinV e v 1 [.int .i64 n] i M) fun x => ∃ t' Z', Ow x.2 t' Z' x.1 (some (intsL o ++ [n])) ∧ (t' = i ∨ t' = t) ∧ ∀ j, j ≠ t → j ≠ i → x.2 j = M j := by
  cases h with
  | nils =>
    simp (maxDischargeDepth := 80) only [push_cast, Nat.reduceBEq, reduceIte, reduceCtorEq, Nat.reduceEqDiff, Nat.reduceAdd, Nat.reduceMul, Nat.reduceSub, Nat.reduceLeDiff, Nat.reduceLT, Nat.reducePow, Int.reduceToNat, Int.reduceLT, Int.reduceLE, Int.reduceEq, Int.reduceAdd, Int.reduceSub, Int.reduceNeg, mostLen, he]
    exact ⟨i, [], .sl [n] (by simp [Mem.set, intV]), .inl rfl, fun j _ hj => by simp [Mem.set, hj]⟩
  | sl0 h hz =>
    simp (maxDischargeDepth := 80) only [push_cast, Nat.reduceBEq, reduceIte, reduceCtorEq, Nat.reduceEqDiff, Nat.reduceAdd, Nat.reduceMul, Nat.reduceSub, Nat.reduceLeDiff, Nat.reduceLT, Nat.reducePow, Int.reduceToNat, Int.reduceLT, Int.reduceLE, Int.reduceEq, Int.reduceAdd, Int.reduceSub, Int.reduceNeg, h, mostLen, he]
    exact ⟨i, [], .sl [n] (by simp [Mem.set, intV]), .inl rfl, fun j _ hj => by simp [Mem.set, hj]⟩
  | sl l h =>
    have hl : l.length + 1 ≤ 68719476736 := by simp only [intsL] at ho; omega
    cases Z with
    | nil =>
      simp (maxDischargeDepth := 80) only [push_cast, Nat.reduceBEq, reduceIte, reduceCtorEq, Nat.reduceEqDiff, Nat.reduceAdd, Nat.reduceMul, Nat.reduceSub, Nat.reduceLeDiff, Nat.reduceLT, Nat.reducePow, Int.reduceToNat, Int.reduceLT, Int.reduceLE, Int.reduceEq, Int.reduceAdd, Int.reduceSub, Int.reduceNeg, h, mostLen, hl, he]
      refine ⟨i, [], ?_, .inl rfl, fun j hj hj' => by simp [Mem.set, Mem.del, hj, hj']⟩
      have := Ow.sl (M := (M.del t).set i (.cells (l.map intV ++ [V.int .i64 n]))) (t := i) (Z := []) (l ++ [n]) (by simp [Mem.set, intV])
      simpa [intsL] using this
    | cons z Z =>
      have h0 : (l.length = l.length + (Z.length + 1)) = False := eq_false (by omega)
      have h1 : l.length ≤ l.length + (Z.length + 1) := by omega
      have h2 : l.length + 1 ≤ l.length + (Z.length + 1) := by omega
      simp (maxDischargeDepth := 80) only [push_cast, Nat.reduceBEq, reduceIte, reduceCtorEq, Nat.reduceEqDiff, Nat.reduceAdd, Nat.reduceMul, Nat.reduceSub, Nat.reduceLeDiff, Nat.reduceLT, Nat.reducePow, Int.reduceToNat, Int.reduceLT, Int.reduceLE, Int.reduceEq, Int.reduceAdd, Int.reduceSub, Int.reduceNeg, h, mostLen, hl, h0, h1, h2, he]
      refine ⟨t, Z, ?_, .inr rfl, fun j hj hj' => by simp [Mem.set, hj]⟩
      have hc : List.take l.length (List.map intV (l ++ z :: Z)) ++ [V.int IntKind.i64 n] ++ List.drop (l.length + 1) (List.map intV (l ++ z :: Z)) = (l ++ n :: Z).map intV := by
        simp [List.take_append, List.drop_append, intV]
      rw [hc]
      have := Ow.sl (M := M.set t (.cells (((l ++ n :: Z).map intV)))) (t := t) (Z := Z) (l ++ [n]) (by simp [Mem.set])
      simpa [intsL] using this
end Go.Ab.R

/- A group is changed. Conditions: none. -/
namespace Go.Ab.R
open Go Go.Proofs
set_option maxRecDepth 100000

theorem Okk.out {α : Type} {X : Option α} {a : α} (h : Okk X fun x => x = a) : X = some a := by
  obtain ⟨_, e, rfl⟩ := h; exact e
theorem lo54 (r : Nat) (h : (r = 3) = False) (h2 : (r = 5) = False) : looseOf 54 r = [] := by simp [looseOf, h, h2]

theorem Chk_of {E : Env} {cur : FuncId} {id : Nat} {ops : Array Oper} {s : Id} {f : Tm} {M : Mem} (h : ∀ p ∈ E.loose cur id, Okk (run E cur [.ops ops (ops.toList.take p.1) 0 s] f M) fun x => Okk (run E cur [.ops ops (ops.toList.take (upTo p)) 0 s] f M) fun y => loadAt E.P ops p.1 x.1 x.2 = loadAt E.P ops p.1 x.1 y.2) : Chk E cur id ops s f M := by
  intro p hp
  obtain ⟨x, h1, y, h2, h3⟩ := h p hp
  exact ⟨x.1, x.2, y.1, y.2, by rw [Os_run]; exact h1, by rw [Os_run]; exact h2, h3⟩

theorem chk54_3 {t3 t5 : Id} {v w : V} {n : Int} {l l2 : List Int} (s : Id) (f : Tm) (M : Mem) (hM : FreshM s M) (h3 : f 3 = .ptr t3 0) (h5 : f 5 = .ptr t5 0) (m3 : M t3 = some (.cells [v, w])) (m5 : M t5 = some (.cells [.int .i64 n])) (hv : RdI M v l) (hw : RdI M w l2) :
    Chk env 54 3 (opsAt Tryz.f54 3) s f M := by
  have r3 := fun s' M' (q1 : FreshM s' M') => among_E v s' M' q1 hv.one hv.cells
  have r4 := fun i x s' M' (q1 : FreshM s' M') (q2 : Sub M M') (q3 : M' i = some (.cells [v])) => amongC_E i v l x s' M' q1 q3 (hv.mono q2)
  have r5 := fun s' M' (q1 : FreshM s' M') => among_E w s' M' q1 hw.one hw.cells
  simp only [opsAt, Tryz.f54, regAt, reduceIte, Option.getD_some]
  refine Chk_of fun q hq => ?_
  simp only [env, looseOf] at hq
  simp at hq
  rcases hq with rfl | rfl
  all_goals
    simp (maxDischargeDepth := 80) only [push_cast, Nat.reduceBEq, reduceIte, reduceCtorEq, Nat.reduceEqDiff, Nat.reduceAdd, Nat.reduceMul, Nat.reduceSub, Nat.reduceLeDiff, Nat.reduceLT, Nat.reducePow, Int.reduceToNat, Int.reduceLT, Int.reduceLE, Int.reduceEq, Int.reduceAdd, Int.reduceSub, Int.reduceNeg, upTo, h3, h5, m3, Off_dn (Off_of hM m3), Off_ne (Off_of hM m3), Off_ne' (Off_of hM m3), m5, Off_dn (Off_of hM m5), Off_ne (Off_of hM m5), Off_ne' (Off_of hM m5), hv.one, hw.one, r3, r4, r5, fresh_dn hM, fresh_at hM]
    try simp only [loadAt, opV]
    try simp (maxDischargeDepth := 80) only [push_cast, Nat.reduceBEq, reduceIte, reduceCtorEq, Nat.reduceEqDiff, Nat.reduceAdd, Nat.reduceMul, Nat.reduceSub, Nat.reduceLeDiff, Nat.reduceLT, Nat.reducePow, Int.reduceToNat, Int.reduceLT, Int.reduceLE, Int.reduceEq, Int.reduceAdd, Int.reduceSub, Int.reduceNeg, h3, h5, m3, Off_dn (Off_of hM m3), Off_ne (Off_of hM m3), Off_ne' (Off_of hM m3), m5, Off_dn (Off_of hM m5), Off_ne (Off_of hM m5), Off_ne' (Off_of hM m5), hv.one, hw.one, fresh_dn hM, fresh_at hM]

theorem chk54_5 {t3 t10 : Id} {o1 o2 : Option (List Int)} {a : Int} (s : Id) (f : Tm) (M : Mem) (hM : FreshM s M) (h3 : f 3 = .ptr t3 0) (h10 : f 10 = .fn (.func 116) [] [.ptr t10 0]) (m3 : M t3 = some (.cells [intsV o1, intsV o2])) (m5 : M t10 = some (.cells [.int .i64 a]))
    (ho : (intsL o1).length < 2 ^ 35) : Chk env 54 5 (opsAt Tryz.f54 5) s f M := by
  simp only [opsAt, Tryz.f54, regAt, reduceIte, Option.getD_some]
  refine Chk_of fun q hq => ?_
  simp only [env, looseOf] at hq
  simp at hq
  subst hq
  simp (maxDischargeDepth := 80) only [push_cast, Nat.reduceBEq, reduceIte, reduceCtorEq, Nat.reduceEqDiff, Nat.reduceAdd, Nat.reduceMul, Nat.reduceSub, Nat.reduceLeDiff, Nat.reduceLT, Nat.reducePow, Int.reduceToNat, Int.reduceLT, Int.reduceLE, Int.reduceEq, Int.reduceAdd, Int.reduceSub, Int.reduceNeg, upTo, h3, h10, intsV_one, m3, Off_dn (Off_of hM m3), Off_ne (Off_of hM m3), Off_ne' (Off_of hM m3), m5, Off_dn (Off_of hM m5), Off_ne (Off_of hM m5), Off_ne' (Off_of hM m5), z88n, fresh_dn hM, fresh_at hM]
  refine Okk.bind (cloneO_E o1 ho _ M (fresh_dn hM (by simp (maxDischargeDepth := 80) only [push_cast, Nat.reduceBEq, reduceIte, reduceCtorEq, Nat.reduceEqDiff, Nat.reduceAdd, Nat.reduceMul, Nat.reduceSub, Nat.reduceLeDiff, Nat.reduceLT, Nat.reducePow, Int.reduceToNat, Int.reduceLT, Int.reduceLE, Int.reduceEq, Int.reduceAdd, Int.reduceSub, Int.reduceNeg]))) ?_
  rintro ⟨v1, M1⟩ ⟨t, ht, hO, hfr⟩
  have e3 : M1 t3 = some (.cells [intsV o1, intsV o2]) := (hfr t3 (Off_dn (Off_of hM m3) (by simp (maxDischargeDepth := 80) only [push_cast, Nat.reduceBEq, reduceIte, reduceCtorEq, Nat.reduceEqDiff, Nat.reduceAdd, Nat.reduceMul, Nat.reduceSub, Nat.reduceLeDiff, Nat.reduceLT, Nat.reducePow, Int.reduceToNat, Int.reduceLT, Int.reduceLE, Int.reduceEq, Int.reduceAdd, Int.reduceSub, Int.reduceNeg])) (by simp)).trans m3
  have e10 : M1 t10 = some (.cells [.int .i64 a]) := (hfr t10 (Off_dn (Off_of hM m5) (by simp (maxDischargeDepth := 80) only [push_cast, Nat.reduceBEq, reduceIte, reduceCtorEq, Nat.reduceEqDiff, Nat.reduceAdd, Nat.reduceMul, Nat.reduceSub, Nat.reduceLeDiff, Nat.reduceLT, Nat.reducePow, Int.reduceToNat, Int.reduceLT, Int.reduceLE, Int.reduceEq, Int.reduceAdd, Int.reduceSub, Int.reduceNeg])) (by simp)).trans m5
  have n3 : t3 ≠ t := fun e => Off_of hM m3 (List.IsSuffix.trans (List.suffix_cons 2 s) (e ▸ ht))
  have n10 : t10 ≠ t := fun e => Off_of hM m5 (List.IsSuffix.trans (List.suffix_cons 2 s) (e ▸ ht))
  simp (maxDischargeDepth := 80) only [push_cast, Nat.reduceBEq, reduceIte, reduceCtorEq, Nat.reduceEqDiff, Nat.reduceAdd, Nat.reduceMul, Nat.reduceSub, Nat.reduceLeDiff, Nat.reduceLT, Nat.reducePow, Int.reduceToNat, Int.reduceLT, Int.reduceLE, Int.reduceEq, Int.reduceAdd, Int.reduceSub, Int.reduceNeg, h3, h10]
  refine Okk.bind (deleteO_E a t10 _ (hfr.to hM (by simp (maxDischargeDepth := 80) only [push_cast, Nat.reduceBEq, reduceIte, reduceCtorEq, Nat.reduceEqDiff, Nat.reduceAdd, Nat.reduceMul, Nat.reduceSub, Nat.reduceLeDiff, Nat.reduceLT, Nat.reducePow, Int.reduceToNat, Int.reduceLT, Int.reduceLE, Int.reduceEq, Int.reduceAdd, Int.reduceSub, Int.reduceNeg]) (by simp (maxDischargeDepth := 80) only [push_cast, Nat.reduceBEq, reduceIte, reduceCtorEq, Nat.reduceEqDiff, Nat.reduceAdd, Nat.reduceMul, Nat.reduceSub, Nat.reduceLeDiff, Nat.reduceLT, Nat.reducePow, Int.reduceToNat, Int.reduceLT, Int.reduceLE, Int.reduceEq, Int.reduceAdd, Int.reduceSub, Int.reduceNeg]) (by simp (maxDischargeDepth := 80) only [push_cast, Nat.reduceBEq, reduceIte, reduceCtorEq, Nat.reduceEqDiff, Nat.reduceAdd, Nat.reduceMul, Nat.reduceSub, Nat.reduceLeDiff, Nat.reduceLT, Nat.reducePow, Int.reduceToNat, Int.reduceLT, Int.reduceLE, Int.reduceEq, Int.reduceAdd, Int.reduceSub, Int.reduceNeg]) (by simp)) hO ho e10 n10) ?_
  rintro ⟨v2, M2⟩ ⟨Z, _, hO2, hfr2⟩
  simp (maxDischargeDepth := 80) only [push_cast, Nat.reduceBEq, reduceIte, reduceCtorEq, Nat.reduceEqDiff, Nat.reduceAdd, Nat.reduceMul, Nat.reduceSub, Nat.reduceLeDiff, Nat.reduceLT, Nat.reducePow, Int.reduceToNat, Int.reduceLT, Int.reduceLE, Int.reduceEq, Int.reduceAdd, Int.reduceSub, Int.reduceNeg, h3, h10]
  refine Okk.bind (cloneO_E o1 ho _ M (fresh_dn hM (by simp (maxDischargeDepth := 80) only [push_cast, Nat.reduceBEq, reduceIte, reduceCtorEq, Nat.reduceEqDiff, Nat.reduceAdd, Nat.reduceMul, Nat.reduceSub, Nat.reduceLeDiff, Nat.reduceLT, Nat.reducePow, Int.reduceToNat, Int.reduceLT, Int.reduceLE, Int.reduceEq, Int.reduceAdd, Int.reduceSub, Int.reduceNeg]))) ?_
  rintro ⟨v3, M3⟩ ⟨t', ht', hO3, hfr3⟩
  have e3' : M3 t3 = some (.cells [intsV o1, intsV o2]) := (hfr3 t3 (Off_dn (Off_of hM m3) (by simp (maxDischargeDepth := 80) only [push_cast, Nat.reduceBEq, reduceIte, reduceCtorEq, Nat.reduceEqDiff, Nat.reduceAdd, Nat.reduceMul, Nat.reduceSub, Nat.reduceLeDiff, Nat.reduceLT, Nat.reducePow, Int.reduceToNat, Int.reduceLT, Int.reduceLE, Int.reduceEq, Int.reduceAdd, Int.reduceSub, Int.reduceNeg])) (by simp)).trans m3
  have e3'' : M2 t3 = some (.cells [intsV o1, intsV o2]) := (hfr2 t3 n3).trans e3
  simp (maxDischargeDepth := 80) only [push_cast, Nat.reduceBEq, reduceIte, reduceCtorEq, Nat.reduceEqDiff, Nat.reduceAdd, Nat.reduceMul, Nat.reduceSub, Nat.reduceLeDiff, Nat.reduceLT, Nat.reducePow, Int.reduceToNat, Int.reduceLT, Int.reduceLE, Int.reduceEq, Int.reduceAdd, Int.reduceSub, Int.reduceNeg, h3, h10]
  simp only [loadAt, opV]
  simp (maxDischargeDepth := 80) only [push_cast, Nat.reduceBEq, reduceIte, reduceCtorEq, Nat.reduceEqDiff, Nat.reduceAdd, Nat.reduceMul, Nat.reduceSub, Nat.reduceLeDiff, Nat.reduceLT, Nat.reducePow, Int.reduceToNat, Int.reduceLT, Int.reduceLE, Int.reduceEq, Int.reduceAdd, Int.reduceSub, Int.reduceNeg, h3, h10, e3', e3'', intsV_one]

def changeR (g : Grp) (k n : Int) : Grp := (changeL g k n).getD (none, none)
def changeC (g : Grp) (k n : Int) : Int := match changeL g k n with
  | some _ => 0
  | none => if rightL (intsL g.1) (intsL g.2) = true ∧ 1 ≤ k ∧ k ≤ 3 ∧ 1 ≤ n ∧ n ≤ 15 then 7 else 1

set_option maxHeartbeats 2000000 in
theorem change_E (g : Grp) (h1 : (intsL g.1).length < 2 ^ 35) (h2 : (intsL g.2).length < 2 ^ 35) (k n : Int) (s0 : Id) (M : Mem) (hM : FreshM s0 M) :
    Fn env true 54 [.agg [intsV g.1, intsV g.2], .int .i64 k, .int .i64 n] s0 M = some (.tup [.agg [intsV (changeR g k n).1, intsV (changeR g k n).2], .int .i64 (changeC g k n)], M) := by
  have hv := RdI_ints M g.1 (by omega)
  have hw := RdI_ints M g.2 (by omega)
  have r81 := fun s' M' (q1 : FreshM s' M') (q2 : Sub M M') => right_E (intsV g.1) (intsV g.2) (intsL g.1) (intsL g.2) s' M' q1 (hv.mono q2) (hw.mono q2)
  have hI : intsV none = .nils := rfl
  apply Okk.out
  rw [Fn_body Tryz.func54 (by decide) rfl rfl]
  by_cases hc : rightL (intsL g.1) (intsL g.2) = true ∧ 1 ≤ k ∧ k ≤ 3 ∧ 1 ≤ n ∧ n ≤ 15
  rotate_left
  · have e1 : changeL g k n = none := by unfold changeL; rw [if_neg hc]
    have e2 : changeR g k n = (none, none) := by unfold changeR; rw [e1]; rfl
    have e3 : changeC g k n = 1 := by unfold changeC; rw [e1]; exact if_neg hc
    rw [e2, e3]
    cases c1 : rightL (intsL g.1) (intsL g.2) with
    | false => simp (maxDischargeDepth := 80) only [push_cast, Nat.reduceBEq, reduceIte, reduceCtorEq, Nat.reduceEqDiff, Nat.reduceAdd, Nat.reduceMul, Nat.reduceSub, Nat.reduceLeDiff, Nat.reduceLT, Nat.reducePow, Int.reduceToNat, Int.reduceLT, Int.reduceLE, Int.reduceEq, Int.reduceAdd, Int.reduceSub, Int.reduceNeg, r81, c1, lo54, hI, intsV_one, fresh_dn hM, fresh_at hM]
    | true =>
      by_cases c2 : k < 1
      · simp (maxDischargeDepth := 80) only [push_cast, Nat.reduceBEq, reduceIte, reduceCtorEq, Nat.reduceEqDiff, Nat.reduceAdd, Nat.reduceMul, Nat.reduceSub, Nat.reduceLeDiff, Nat.reduceLT, Nat.reducePow, Int.reduceToNat, Int.reduceLT, Int.reduceLE, Int.reduceEq, Int.reduceAdd, Int.reduceSub, Int.reduceNeg, r81, c1, c2, lo54, hI, intsV_one, fresh_dn hM, fresh_at hM]
      by_cases c3 : 3 < k
      · simp (maxDischargeDepth := 80) only [push_cast, Nat.reduceBEq, reduceIte, reduceCtorEq, Nat.reduceEqDiff, Nat.reduceAdd, Nat.reduceMul, Nat.reduceSub, Nat.reduceLeDiff, Nat.reduceLT, Nat.reducePow, Int.reduceToNat, Int.reduceLT, Int.reduceLE, Int.reduceEq, Int.reduceAdd, Int.reduceSub, Int.reduceNeg, r81, c1, c2, c3, lo54, hI, intsV_one, fresh_dn hM, fresh_at hM]
      by_cases c4 : n < 1
      · simp (maxDischargeDepth := 80) only [push_cast, Nat.reduceBEq, reduceIte, reduceCtorEq, Nat.reduceEqDiff, Nat.reduceAdd, Nat.reduceMul, Nat.reduceSub, Nat.reduceLeDiff, Nat.reduceLT, Nat.reducePow, Int.reduceToNat, Int.reduceLT, Int.reduceLE, Int.reduceEq, Int.reduceAdd, Int.reduceSub, Int.reduceNeg, r81, c1, c2, c3, c4, lo54, hI, intsV_one, fresh_dn hM, fresh_at hM]
      have c5 : 15 < n := by
        simp only [c1, true_and] at hc
        omega
      simp (maxDischargeDepth := 80) only [push_cast, Nat.reduceBEq, reduceIte, reduceCtorEq, Nat.reduceEqDiff, Nat.reduceAdd, Nat.reduceMul, Nat.reduceSub, Nat.reduceLeDiff, Nat.reduceLT, Nat.reducePow, Int.reduceToNat, Int.reduceLT, Int.reduceLE, Int.reduceEq, Int.reduceAdd, Int.reduceSub, Int.reduceNeg, r81, c1, c2, c3, c4, c5, lo54, hI, intsV_one, fresh_dn hM, fresh_at hM]
  obtain ⟨c1, c2, c3, c4, c5⟩ := hc
  have k1 : ¬ k < 1 := by omega
  have k2 : ¬ 3 < k := by omega
  have k3 : ¬ n < 1 := by omega
  have k4 : ¬ 15 < n := by omega
  have rA := fun s' M' (q1 : FreshM s' M') => among_E (intsV g.1) s' M' q1 hv.one hv.cells
  have rB := fun s' M' (q1 : FreshM s' M') => among_E (intsV g.2) s' M' q1 hw.one hw.cells
  have rC := fun i x s' M' (q1 : FreshM s' M') (q2 : Sub M M') (q3 : M' i = some (.cells [intsV g.1])) => amongC_E i (intsV g.1) (intsL g.1) x s' M' q1 q3 (hv.mono q2)
  have rD := fun i x s' M' (q1 : FreshM s' M') (q2 : Sub M M') (q3 : M' i = some (.cells [intsV g.2])) => amongC_E i (intsV g.2) (intsL g.2) x s' M' q1 q3 (hw.mono q2)
  simp (maxDischargeDepth := 80) only [push_cast, Nat.reduceBEq, reduceIte, reduceCtorEq, Nat.reduceEqDiff, Nat.reduceAdd, Nat.reduceMul, Nat.reduceSub, Nat.reduceLeDiff, Nat.reduceLT, Nat.reducePow, Int.reduceToNat, Int.reduceLT, Int.reduceLE, Int.reduceEq, Int.reduceAdd, Int.reduceSub, Int.reduceNeg, r81, c1, k1, k2, k3, k4, lo54, hI, intsV_one, intsV_cells, fresh_dn hM, fresh_at hM]
  have hk3 := fun s f M hM h3 h5 m3 m5 => @chk54_3 (0 :: 0 :: 0 :: s0) (1 :: 0 :: 0 :: s0) (intsV g.1) (intsV g.2) n (intsL g.1) (intsL g.2) s f M hM h3 h5 m3 m5 (RdI_ints M g.1 (by omega)) (RdI_ints M g.2 (by omega))
  have hk5 := fun s f M hM h3 h10 m3 m5 => @chk54_5 (0 :: 0 :: 0 :: s0) (1 :: 0 :: 0 :: s0) g.1 g.2 n s f M hM h3 h10 m3 m5 h1
  simp only [opsAt, Tryz.f54, regAt, reduceIte, Option.getD_some, reduceCtorEq, Nat.reduceEqDiff] at hk3 hk5
  simp (maxDischargeDepth := 80) only [push_cast, Nat.reduceBEq, reduceIte, reduceCtorEq, Nat.reduceEqDiff, Nat.reduceAdd, Nat.reduceMul, Nat.reduceSub, Nat.reduceLeDiff, Nat.reduceLT, Nat.reducePow, Int.reduceToNat, Int.reduceLT, Int.reduceLE, Int.reduceEq, Int.reduceAdd, Int.reduceSub, Int.reduceNeg, hk3, hk5, z88n, rA, rB, rC, rD, lo54, hI, h1, intsV_one, intsV_cells, fresh_dn hM, fresh_at hM]
  obtain ⟨M0, hM0⟩ : ∃ M0, M0 = ((((M.set (0 :: 0 :: 0 :: s0) (.cells [intsV g.1, intsV g.2])).set (1 :: 0 :: 0 :: s0) (.cells [.int .i64 n])).set (2 :: 0 :: 0 :: s0) (.cells [.nils, .nils])).set (0 :: 0 :: 0 :: 2 :: 0 :: 1 :: 1 :: 0 :: s0) (.cells [intsV g.1])).set (0 :: 0 :: 0 :: 7 :: 0 :: 1 :: 1 :: 0 :: s0) (.cells [intsV g.2]) := ⟨_, rfl⟩
  rw [← hM0]
  have hS0 : Sub M M0 := by rw [hM0]; simp (maxDischargeDepth := 80) only [push_cast, Nat.reduceBEq, reduceIte, reduceCtorEq, Nat.reduceEqDiff, Nat.reduceAdd, Nat.reduceMul, Nat.reduceSub, Nat.reduceLeDiff, Nat.reduceLT, Nat.reducePow, Int.reduceToNat, Int.reduceLT, Int.reduceLE, Int.reduceEq, Int.reduceAdd, Int.reduceSub, Int.reduceNeg, fresh_dn hM, fresh_at hM]
  have hF0 : FreshM (1 :: 1 :: 1 :: 1 :: 0 :: s0) M0 := by rw [hM0]; simp (maxDischargeDepth := 80) only [push_cast, Nat.reduceBEq, reduceIte, reduceCtorEq, Nat.reduceEqDiff, Nat.reduceAdd, Nat.reduceMul, Nat.reduceSub, Nat.reduceLeDiff, Nat.reduceLT, Nat.reducePow, Int.reduceToNat, Int.reduceLT, Int.reduceLE, Int.reduceEq, Int.reduceAdd, Int.reduceSub, Int.reduceNeg, fresh_dn hM, fresh_at hM]
  have m03 : M0 (0 :: 0 :: 0 :: s0) = some (.cells [intsV g.1, intsV g.2]) := by rw [hM0]; simp (maxDischargeDepth := 80) only [push_cast, Nat.reduceBEq, reduceIte, reduceCtorEq, Nat.reduceEqDiff, Nat.reduceAdd, Nat.reduceMul, Nat.reduceSub, Nat.reduceLeDiff, Nat.reduceLT, Nat.reducePow, Int.reduceToNat, Int.reduceLT, Int.reduceLE, Int.reduceEq, Int.reduceAdd, Int.reduceSub, Int.reduceNeg]
  have m05 : M0 (1 :: 0 :: 0 :: s0) = some (.cells [.int .i64 n]) := by rw [hM0]; simp (maxDischargeDepth := 80) only [push_cast, Nat.reduceBEq, reduceIte, reduceCtorEq, Nat.reduceEqDiff, Nat.reduceAdd, Nat.reduceMul, Nat.reduceSub, Nat.reduceLeDiff, Nat.reduceLT, Nat.reducePow, Int.reduceToNat, Int.reduceLT, Int.reduceLE, Int.reduceEq, Int.reduceAdd, Int.reduceSub, Int.reduceNeg]
  have m06 : M0 (2 :: 0 :: 0 :: s0) = some (.cells [.nils, .nils]) := by rw [hM0]; simp (maxDischargeDepth := 80) only [push_cast, Nat.reduceBEq, reduceIte, reduceCtorEq, Nat.reduceEqDiff, Nat.reduceAdd, Nat.reduceMul, Nat.reduceSub, Nat.reduceLeDiff, Nat.reduceLT, Nat.reducePow, Int.reduceToNat, Int.reduceLT, Int.reduceLE, Int.reduceEq, Int.reduceAdd, Int.reduceSub, Int.reduceNeg]
  clear hM0 hk3 hk5
  refine Okk.call (cloneO_E g.1 h1 _ _ (fresh_dn hF0 (by simp (maxDischargeDepth := 80) only [push_cast, Nat.reduceBEq, reduceIte, reduceCtorEq, Nat.reduceEqDiff, Nat.reduceAdd, Nat.reduceMul, Nat.reduceSub, Nat.reduceLeDiff, Nat.reduceLT, Nat.reducePow, Int.reduceToNat, Int.reduceLT, Int.reduceLE, Int.reduceEq, Int.reduceAdd, Int.reduceSub, Int.reduceNeg]))) ?_
  rintro ⟨v1, M1⟩ ⟨t1, ht1, hO1, hfr1⟩
  have n1 : ∀ i, Off (1 :: 1 :: 1 :: 1 :: 0 :: s0) i → i ≠ t1 := fun i hi e => hi (List.IsSuffix.trans (by exact ⟨[2, 0], rfl⟩) (e ▸ ht1))
  have q1 : ∀ i, Off (1 :: 1 :: 1 :: 1 :: 0 :: s0) i → M1 i = M0 i := fun i hi => hfr1 i (Off_dn hi (by simp (maxDischargeDepth := 80) only [push_cast, Nat.reduceBEq, reduceIte, reduceCtorEq, Nat.reduceEqDiff, Nat.reduceAdd, Nat.reduceMul, Nat.reduceSub, Nat.reduceLeDiff, Nat.reduceLT, Nat.reducePow, Int.reduceToNat, Int.reduceLT, Int.reduceLE, Int.reduceEq, Int.reduceAdd, Int.reduceSub, Int.reduceNeg])) (by simp)
  dsimp only
  refine Okk.call (deleteO_E n (1 :: 0 :: 0 :: s0) _ (hfr1.to hF0 (by simp (maxDischargeDepth := 80) only [push_cast, Nat.reduceBEq, reduceIte, reduceCtorEq, Nat.reduceEqDiff, Nat.reduceAdd, Nat.reduceMul, Nat.reduceSub, Nat.reduceLeDiff, Nat.reduceLT, Nat.reducePow, Int.reduceToNat, Int.reduceLT, Int.reduceLE, Int.reduceEq, Int.reduceAdd, Int.reduceSub, Int.reduceNeg]) (by simp (maxDischargeDepth := 80) only [push_cast, Nat.reduceBEq, reduceIte, reduceCtorEq, Nat.reduceEqDiff, Nat.reduceAdd, Nat.reduceMul, Nat.reduceSub, Nat.reduceLeDiff, Nat.reduceLT, Nat.reducePow, Int.reduceToNat, Int.reduceLT, Int.reduceLE, Int.reduceEq, Int.reduceAdd, Int.reduceSub, Int.reduceNeg]) (by simp (maxDischargeDepth := 80) only [push_cast, Nat.reduceBEq, reduceIte, reduceCtorEq, Nat.reduceEqDiff, Nat.reduceAdd, Nat.reduceMul, Nat.reduceSub, Nat.reduceLeDiff, Nat.reduceLT, Nat.reducePow, Int.reduceToNat, Int.reduceLT, Int.reduceLE, Int.reduceEq, Int.reduceAdd, Int.reduceSub, Int.reduceNeg]) (by simp)) hO1 h1 ((q1 _ (by simp (maxDischargeDepth := 80) only [push_cast, Nat.reduceBEq, reduceIte, reduceCtorEq, Nat.reduceEqDiff, Nat.reduceAdd, Nat.reduceMul, Nat.reduceSub, Nat.reduceLeDiff, Nat.reduceLT, Nat.reducePow, Int.reduceToNat, Int.reduceLT, Int.reduceLE, Int.reduceEq, Int.reduceAdd, Int.reduceSub, Int.reduceNeg])).trans m05) (n1 _ (by simp (maxDischargeDepth := 80) only [push_cast, Nat.reduceBEq, reduceIte, reduceCtorEq, Nat.reduceEqDiff, Nat.reduceAdd, Nat.reduceMul, Nat.reduceSub, Nat.reduceLeDiff, Nat.reduceLT, Nat.reducePow, Int.reduceToNat, Int.reduceLT, Int.reduceLE, Int.reduceEq, Int.reduceAdd, Int.reduceSub, Int.reduceNeg]))) ?_
  rintro ⟨v2, M2⟩ ⟨Z2, _, hO2, hfr2⟩
  have q2 : ∀ i, Off (1 :: 1 :: 1 :: 1 :: 0 :: s0) i → M2 i = M0 i := fun i hi => (hfr2 i (n1 i hi)).trans (q1 i hi)
  have fr2 : FrM (2 :: 0 :: 1 :: 1 :: 1 :: 1 :: 0 :: s0) [] M0 M2 := fun i hi hx => (hfr2 i (fun e => hi (e ▸ ht1))).trans (hfr1 i hi hx)
  have p23 := (q2 _ (by simp (maxDischargeDepth := 80) only [push_cast, Nat.reduceBEq, reduceIte, reduceCtorEq, Nat.reduceEqDiff, Nat.reduceAdd, Nat.reduceMul, Nat.reduceSub, Nat.reduceLeDiff, Nat.reduceLT, Nat.reducePow, Int.reduceToNat, Int.reduceLT, Int.reduceLE, Int.reduceEq, Int.reduceAdd, Int.reduceSub, Int.reduceNeg])).trans m03
  simp (maxDischargeDepth := 80) only [push_cast, Nat.reduceBEq, reduceIte, reduceCtorEq, Nat.reduceEqDiff, Nat.reduceAdd, Nat.reduceMul, Nat.reduceSub, Nat.reduceLeDiff, Nat.reduceLT, Nat.reducePow, Int.reduceToNat, Int.reduceLT, Int.reduceLE, Int.reduceEq, Int.reduceAdd, Int.reduceSub, Int.reduceNeg, p23]
  refine Okk.call (cloneO_E g.2 h2 _ _ (fr2.to hF0 (by simp (maxDischargeDepth := 80) only [push_cast, Nat.reduceBEq, reduceIte, reduceCtorEq, Nat.reduceEqDiff, Nat.reduceAdd, Nat.reduceMul, Nat.reduceSub, Nat.reduceLeDiff, Nat.reduceLT, Nat.reducePow, Int.reduceToNat, Int.reduceLT, Int.reduceLE, Int.reduceEq, Int.reduceAdd, Int.reduceSub, Int.reduceNeg]) (by simp (maxDischargeDepth := 80) only [push_cast, Nat.reduceBEq, reduceIte, reduceCtorEq, Nat.reduceEqDiff, Nat.reduceAdd, Nat.reduceMul, Nat.reduceSub, Nat.reduceLeDiff, Nat.reduceLT, Nat.reducePow, Int.reduceToNat, Int.reduceLT, Int.reduceLE, Int.reduceEq, Int.reduceAdd, Int.reduceSub, Int.reduceNeg]) (by simp (maxDischargeDepth := 80) only [push_cast, Nat.reduceBEq, reduceIte, reduceCtorEq, Nat.reduceEqDiff, Nat.reduceAdd, Nat.reduceMul, Nat.reduceSub, Nat.reduceLeDiff, Nat.reduceLT, Nat.reducePow, Int.reduceToNat, Int.reduceLT, Int.reduceLE, Int.reduceEq, Int.reduceAdd, Int.reduceSub, Int.reduceNeg]) (by simp))) ?_
  rintro ⟨v3, M3⟩ ⟨t3, ht3, hO3, hfr3⟩
  have n3 : ∀ i, Off (1 :: 1 :: 1 :: 1 :: 0 :: s0) i → i ≠ t3 := fun i hi e => hi (List.IsSuffix.trans (by exact ⟨[7, 0], rfl⟩) (e ▸ ht3))
  have n13 : t1 ≠ t3 := fun e => by
    have := suffix_cons_eq ht1 (e ▸ ht3)
    omega
  have q3 : ∀ i, Off (1 :: 1 :: 1 :: 1 :: 0 :: s0) i → M3 i = M0 i := fun i hi => (hfr3 i (Off_dn hi (by simp (maxDischargeDepth := 80) only [push_cast, Nat.reduceBEq, reduceIte, reduceCtorEq, Nat.reduceEqDiff, Nat.reduceAdd, Nat.reduceMul, Nat.reduceSub, Nat.reduceLeDiff, Nat.reduceLT, Nat.reducePow, Int.reduceToNat, Int.reduceLT, Int.reduceLE, Int.reduceEq, Int.reduceAdd, Int.reduceSub, Int.reduceNeg])) (by simp)).trans (q2 i hi)
  dsimp only
  have f9 : FreshM (9 :: 0 :: 1 :: 1 :: 1 :: 1 :: 0 :: s0) M3 := hfr3.fr (fr2.to hF0 (by simp (maxDischargeDepth := 80) only [push_cast, Nat.reduceBEq, reduceIte, reduceCtorEq, Nat.reduceEqDiff, Nat.reduceAdd, Nat.reduceMul, Nat.reduceSub, Nat.reduceLeDiff, Nat.reduceLT, Nat.reducePow, Int.reduceToNat, Int.reduceLT, Int.reduceLE, Int.reduceEq, Int.reduceAdd, Int.reduceSub, Int.reduceNeg]) (by simp (maxDischargeDepth := 80) only [push_cast, Nat.reduceBEq, reduceIte, reduceCtorEq, Nat.reduceEqDiff, Nat.reduceAdd, Nat.reduceMul, Nat.reduceSub, Nat.reduceLeDiff, Nat.reduceLT, Nat.reducePow, Int.reduceToNat, Int.reduceLT, Int.reduceLE, Int.reduceEq, Int.reduceAdd, Int.reduceSub, Int.reduceNeg]) (by simp (maxDischargeDepth := 80) only [push_cast, Nat.reduceBEq, reduceIte, reduceCtorEq, Nat.reduceEqDiff, Nat.reduceAdd, Nat.reduceMul, Nat.reduceSub, Nat.reduceLeDiff, Nat.reduceLT, Nat.reducePow, Int.reduceToNat, Int.reduceLT, Int.reduceLE, Int.reduceEq, Int.reduceAdd, Int.reduceSub, Int.reduceNeg]) (by simp)) (by simp (maxDischargeDepth := 80) only [push_cast, Nat.reduceBEq, reduceIte, reduceCtorEq, Nat.reduceEqDiff, Nat.reduceAdd, Nat.reduceMul, Nat.reduceSub, Nat.reduceLeDiff, Nat.reduceLT, Nat.reducePow, Int.reduceToNat, Int.reduceLT, Int.reduceLE, Int.reduceEq, Int.reduceAdd, Int.reduceSub, Int.reduceNeg]) (by simp (maxDischargeDepth := 80) only [push_cast, Nat.reduceBEq, reduceIte, reduceCtorEq, Nat.reduceEqDiff, Nat.reduceAdd, Nat.reduceMul, Nat.reduceSub, Nat.reduceLeDiff, Nat.reduceLT, Nat.reducePow, Int.reduceToNat, Int.reduceLT, Int.reduceLE, Int.reduceEq, Int.reduceAdd, Int.reduceSub, Int.reduceNeg]) (by simp)
  refine Okk.call (deleteO_E n (1 :: 0 :: 0 :: s0) _ f9 hO3 h2 ((q3 _ (by simp (maxDischargeDepth := 80) only [push_cast, Nat.reduceBEq, reduceIte, reduceCtorEq, Nat.reduceEqDiff, Nat.reduceAdd, Nat.reduceMul, Nat.reduceSub, Nat.reduceLeDiff, Nat.reduceLT, Nat.reducePow, Int.reduceToNat, Int.reduceLT, Int.reduceLE, Int.reduceEq, Int.reduceAdd, Int.reduceSub, Int.reduceNeg])).trans m05) (n3 _ (by simp (maxDischargeDepth := 80) only [push_cast, Nat.reduceBEq, reduceIte, reduceCtorEq, Nat.reduceEqDiff, Nat.reduceAdd, Nat.reduceMul, Nat.reduceSub, Nat.reduceLeDiff, Nat.reduceLT, Nat.reducePow, Int.reduceToNat, Int.reduceLT, Int.reduceLE, Int.reduceEq, Int.reduceAdd, Int.reduceSub, Int.reduceNeg]))) ?_
  rintro ⟨v4, M4⟩ ⟨Z4, _, hO4, hfr4⟩
  have q4 : ∀ i, Off (1 :: 1 :: 1 :: 1 :: 0 :: s0) i → M4 i = M0 i := fun i hi => (hfr4 i (n3 i hi)).trans (q3 i hi)
  have fr4 : FrM (7 :: 0 :: 1 :: 1 :: 1 :: 1 :: 0 :: s0) [] M2 M4 := fun i hi hx => (hfr4 i (fun e => hi (e ▸ ht3))).trans (hfr3 i hi hx)
  have hO2' : Ow M4 t1 Z2 v2 (g.1.map (wout · n)) := hO2.keep (fr4 _ (Off_deep (by omega) ht1) (by simp))
  have hS4 : Sub M M4 := fun i o e => (q4 i (Off_dn (Off_of hM e) (by simp (maxDischargeDepth := 80) only [push_cast, Nat.reduceBEq, reduceIte, reduceCtorEq, Nat.reduceEqDiff, Nat.reduceAdd, Nat.reduceMul, Nat.reduceSub, Nat.reduceLeDiff, Nat.reduceLT, Nat.reducePow, Int.reduceToNat, Int.reduceLT, Int.reduceLE, Int.reduceEq, Int.reduceAdd, Int.reduceSub, Int.reduceNeg]))).trans (hS0 i o e)
  have F4 : ∀ u, Un (1 :: 1 :: 1 :: 1 :: 0 :: s0) u → Off (2 :: 0 :: 1 :: 1 :: 1 :: 1 :: 0 :: s0) u → Off u (2 :: 0 :: 1 :: 1 :: 1 :: 1 :: 0 :: s0) → Off (7 :: 0 :: 1 :: 1 :: 1 :: 1 :: 0 :: s0) u → Off u (7 :: 0 :: 1 :: 1 :: 1 :: 1 :: 0 :: s0) → FreshM u M4 :=
    fun u a b c d e => fr4.fr (fr2.to hF0 a b c (by simp)) d e (by simp)
  have p46 := (q4 _ (by simp (maxDischargeDepth := 80) only [push_cast, Nat.reduceBEq, reduceIte, reduceCtorEq, Nat.reduceEqDiff, Nat.reduceAdd, Nat.reduceMul, Nat.reduceSub, Nat.reduceLeDiff, Nat.reduceLT, Nat.reducePow, Int.reduceToNat, Int.reduceLT, Int.reduceLE, Int.reduceEq, Int.reduceAdd, Int.reduceSub, Int.reduceNeg])).trans m06
  have p45 := (q4 _ (by simp (maxDischargeDepth := 80) only [push_cast, Nat.reduceBEq, reduceIte, reduceCtorEq, Nat.reduceEqDiff, Nat.reduceAdd, Nat.reduceMul, Nat.reduceSub, Nat.reduceLeDiff, Nat.reduceLT, Nat.reducePow, Int.reduceToNat, Int.reduceLT, Int.reduceLE, Int.reduceEq, Int.reduceAdd, Int.reduceSub, Int.reduceNeg])).trans m05
  simp (maxDischargeDepth := 80) only [push_cast, Nat.reduceBEq, reduceIte, reduceCtorEq, Nat.reduceEqDiff, Nat.reduceAdd, Nat.reduceMul, Nat.reduceSub, Nat.reduceLeDiff, Nat.reduceLT, Nat.reducePow, Int.reduceToNat, Int.reduceLT, Int.reduceLE, Int.reduceEq, Int.reduceAdd, Int.reduceSub, Int.reduceNeg, hO2'.one, hO2'.cells, hO4.one, hO4.cells, lo54, p45, p46]
  have b11 : Un (1 :: 1 :: 1 :: 1 :: 0 :: s0) (11 :: 0 :: 1 :: 1 :: 1 :: 1 :: 0 :: s0) := by simp (maxDischargeDepth := 80) only [push_cast, Nat.reduceBEq, reduceIte, reduceCtorEq, Nat.reduceEqDiff, Nat.reduceAdd, Nat.reduceMul, Nat.reduceSub, Nat.reduceLeDiff, Nat.reduceLT, Nat.reducePow, Int.reduceToNat, Int.reduceLT, Int.reduceLE, Int.reduceEq, Int.reduceAdd, Int.reduceSub, Int.reduceNeg]
  have t1a : t1 ≠ 11 :: 0 :: 1 :: 1 :: 1 :: 1 :: 0 :: s0 := fun e => absurd (suffix_cons_eq (e ▸ ht1) (List.suffix_refl (11 :: 0 :: 1 :: 1 :: 1 :: 1 :: 0 :: s0))) (by decide)
  have t3a : t3 ≠ 11 :: 0 :: 1 :: 1 :: 1 :: 1 :: 0 :: s0 := fun e => absurd (suffix_cons_eq (e ▸ ht3) (List.suffix_refl (11 :: 0 :: 1 :: 1 :: 1 :: 1 :: 0 :: s0))) (by decide)
  have t1b := (n1 (2 :: 0 :: 0 :: s0) (by simp (maxDischargeDepth := 80) only [push_cast, Nat.reduceBEq, reduceIte, reduceCtorEq, Nat.reduceEqDiff, Nat.reduceAdd, Nat.reduceMul, Nat.reduceSub, Nat.reduceLeDiff, Nat.reduceLT, Nat.reducePow, Int.reduceToNat, Int.reduceLT, Int.reduceLE, Int.reduceEq, Int.reduceAdd, Int.reduceSub, Int.reduceNeg])).symm
  have t3b := (n3 (2 :: 0 :: 0 :: s0) (by simp (maxDischargeDepth := 80) only [push_cast, Nat.reduceBEq, reduceIte, reduceCtorEq, Nat.reduceEqDiff, Nat.reduceAdd, Nat.reduceMul, Nat.reduceSub, Nat.reduceLeDiff, Nat.reduceLT, Nat.reducePow, Int.reduceToNat, Int.reduceLT, Int.reduceLE, Int.reduceEq, Int.reduceAdd, Int.reduceSub, Int.reduceNeg])).symm
  refine join_cs (fun f' M' => ∃ w1 w2 o1 o2 ta tb Za Zb, ∃ may : Bool, f' 12 = .bool may ∧ f' 11 = .ptr (11 :: 0 :: 1 :: 1 :: 1 :: 1 :: 0 :: s0) 0 ∧ f' 6 = .ptr (2 :: 0 :: 0 :: s0) 0 ∧ M' (11 :: 0 :: 1 :: 1 :: 1 :: 1 :: 0 :: s0) = some (.cells [w1, w2]) ∧ M' (2 :: 0 :: 0 :: s0) = some (.cells [.nils, .nils]) ∧
    Ow M' ta Za w1 o1 ∧ Ow M' tb Zb w2 o2 ∧ ta ≠ tb ∧ (11 :: 0 :: 1 :: 1 :: 1 :: 1 :: 0 :: s0 ≠ ta ∧ 11 :: 0 :: 1 :: 1 :: 1 :: 1 :: 0 :: s0 ≠ tb) ∧ (2 :: 0 :: 0 :: s0 ≠ ta ∧ 2 :: 0 :: 0 :: s0 ≠ tb) ∧ (∀ i o, M i = some o → M' i = some o ∧ i ≠ ta ∧ i ≠ tb) ∧
    (intsL o1).length < 2 ^ 35 ∧ (intsL o2).length < 2 ^ 35 ∧ changeL g k n = if may then some (o1.map sortI, o2.map sortI) else none) ?_ ?_
  · rintro f' M' ⟨w1, w2, o1, o2, ta, tb, Za, Zb, may, g12, g11, g6, ma, mb, Oa, Ob, nab, na, nb, hS, la, lb, hch⟩
    cases may with
    | false =>
      have e2 : changeR g k n = (none, none) := by unfold changeR; rw [hch]; rfl
      have e3 : changeC g k n = 7 := by unfold changeC; rw [hch]; exact if_pos ⟨c1, c2, c3, c4, c5⟩
      have hS' : Sub M M' := fun i o e => (hS i o e).1
      rw [e2, e3]
      simp (maxDischargeDepth := 80) only [push_cast, Nat.reduceBEq, reduceIte, reduceCtorEq, Nat.reduceEqDiff, Nat.reduceAdd, Nat.reduceMul, Nat.reduceSub, Nat.reduceLeDiff, Nat.reduceLT, Nat.reducePow, Int.reduceToNat, Int.reduceLT, Int.reduceLE, Int.reduceEq, Int.reduceAdd, Int.reduceSub, Int.reduceNeg, g12, g11, g6, ma, mb, hI, lo54, hS', fresh_dn hM, fresh_at hM]
    | true =>
      have e2 : changeR g k n = (o1.map sortI, o2.map sortI) := by unfold changeR; rw [hch]; rfl
      have e3 : changeC g k n = 0 := by unfold changeC; rw [hch]; rfl
      rw [e2, e3]
      simp (maxDischargeDepth := 80) only [push_cast, Nat.reduceBEq, reduceIte, reduceCtorEq, Nat.reduceEqDiff, Nat.reduceAdd, Nat.reduceMul, Nat.reduceSub, Nat.reduceLeDiff, Nat.reduceLT, Nat.reducePow, Int.reduceToNat, Int.reduceLT, Int.reduceLE, Int.reduceEq, Int.reduceAdd, Int.reduceSub, Int.reduceNeg, g12, g11, g6, ma, mb, lo54]
      refine Okk.call (sortO_E _ _ Oa la) ?_
      rintro ⟨_, M5⟩ ⟨rfl, Oa5, fr5⟩
      dsimp only at Oa5 fr5 ⊢
      have ma5 := (fr5 _ na.1).trans ma
      simp (maxDischargeDepth := 80) only [push_cast, Nat.reduceBEq, reduceIte, reduceCtorEq, Nat.reduceEqDiff, Nat.reduceAdd, Nat.reduceMul, Nat.reduceSub, Nat.reduceLeDiff, Nat.reduceLT, Nat.reducePow, Int.reduceToNat, Int.reduceLT, Int.reduceLE, Int.reduceEq, Int.reduceAdd, Int.reduceSub, Int.reduceNeg, g12, g11, g6, ma5, lo54]
      refine Okk.call (sortO_E _ _ (Ob.keep (fr5 _ (Ne.symm nab))) lb) ?_
      rintro ⟨_, M6⟩ ⟨rfl, Ob6, fr6⟩
      dsimp only at Ob6 fr6 ⊢
      have Oa6 := Oa5.keep (fr6 _ nab)
      have ma6 := (fr6 _ na.2).trans ma5
      have mb6 := (fr6 _ nb.2).trans ((fr5 _ nb.1).trans mb)
      simp (maxDischargeDepth := 80) only [push_cast, Nat.reduceBEq, reduceIte, reduceCtorEq, Nat.reduceEqDiff, Nat.reduceAdd, Nat.reduceMul, Nat.reduceSub, Nat.reduceLeDiff, Nat.reduceLT, Nat.reducePow, Int.reduceToNat, Int.reduceLT, Int.reduceLE, Int.reduceEq, Int.reduceAdd, Int.reduceSub, Int.reduceNeg, g12, g11, g6, ma6, mb6, lo54, Oa6.one, Ob6.one]
      have k7 : ∀ j, j ≠ 2 :: 0 :: 0 :: s0 → (M6.set (2 :: 0 :: 0 :: s0) (AObj.cells [w1, w2])) j = M6 j := fun j hj => by simp [Mem.set, hj]
      obtain ⟨⟨u1, M7⟩, ef1, hu1, fr7⟩ := freezeO_E (Oa6.keep (k7 _ (Ne.symm nb.1)))
      obtain ⟨⟨u2, M8⟩, ef2, hu2, fr8⟩ := freezeO_E (Ob6.keep ((fr7 _ (Ne.symm nab)).trans (k7 _ (Ne.symm nb.2))))
      dsimp only at hu1 hu2 fr7 fr8
      subst hu1 hu2
      have hS' : Sub M M8 := fun i o e => by
        obtain ⟨e1, e2, e3⟩ := hS i o e
        have e4 : i ≠ 2 :: 0 :: 0 :: s0 := fun q => by
          have := hM (2 :: 0 :: 0 :: s0) ⟨[2, 0, 0], rfl⟩
          rw [← q, e] at this; cases this
        rw [fr8 i e3, fr7 i e2, k7 i e4, fr6 i e3, fr5 i e2, e1]
      simp (maxDischargeDepth := 80) only [push_cast, Nat.reduceBEq, reduceIte, reduceCtorEq, Nat.reduceEqDiff, Nat.reduceAdd, Nat.reduceMul, Nat.reduceSub, Nat.reduceLeDiff, Nat.reduceLT, Nat.reducePow, Int.reduceToNat, Int.reduceLT, Int.reduceLE, Int.reduceEq, Int.reduceAdd, Int.reduceSub, Int.reduceNeg, ef1, ef2, hS']
  · intro k' fin
    have hv1 : (intsL (g.1.map (wout · n))).length < 2 ^ 35 := by rw [intsL_map _ _ rfl]; have := wout_len (intsL g.1) n; omega
    have hv2 : (intsL (g.2.map (wout · n))).length < 2 ^ 35 := by rw [intsL_map _ _ rfl]; have := wout_len (intsL g.2) n; omega
    have hch : changeL g k n = if k = 1 then (if !((intsL g.1).contains n) && !((intsL g.2).contains n) then some ((g.1.map (wout · n)).map sortI, some (sortI (intsL (g.2.map (wout · n)) ++ [n]))) else none)
      else if k = 2 then (if (intsL g.2).contains n then some (some (sortI (intsL (g.1.map (wout · n)) ++ [n])), (g.2.map (wout · n)).map sortI) else none)
      else (if (intsL g.2).contains n || ((intsL g.1).contains n && decide (0 < ((intsL (g.1.map (wout · n))).length : Int))) then some ((g.1.map (wout · n)).map sortI, (g.2.map (wout · n)).map sortI) else none) := by
      unfold changeL; rw [if_pos ⟨c1, c2, c3, c4, c5⟩]; rfl
    have hvb1 : (intsL (g.1.map (wout · n))).length ≤ 15 := by rw [intsL_map _ _ rfl]; have := wout_len (intsL g.1) n; have := rises_len ((right_iff _ _).1 c1).1; omega
    have hvb2 : (intsL (g.2.map (wout · n))).length ≤ 15 := by rw [intsL_map _ _ rfl]; have := wout_len (intsL g.2) n; have := rises_len ((right_iff _ _).1 c1).2.1; omega
    have nt1 : ∀ i, Off (2 :: 0 :: 1 :: 1 :: 1 :: 1 :: 0 :: s0) i → t1 ≠ i := fun i hi e => hi (e ▸ ht1)
    have nt3 : ∀ i, Off (7 :: 0 :: 1 :: 1 :: 1 :: 1 :: 0 :: s0) i → t3 ≠ i := fun i hi e => hi (e ▸ ht3)
    by_cases d1 : k = 1
    · rw [if_pos d1] at hch
      cases b1 : (intsL g.1).contains n <;> cases b2 : (intsL g.2).contains n
      all_goals
        rw [b1, b2] at hch
        simp (maxDischargeDepth := 80) only [push_cast, Nat.reduceBEq, reduceIte, reduceCtorEq, Nat.reduceEqDiff, Nat.reduceAdd, Nat.reduceMul, Nat.reduceSub, Nat.reduceLeDiff, Nat.reduceLT, Nat.reducePow, Int.reduceToNat, Int.reduceLT, Int.reduceLE, Int.reduceEq, Int.reduceAdd, Int.reduceSub, Int.reduceNeg, eq_true d1, b1, b2, lo54, p46, p45, hO2'.one, hO4.one]
        have hx := appendO_E (M := (M4.set (11 :: 0 :: 1 :: 1 :: 1 :: 1 :: 0 :: s0) (.cells [v2, v4])).set (3 :: 1 :: 0 :: 1 :: 0 :: 1 :: 0 :: 1 :: 1 :: 1 :: 1 :: 1 :: 1 :: 0 :: s0) (.cells [.int .i64 n])) ⟨1, false, 8, [.int .i64 0], false⟩ rfl n (4 :: 1 :: 0 :: 1 :: 0 :: 1 :: 0 :: 1 :: 1 :: 1 :: 1 :: 1 :: 1 :: 0 :: s0) (hO4.keep (by simp only [Mem.set, t3a, if_false, nt3 (3 :: 1 :: 0 :: 1 :: 0 :: 1 :: 0 :: 1 :: 1 :: 1 :: 1 :: 1 :: 1 :: 0 :: s0) (by simp (maxDischargeDepth := 80) only [push_cast, Nat.reduceBEq, reduceIte, reduceCtorEq, Nat.reduceEqDiff, Nat.reduceAdd, Nat.reduceMul, Nat.reduceSub, Nat.reduceLeDiff, Nat.reduceLT, Nat.reducePow, Int.reduceToNat, Int.reduceLT, Int.reduceLE, Int.reduceEq, Int.reduceAdd, Int.reduceSub, Int.reduceNeg])])) hv2
        refine Okk.call hx ?_
        rintro ⟨w, M5⟩ ⟨t', Z', hOw, ht', fr5⟩
        dsimp only at hOw fr5 ⊢
        have hw1 := hOw.one
        have hw2 := hOw.cells
        have m5 : M5 (11 :: 0 :: 1 :: 1 :: 1 :: 1 :: 0 :: s0) = some (.cells [v2, v4]) := by
          rw [fr5 _ (Ne.symm t3a)]
          · simp (maxDischargeDepth := 80) only [push_cast, Nat.reduceBEq, reduceIte, reduceCtorEq, Nat.reduceEqDiff, Nat.reduceAdd, Nat.reduceMul, Nat.reduceSub, Nat.reduceLeDiff, Nat.reduceLT, Nat.reducePow, Int.reduceToNat, Int.reduceLT, Int.reduceLE, Int.reduceEq, Int.reduceAdd, Int.reduceSub, Int.reduceNeg]
          · simp
        simp (maxDischargeDepth := 80) only [push_cast, Nat.reduceBEq, reduceIte, reduceCtorEq, Nat.reduceEqDiff, Nat.reduceAdd, Nat.reduceMul, Nat.reduceSub, Nat.reduceLeDiff, Nat.reduceLT, Nat.reducePow, Int.reduceToNat, Int.reduceLT, Int.reduceLE, Int.reduceEq, Int.reduceAdd, Int.reduceSub, Int.reduceNeg, m5, hw1, hw2, hO2'.one, hO4.one, hO2'.cells, hO4.cells]
        have t'a : t' ≠ 11 :: 0 :: 1 :: 1 :: 1 :: 1 :: 0 :: s0 := ht'.elim (fun q => by rw [q]; simp) (fun q => by rw [q]; exact t3a)
        have t'b : t' ≠ 2 :: 0 :: 0 :: s0 := ht'.elim (fun q => by rw [q]; simp) (fun q => by rw [q]; exact t3b)
        have t'o : t1 ≠ t' := ht'.elim (fun q => by rw [q]; exact nt1 _ (by simp (maxDischargeDepth := 80) only [push_cast, Nat.reduceBEq, reduceIte, reduceCtorEq, Nat.reduceEqDiff, Nat.reduceAdd, Nat.reduceMul, Nat.reduceSub, Nat.reduceLeDiff, Nat.reduceLT, Nat.reducePow, Int.reduceToNat, Int.reduceLT, Int.reduceLE, Int.reduceEq, Int.reduceAdd, Int.reduceSub, Int.reduceNeg])) (fun q => by rw [q]; exact n13)
        have k5 : ∀ j, j ≠ 11 :: 0 :: 1 :: 1 :: 1 :: 1 :: 0 :: s0 → j ≠ t3 → j ≠ 4 :: 1 :: 0 :: 1 :: 0 :: 1 :: 0 :: 1 :: 1 :: 1 :: 1 :: 1 :: 1 :: 0 :: s0 → j ≠ 3 :: 1 :: 0 :: 1 :: 0 :: 1 :: 0 :: 1 :: 1 :: 1 :: 1 :: 1 :: 1 :: 0 :: s0 → M5 j = M4 j := fun j a b c d => by rw [fr5 j b c]; simp [Mem.set, a, d]
        have hOk := hO2'.keep (M' := M5.set (11 :: 0 :: 1 :: 1 :: 1 :: 1 :: 0 :: s0) (.cells [v2, w])) (by simp only [Mem.set, t1a, if_false]; exact k5 _ t1a n13 (nt1 _ (by simp (maxDischargeDepth := 80) only [push_cast, Nat.reduceBEq, reduceIte, reduceCtorEq, Nat.reduceEqDiff, Nat.reduceAdd, Nat.reduceMul, Nat.reduceSub, Nat.reduceLeDiff, Nat.reduceLT, Nat.reducePow, Int.reduceToNat, Int.reduceLT, Int.reduceLE, Int.reduceEq, Int.reduceAdd, Int.reduceSub, Int.reduceNeg])) (nt1 _ (by simp (maxDischargeDepth := 80) only [push_cast, Nat.reduceBEq, reduceIte, reduceCtorEq, Nat.reduceEqDiff, Nat.reduceAdd, Nat.reduceMul, Nat.reduceSub, Nat.reduceLeDiff, Nat.reduceLT, Nat.reducePow, Int.reduceToNat, Int.reduceLT, Int.reduceLE, Int.reduceEq, Int.reduceAdd, Int.reduceSub, Int.reduceNeg])))
        have hOw' := hOw.keep (M' := M5.set (11 :: 0 :: 1 :: 1 :: 1 :: 1 :: 0 :: s0) (.cells [v2, w])) (by simp only [Mem.set, t'a, if_false])
        refine fin _ _ ⟨v2, w, _, _, t1, t', _, _, _, ?_, ?_, ?_, ?_, ?_, hOk, hOw', ?_, ?_, ?_, ?_, ?_, ?_, hch⟩
        · simp (maxDischargeDepth := 80) only [push_cast, Nat.reduceBEq, reduceIte, reduceCtorEq, Nat.reduceEqDiff, Nat.reduceAdd, Nat.reduceMul, Nat.reduceSub, Nat.reduceLeDiff, Nat.reduceLT, Nat.reducePow, Int.reduceToNat, Int.reduceLT, Int.reduceLE, Int.reduceEq, Int.reduceAdd, Int.reduceSub, Int.reduceNeg]
        · simp (maxDischargeDepth := 80) only [push_cast, Nat.reduceBEq, reduceIte, reduceCtorEq, Nat.reduceEqDiff, Nat.reduceAdd, Nat.reduceMul, Nat.reduceSub, Nat.reduceLeDiff, Nat.reduceLT, Nat.reducePow, Int.reduceToNat, Int.reduceLT, Int.reduceLE, Int.reduceEq, Int.reduceAdd, Int.reduceSub, Int.reduceNeg]
        · simp (maxDischargeDepth := 80) only [push_cast, Nat.reduceBEq, reduceIte, reduceCtorEq, Nat.reduceEqDiff, Nat.reduceAdd, Nat.reduceMul, Nat.reduceSub, Nat.reduceLeDiff, Nat.reduceLT, Nat.reducePow, Int.reduceToNat, Int.reduceLT, Int.reduceLE, Int.reduceEq, Int.reduceAdd, Int.reduceSub, Int.reduceNeg]
        · simp (maxDischargeDepth := 80) only [push_cast, Nat.reduceBEq, reduceIte, reduceCtorEq, Nat.reduceEqDiff, Nat.reduceAdd, Nat.reduceMul, Nat.reduceSub, Nat.reduceLeDiff, Nat.reduceLT, Nat.reducePow, Int.reduceToNat, Int.reduceLT, Int.reduceLE, Int.reduceEq, Int.reduceAdd, Int.reduceSub, Int.reduceNeg]
        · simp (maxDischargeDepth := 80) only [push_cast, Nat.reduceBEq, reduceIte, reduceCtorEq, Nat.reduceEqDiff, Nat.reduceAdd, Nat.reduceMul, Nat.reduceSub, Nat.reduceLeDiff, Nat.reduceLT, Nat.reducePow, Int.reduceToNat, Int.reduceLT, Int.reduceLE, Int.reduceEq, Int.reduceAdd, Int.reduceSub, Int.reduceNeg]
          rw [k5 _ (by simp) (Ne.symm t3b) (by simp) (by simp)]; exact p46
        · exact t'o
        · exact ⟨Ne.symm t1a, Ne.symm t'a⟩
        · exact ⟨Ne.symm t1b, Ne.symm t'b⟩
        · intro i o e
          have hio := Off_of hM e
          have i1 : i ≠ t1 := n1 i (Off_dn hio (by simp (maxDischargeDepth := 80) only [push_cast, Nat.reduceBEq, reduceIte, reduceCtorEq, Nat.reduceEqDiff, Nat.reduceAdd, Nat.reduceMul, Nat.reduceSub, Nat.reduceLeDiff, Nat.reduceLT, Nat.reducePow, Int.reduceToNat, Int.reduceLT, Int.reduceLE, Int.reduceEq, Int.reduceAdd, Int.reduceSub, Int.reduceNeg]))
          have i3 : i ≠ t3 := n3 i (Off_dn hio (by simp (maxDischargeDepth := 80) only [push_cast, Nat.reduceBEq, reduceIte, reduceCtorEq, Nat.reduceEqDiff, Nat.reduceAdd, Nat.reduceMul, Nat.reduceSub, Nat.reduceLeDiff, Nat.reduceLT, Nat.reducePow, Int.reduceToNat, Int.reduceLT, Int.reduceLE, Int.reduceEq, Int.reduceAdd, Int.reduceSub, Int.reduceNeg]))
          have ia : ∀ u, Un s0 u → i ≠ u := fun u hu q => hio (q ▸ hu)
          have i' : i ≠ t' := ht'.elim (fun q => by rw [q]; exact ia _ (by simp (maxDischargeDepth := 80) only [push_cast, Nat.reduceBEq, reduceIte, reduceCtorEq, Nat.reduceEqDiff, Nat.reduceAdd, Nat.reduceMul, Nat.reduceSub, Nat.reduceLeDiff, Nat.reduceLT, Nat.reducePow, Int.reduceToNat, Int.reduceLT, Int.reduceLE, Int.reduceEq, Int.reduceAdd, Int.reduceSub, Int.reduceNeg])) (fun q => by rw [q]; exact i3)
          refine ⟨?_, i1, i'⟩
          simp only [Mem.set, ia (11 :: 0 :: 1 :: 1 :: 1 :: 1 :: 0 :: s0) (by simp (maxDischargeDepth := 80) only [push_cast, Nat.reduceBEq, reduceIte, reduceCtorEq, Nat.reduceEqDiff, Nat.reduceAdd, Nat.reduceMul, Nat.reduceSub, Nat.reduceLeDiff, Nat.reduceLT, Nat.reducePow, Int.reduceToNat, Int.reduceLT, Int.reduceLE, Int.reduceEq, Int.reduceAdd, Int.reduceSub, Int.reduceNeg]), if_false]
          rw [k5 _ (ia _ (by simp (maxDischargeDepth := 80) only [push_cast, Nat.reduceBEq, reduceIte, reduceCtorEq, Nat.reduceEqDiff, Nat.reduceAdd, Nat.reduceMul, Nat.reduceSub, Nat.reduceLeDiff, Nat.reduceLT, Nat.reducePow, Int.reduceToNat, Int.reduceLT, Int.reduceLE, Int.reduceEq, Int.reduceAdd, Int.reduceSub, Int.reduceNeg])) i3 (ia _ (by simp (maxDischargeDepth := 80) only [push_cast, Nat.reduceBEq, reduceIte, reduceCtorEq, Nat.reduceEqDiff, Nat.reduceAdd, Nat.reduceMul, Nat.reduceSub, Nat.reduceLeDiff, Nat.reduceLT, Nat.reducePow, Int.reduceToNat, Int.reduceLT, Int.reduceLE, Int.reduceEq, Int.reduceAdd, Int.reduceSub, Int.reduceNeg])) (ia _ (by simp (maxDischargeDepth := 80) only [push_cast, Nat.reduceBEq, reduceIte, reduceCtorEq, Nat.reduceEqDiff, Nat.reduceAdd, Nat.reduceMul, Nat.reduceSub, Nat.reduceLeDiff, Nat.reduceLT, Nat.reducePow, Int.reduceToNat, Int.reduceLT, Int.reduceLE, Int.reduceEq, Int.reduceAdd, Int.reduceSub, Int.reduceNeg]))]
          exact hS4 i o e
        · exact hv1
        · simp only [intsL, List.length_append, List.length_singleton]; exact Nat.lt_of_le_of_lt (Nat.succ_le_succ hvb2) (by decide)
    · rw [if_neg d1] at hch
      by_cases d2 : k = 2
      · rw [if_pos d2] at hch
        simp (maxDischargeDepth := 80) only [push_cast, Nat.reduceBEq, reduceIte, reduceCtorEq, Nat.reduceEqDiff, Nat.reduceAdd, Nat.reduceMul, Nat.reduceSub, Nat.reduceLeDiff, Nat.reduceLT, Nat.reducePow, Int.reduceToNat, Int.reduceLT, Int.reduceLE, Int.reduceEq, Int.reduceAdd, Int.reduceSub, Int.reduceNeg, d1, eq_true d2, lo54, p46, p45, hO2'.one, hO4.one]
        have hx := appendO_E (M := (M4.set (11 :: 0 :: 1 :: 1 :: 1 :: 1 :: 0 :: s0) (.cells [v2, v4])).set (3 :: 1 :: 0 :: 1 :: 1 :: 1 :: 0 :: 1 :: 0 :: 1 :: 1 :: 1 :: 1 :: 1 :: 1 :: 0 :: s0) (.cells [.int .i64 n])) ⟨1, false, 8, [.int .i64 0], false⟩ rfl n (4 :: 1 :: 0 :: 1 :: 1 :: 1 :: 0 :: 1 :: 0 :: 1 :: 1 :: 1 :: 1 :: 1 :: 1 :: 0 :: s0) (hO2'.keep (by simp only [Mem.set, t1a, if_false, nt1 (3 :: 1 :: 0 :: 1 :: 1 :: 1 :: 0 :: 1 :: 0 :: 1 :: 1 :: 1 :: 1 :: 1 :: 1 :: 0 :: s0) (by simp (maxDischargeDepth := 80) only [push_cast, Nat.reduceBEq, reduceIte, reduceCtorEq, Nat.reduceEqDiff, Nat.reduceAdd, Nat.reduceMul, Nat.reduceSub, Nat.reduceLeDiff, Nat.reduceLT, Nat.reducePow, Int.reduceToNat, Int.reduceLT, Int.reduceLE, Int.reduceEq, Int.reduceAdd, Int.reduceSub, Int.reduceNeg])])) hv1
        refine Okk.call hx ?_
        rintro ⟨w, M5⟩ ⟨t', Z', hOw, ht', fr5⟩
        dsimp only at hOw fr5 ⊢
        have hw1 := hOw.one
        have hw2 := hOw.cells
        have m5 : M5 (11 :: 0 :: 1 :: 1 :: 1 :: 1 :: 0 :: s0) = some (.cells [v2, v4]) := by
          rw [fr5 _ (Ne.symm t1a)]
          · simp (maxDischargeDepth := 80) only [push_cast, Nat.reduceBEq, reduceIte, reduceCtorEq, Nat.reduceEqDiff, Nat.reduceAdd, Nat.reduceMul, Nat.reduceSub, Nat.reduceLeDiff, Nat.reduceLT, Nat.reducePow, Int.reduceToNat, Int.reduceLT, Int.reduceLE, Int.reduceEq, Int.reduceAdd, Int.reduceSub, Int.reduceNeg]
          · simp
        simp (maxDischargeDepth := 80) only [push_cast, Nat.reduceBEq, reduceIte, reduceCtorEq, Nat.reduceEqDiff, Nat.reduceAdd, Nat.reduceMul, Nat.reduceSub, Nat.reduceLeDiff, Nat.reduceLT, Nat.reducePow, Int.reduceToNat, Int.reduceLT, Int.reduceLE, Int.reduceEq, Int.reduceAdd, Int.reduceSub, Int.reduceNeg, m5, hw1, hw2, hO2'.one, hO4.one, hO2'.cells, hO4.cells]
        have t'a : t' ≠ 11 :: 0 :: 1 :: 1 :: 1 :: 1 :: 0 :: s0 := ht'.elim (fun q => by rw [q]; simp) (fun q => by rw [q]; exact t1a)
        have t'b : t' ≠ 2 :: 0 :: 0 :: s0 := ht'.elim (fun q => by rw [q]; simp) (fun q => by rw [q]; exact t1b)
        have t'o : t3 ≠ t' := ht'.elim (fun q => by rw [q]; exact nt3 _ (by simp (maxDischargeDepth := 80) only [push_cast, Nat.reduceBEq, reduceIte, reduceCtorEq, Nat.reduceEqDiff, Nat.reduceAdd, Nat.reduceMul, Nat.reduceSub, Nat.reduceLeDiff, Nat.reduceLT, Nat.reducePow, Int.reduceToNat, Int.reduceLT, Int.reduceLE, Int.reduceEq, Int.reduceAdd, Int.reduceSub, Int.reduceNeg])) (fun q => by rw [q]; exact (Ne.symm n13))
        have k5 : ∀ j, j ≠ 11 :: 0 :: 1 :: 1 :: 1 :: 1 :: 0 :: s0 → j ≠ t1 → j ≠ 4 :: 1 :: 0 :: 1 :: 1 :: 1 :: 0 :: 1 :: 0 :: 1 :: 1 :: 1 :: 1 :: 1 :: 1 :: 0 :: s0 → j ≠ 3 :: 1 :: 0 :: 1 :: 1 :: 1 :: 0 :: 1 :: 0 :: 1 :: 1 :: 1 :: 1 :: 1 :: 1 :: 0 :: s0 → M5 j = M4 j := fun j a b c d => by rw [fr5 j b c]; simp [Mem.set, a, d]
        have hOk := hO4.keep (M' := M5.set (11 :: 0 :: 1 :: 1 :: 1 :: 1 :: 0 :: s0) (.cells [w, v4])) (by simp only [Mem.set, t3a, if_false]; exact k5 _ t3a (Ne.symm n13) (nt3 _ (by simp (maxDischargeDepth := 80) only [push_cast, Nat.reduceBEq, reduceIte, reduceCtorEq, Nat.reduceEqDiff, Nat.reduceAdd, Nat.reduceMul, Nat.reduceSub, Nat.reduceLeDiff, Nat.reduceLT, Nat.reducePow, Int.reduceToNat, Int.reduceLT, Int.reduceLE, Int.reduceEq, Int.reduceAdd, Int.reduceSub, Int.reduceNeg])) (nt3 _ (by simp (maxDischargeDepth := 80) only [push_cast, Nat.reduceBEq, reduceIte, reduceCtorEq, Nat.reduceEqDiff, Nat.reduceAdd, Nat.reduceMul, Nat.reduceSub, Nat.reduceLeDiff, Nat.reduceLT, Nat.reducePow, Int.reduceToNat, Int.reduceLT, Int.reduceLE, Int.reduceEq, Int.reduceAdd, Int.reduceSub, Int.reduceNeg])))
        have hOw' := hOw.keep (M' := M5.set (11 :: 0 :: 1 :: 1 :: 1 :: 1 :: 0 :: s0) (.cells [w, v4])) (by simp only [Mem.set, t'a, if_false])
        refine fin _ _ ⟨w, v4, _, _, t', t3, _, _, _, ?_, ?_, ?_, ?_, ?_, hOw', hOk, ?_, ?_, ?_, ?_, ?_, ?_, hch⟩
        · simp (maxDischargeDepth := 80) only [push_cast, Nat.reduceBEq, reduceIte, reduceCtorEq, Nat.reduceEqDiff, Nat.reduceAdd, Nat.reduceMul, Nat.reduceSub, Nat.reduceLeDiff, Nat.reduceLT, Nat.reducePow, Int.reduceToNat, Int.reduceLT, Int.reduceLE, Int.reduceEq, Int.reduceAdd, Int.reduceSub, Int.reduceNeg]
        · simp (maxDischargeDepth := 80) only [push_cast, Nat.reduceBEq, reduceIte, reduceCtorEq, Nat.reduceEqDiff, Nat.reduceAdd, Nat.reduceMul, Nat.reduceSub, Nat.reduceLeDiff, Nat.reduceLT, Nat.reducePow, Int.reduceToNat, Int.reduceLT, Int.reduceLE, Int.reduceEq, Int.reduceAdd, Int.reduceSub, Int.reduceNeg]
        · simp (maxDischargeDepth := 80) only [push_cast, Nat.reduceBEq, reduceIte, reduceCtorEq, Nat.reduceEqDiff, Nat.reduceAdd, Nat.reduceMul, Nat.reduceSub, Nat.reduceLeDiff, Nat.reduceLT, Nat.reducePow, Int.reduceToNat, Int.reduceLT, Int.reduceLE, Int.reduceEq, Int.reduceAdd, Int.reduceSub, Int.reduceNeg]
        · simp (maxDischargeDepth := 80) only [push_cast, Nat.reduceBEq, reduceIte, reduceCtorEq, Nat.reduceEqDiff, Nat.reduceAdd, Nat.reduceMul, Nat.reduceSub, Nat.reduceLeDiff, Nat.reduceLT, Nat.reducePow, Int.reduceToNat, Int.reduceLT, Int.reduceLE, Int.reduceEq, Int.reduceAdd, Int.reduceSub, Int.reduceNeg]
        · simp (maxDischargeDepth := 80) only [push_cast, Nat.reduceBEq, reduceIte, reduceCtorEq, Nat.reduceEqDiff, Nat.reduceAdd, Nat.reduceMul, Nat.reduceSub, Nat.reduceLeDiff, Nat.reduceLT, Nat.reducePow, Int.reduceToNat, Int.reduceLT, Int.reduceLE, Int.reduceEq, Int.reduceAdd, Int.reduceSub, Int.reduceNeg]
          rw [k5 _ (by simp) (Ne.symm t1b) (by simp) (by simp)]; exact p46
        · exact Ne.symm t'o
        · exact ⟨Ne.symm t'a, Ne.symm t3a⟩
        · exact ⟨Ne.symm t'b, Ne.symm t3b⟩
        · intro i o e
          have hio := Off_of hM e
          have i1 : i ≠ t1 := n1 i (Off_dn hio (by simp (maxDischargeDepth := 80) only [push_cast, Nat.reduceBEq, reduceIte, reduceCtorEq, Nat.reduceEqDiff, Nat.reduceAdd, Nat.reduceMul, Nat.reduceSub, Nat.reduceLeDiff, Nat.reduceLT, Nat.reducePow, Int.reduceToNat, Int.reduceLT, Int.reduceLE, Int.reduceEq, Int.reduceAdd, Int.reduceSub, Int.reduceNeg]))
          have i3 : i ≠ t3 := n3 i (Off_dn hio (by simp (maxDischargeDepth := 80) only [push_cast, Nat.reduceBEq, reduceIte, reduceCtorEq, Nat.reduceEqDiff, Nat.reduceAdd, Nat.reduceMul, Nat.reduceSub, Nat.reduceLeDiff, Nat.reduceLT, Nat.reducePow, Int.reduceToNat, Int.reduceLT, Int.reduceLE, Int.reduceEq, Int.reduceAdd, Int.reduceSub, Int.reduceNeg]))
          have ia : ∀ u, Un s0 u → i ≠ u := fun u hu q => hio (q ▸ hu)
          have i' : i ≠ t' := ht'.elim (fun q => by rw [q]; exact ia _ (by simp (maxDischargeDepth := 80) only [push_cast, Nat.reduceBEq, reduceIte, reduceCtorEq, Nat.reduceEqDiff, Nat.reduceAdd, Nat.reduceMul, Nat.reduceSub, Nat.reduceLeDiff, Nat.reduceLT, Nat.reducePow, Int.reduceToNat, Int.reduceLT, Int.reduceLE, Int.reduceEq, Int.reduceAdd, Int.reduceSub, Int.reduceNeg])) (fun q => by rw [q]; exact i1)
          refine ⟨?_, i', i3⟩
          simp only [Mem.set, ia (11 :: 0 :: 1 :: 1 :: 1 :: 1 :: 0 :: s0) (by simp (maxDischargeDepth := 80) only [push_cast, Nat.reduceBEq, reduceIte, reduceCtorEq, Nat.reduceEqDiff, Nat.reduceAdd, Nat.reduceMul, Nat.reduceSub, Nat.reduceLeDiff, Nat.reduceLT, Nat.reducePow, Int.reduceToNat, Int.reduceLT, Int.reduceLE, Int.reduceEq, Int.reduceAdd, Int.reduceSub, Int.reduceNeg]), if_false]
          rw [k5 _ (ia _ (by simp (maxDischargeDepth := 80) only [push_cast, Nat.reduceBEq, reduceIte, reduceCtorEq, Nat.reduceEqDiff, Nat.reduceAdd, Nat.reduceMul, Nat.reduceSub, Nat.reduceLeDiff, Nat.reduceLT, Nat.reducePow, Int.reduceToNat, Int.reduceLT, Int.reduceLE, Int.reduceEq, Int.reduceAdd, Int.reduceSub, Int.reduceNeg])) i1 (ia _ (by simp (maxDischargeDepth := 80) only [push_cast, Nat.reduceBEq, reduceIte, reduceCtorEq, Nat.reduceEqDiff, Nat.reduceAdd, Nat.reduceMul, Nat.reduceSub, Nat.reduceLeDiff, Nat.reduceLT, Nat.reducePow, Int.reduceToNat, Int.reduceLT, Int.reduceLE, Int.reduceEq, Int.reduceAdd, Int.reduceSub, Int.reduceNeg])) (ia _ (by simp (maxDischargeDepth := 80) only [push_cast, Nat.reduceBEq, reduceIte, reduceCtorEq, Nat.reduceEqDiff, Nat.reduceAdd, Nat.reduceMul, Nat.reduceSub, Nat.reduceLeDiff, Nat.reduceLT, Nat.reducePow, Int.reduceToNat, Int.reduceLT, Int.reduceLE, Int.reduceEq, Int.reduceAdd, Int.reduceSub, Int.reduceNeg]))]
          exact hS4 i o e
        · simp only [intsL, List.length_append, List.length_singleton]; exact Nat.lt_of_le_of_lt (Nat.succ_le_succ hvb1) (by decide)
        · exact hv2
      · have d3 : k = 3 := by omega
        rw [if_neg d2] at hch
        have hl1 := hO2'.len
        by_cases b4 : 0 < ((intsL (g.1.map (wout · n))).length : Int) <;> cases b1 : (intsL g.1).contains n <;> cases b2 : (intsL g.2).contains n
        all_goals
          simp only [b1, b2, b4, decide_true, decide_false] at hch
          simp (maxDischargeDepth := 80) only [push_cast, Nat.reduceBEq, reduceIte, reduceCtorEq, Nat.reduceEqDiff, Nat.reduceAdd, Nat.reduceMul, Nat.reduceSub, Nat.reduceLeDiff, Nat.reduceLT, Nat.reducePow, Int.reduceToNat, Int.reduceLT, Int.reduceLE, Int.reduceEq, Int.reduceAdd, Int.reduceSub, Int.reduceNeg, d1, d2, eq_true d3, hl1, b1, b2, b4, lo54, p46, p45, hO2'.one, hO4.one]
          refine fin _ _ ⟨v2, v4, _, _, t1, t3, _, _, _, ?_, ?_, ?_, ?_, ?_, hO2'.keep ?_, hO4.keep ?_, n13, ⟨Ne.symm t1a, Ne.symm t3a⟩, ⟨Ne.symm t1b, Ne.symm t3b⟩, ?_, hv1, hv2, hch⟩
          · simp (maxDischargeDepth := 80) only [push_cast, Nat.reduceBEq, reduceIte, reduceCtorEq, Nat.reduceEqDiff, Nat.reduceAdd, Nat.reduceMul, Nat.reduceSub, Nat.reduceLeDiff, Nat.reduceLT, Nat.reducePow, Int.reduceToNat, Int.reduceLT, Int.reduceLE, Int.reduceEq, Int.reduceAdd, Int.reduceSub, Int.reduceNeg]
          · simp (maxDischargeDepth := 80) only [push_cast, Nat.reduceBEq, reduceIte, reduceCtorEq, Nat.reduceEqDiff, Nat.reduceAdd, Nat.reduceMul, Nat.reduceSub, Nat.reduceLeDiff, Nat.reduceLT, Nat.reducePow, Int.reduceToNat, Int.reduceLT, Int.reduceLE, Int.reduceEq, Int.reduceAdd, Int.reduceSub, Int.reduceNeg]
          · simp (maxDischargeDepth := 80) only [push_cast, Nat.reduceBEq, reduceIte, reduceCtorEq, Nat.reduceEqDiff, Nat.reduceAdd, Nat.reduceMul, Nat.reduceSub, Nat.reduceLeDiff, Nat.reduceLT, Nat.reducePow, Int.reduceToNat, Int.reduceLT, Int.reduceLE, Int.reduceEq, Int.reduceAdd, Int.reduceSub, Int.reduceNeg]
          · simp (maxDischargeDepth := 80) only [push_cast, Nat.reduceBEq, reduceIte, reduceCtorEq, Nat.reduceEqDiff, Nat.reduceAdd, Nat.reduceMul, Nat.reduceSub, Nat.reduceLeDiff, Nat.reduceLT, Nat.reducePow, Int.reduceToNat, Int.reduceLT, Int.reduceLE, Int.reduceEq, Int.reduceAdd, Int.reduceSub, Int.reduceNeg]
          · simp (maxDischargeDepth := 80) only [push_cast, Nat.reduceBEq, reduceIte, reduceCtorEq, Nat.reduceEqDiff, Nat.reduceAdd, Nat.reduceMul, Nat.reduceSub, Nat.reduceLeDiff, Nat.reduceLT, Nat.reducePow, Int.reduceToNat, Int.reduceLT, Int.reduceLE, Int.reduceEq, Int.reduceAdd, Int.reduceSub, Int.reduceNeg, p46]
          · simp only [Mem.set, t1a, if_false]
          · simp only [Mem.set, t3a, if_false]
          · intro i o e
            have hio := Off_of hM e
            refine ⟨?_, n1 i (Off_dn hio (by simp (maxDischargeDepth := 80) only [push_cast, Nat.reduceBEq, reduceIte, reduceCtorEq, Nat.reduceEqDiff, Nat.reduceAdd, Nat.reduceMul, Nat.reduceSub, Nat.reduceLeDiff, Nat.reduceLT, Nat.reducePow, Int.reduceToNat, Int.reduceLT, Int.reduceLE, Int.reduceEq, Int.reduceAdd, Int.reduceSub, Int.reduceNeg])), n3 i (Off_dn hio (by simp (maxDischargeDepth := 80) only [push_cast, Nat.reduceBEq, reduceIte, reduceCtorEq, Nat.reduceEqDiff, Nat.reduceAdd, Nat.reduceMul, Nat.reduceSub, Nat.reduceLeDiff, Nat.reduceLT, Nat.reducePow, Int.reduceToNat, Int.reduceLT, Int.reduceLE, Int.reduceEq, Int.reduceAdd, Int.reduceSub, Int.reduceNeg]))⟩
            have ia : ∀ u, Un s0 u → i ≠ u := fun u hu q => hio (q ▸ hu)
            simp only [Mem.set, ia (11 :: 0 :: 1 :: 1 :: 1 :: 1 :: 0 :: s0) (by simp (maxDischargeDepth := 80) only [push_cast, Nat.reduceBEq, reduceIte, reduceCtorEq, Nat.reduceEqDiff, Nat.reduceAdd, Nat.reduceMul, Nat.reduceSub, Nat.reduceLeDiff, Nat.reduceLT, Nat.reducePow, Int.reduceToNat, Int.reduceLT, Int.reduceLE, Int.reduceEq, Int.reduceAdd, Int.reduceSub, Int.reduceNeg]), if_false]
            exact hS4 i o e
end Go.Ab.R
