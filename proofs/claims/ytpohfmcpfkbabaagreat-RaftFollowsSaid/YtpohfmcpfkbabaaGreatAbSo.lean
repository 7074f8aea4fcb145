/- The evaluator is sound at the program. Conditions: none. -/
import Derived.Test.YtpohfmcpfkbabaaGreatEh
import Derived.Test.YtpohfmcpfkbabaaGreatEi
import Derived.Test.YtpohfmcpfkbabaaGreatAbOk
import Derived.Test.YtpohfmcpfkbabaaGreatEe
set_option linter.unusedSimpArgs false
set_option linter.unusedVariables false
set_option maxRecDepth 100000
namespace Go.Ab
open Go.Proofs Go.RowKit

theorem MR.below {ι C M w w'} (h : MR ι C M w) (b : Below w.heap.size w w') (s : Id) : MR ι C M w' ∧ Stp s ι C M w ι C M w' := by
  have hb : ∀ b, b < w.heap.size → w'.heap[b]? = w.heap[b]? := b.block
  refine ⟨⟨fun i b' o r q => ?_, h.inj, fun i pl ob q q2 => ?_, fun b' o x q => ?_⟩, ⟨fun _ _ h => .inl h, fun _ h h' => absurd h h', fun _ _ _ h => h, fun _ _ _ _ h => .inl h, fun _ _ h => h, fun _ _ h _ => h, fun b' q _ => hb b' q, b.size, b.os, b.tape, b.output⟩⟩
  · have := h.bound i b' o r q; have := b.size; omega
  · obtain ⟨b', o, r, rfl, hO⟩ := h.obj i pl ob q q2
    exact ⟨b', o, r, rfl, hO.mono (hb b' (h.bound i b' o r q)) (fun _ _ h => .inl h) (fun _ _ _ h => h)⟩
  · obtain ⟨q1, q2⟩ := h.fro b' o x q
    refine ⟨?_, q2⟩
    have hlt : b' < w.heap.size := by
      by_cases hlt : b' < w.heap.size
      · exact hlt
      · simp [World.cell?, Array.getElem?_eq_none (Nat.le_of_not_lt hlt)] at q1
    simpa only [World.cell?, hb b' hlt] using q1

theorem members_sound {M : Mem} {args : List V} {s : Id} {v : V} {M' : Mem} {ι C w cargs} (h : membersP args s M = some (v, M')) (ha : LR ι C args cargs) (hm : MR ι C M w) :
    Calls Tryz.prog 41 cargs w fun e w' => ∃ c ι' C', e = .returned c ∧ VR ι' C' v c ∧ MR ι' C' M' w' ∧ Stp s ι C M w ι' C' M' w' := by
  unfold membersP at h
  split at h
  rotate_left
  · cases h
  rename_i i
  split at h
  rotate_left
  · cases h
  rename_i cs hM
  split at h
  rotate_left
  · cases h
  rename_i m hc
  split at h
  rotate_left
  · cases h
  rename_i hent
  simp only [Option.some.injEq, Prod.mk.injEq] at h
  obtain ⟨rfl, rfl⟩ := h
  obtain ⟨c, rfl, hv⟩ := LR_one ha
  cases hv with
  | ptr _ _ pl a hij h2 =>
    obtain ⟨b, o, r, rfl, hO⟩ := hm.obj i pl _ hij hM
    obtain rfl := h2 b o r rfl
    cases hO with
    | cells _ _ _ _ arr el hbk hr hl' hone hval =>
      obtain ⟨h11, hmm⟩ := List.getElem?_eq_some_iff.1 hc
      have hvm := hval 11 h11 (by omega)
      have harr : arr[o + 11]? = some (arr[o + 11]'(by omega)) := Array.getElem?_eq_getElem (by omega)
      rw [hmm] at hvm
      generalize arr[o + 11]'(by omega) = cm at hvm harr
      have fin : ∀ w', Below w.heap.size w w' → ∃ c ι' C', Ending.returned (.slice none 0 0) = .returned c ∧ VR ι' C' .nils c ∧ MR ι' C' M w' ∧ Stp s ι C M w ι' C' M w' := fun w' hb => by
        obtain ⟨g1, g2⟩ := hm.below hb s
        exact ⟨_, ι, C, rfl, .nils, g1, g2⟩
      unfold entriesV at hent
      split at hent
      · cases hvm
        refine Calls.mono (members_nil b o w arr el hbk harr) ?_
        rintro e w' ⟨rfl, hb⟩
        exact fin w' hb
      · rename_i j
        split at hent
        · rename_i es hMj
          simp only [Option.some.injEq] at hent
          subst hent
          cases hvm with
          | mapr _ pl r' hij' h2' =>
            obtain ⟨b', o', rm, rfl, hO'⟩ := hm.obj j pl _ hij' hMj
            obtain rfl := h2' b' o' rm rfl
            cases hO' with
            | map _ _ _ _ ces k hb _ hl _ =>
              have hce : ces = #[] := Array.eq_empty_of_size_eq_zero (by simpa using hl.symm)
              subst hce
              refine Calls.mono (members_none b o r' k w arr el hbk harr hb) ?_
              rintro e w' ⟨rfl, hb⟩
              exact fin w' hb
        · cases hent
      · cases hent

theorem prim_cases {f : FuncId} {p} (h : R.env.prim f = some p) : (f = 118 ∧ p = sortP) ∨ (f = 41 ∧ p = membersP) ∨ (f = 212 ∧ p = numP) ∨ p = fun _ _ _ => none := by
  change primOf f = some p at h
  unfold primOf at h
  split at h
  · rename_i e; exact .inl ⟨e, (Option.some.inj h).symm⟩
  · split at h
    · rename_i e; exact .inr (.inl ⟨e, (Option.some.inj h).symm⟩)
    · split at h
      · rename_i e; exact .inr (.inr (.inl ⟨e, (Option.some.inj h).symm⟩))
      · split at h
        · exact .inr (.inr (.inr (Option.some.inj h).symm))
        · cases h
theorem cprim_cases {f : FuncId} {c : Code} {p} (h : R.env.cprim f c = some p) : f = 93 ∧ c = advCode ∧ p = advP := by
  change cprimOf f c = some p at h
  unfold cprimOf at h
  split at h
  · split at h
    · rename_i e; exact ⟨e.1, e.2, (Option.some.inj h).symm⟩
    · cases h
  · cases h

theorem members_same {args : List V} {s : Id} {M M' : Mem} {v : V} (h : membersP args s M = some (v, M')) : M' = M := by
  unfold membersP at h
  repeat' split at h
  all_goals first | (cases h; done) | (simp only [Option.some.injEq, Prod.mk.injEq] at h; exact h.2.symm)
theorem adv_same {f f' : Tm} {s : Id} {M M' : Mem} (h : advP f s M = some (f', M')) : M' = M := by
  unfold advP at h
  repeat' split at h
  all_goals first | (cases h; done) | (simp only [Option.some.injEq, Prod.mk.injEq] at h; exact h.2.symm)
theorem sort_ids {args : List V} {s : Id} {M M' : Mem} {v : V} (h : sortP args s M = some (v, M')) : Ids s M M' := by
  unfold sortP at h
  split at h
  · simp only [Option.some.injEq, Prod.mk.injEq] at h; rw [← h.2]; exact .refl _ _
  · simp only [Option.some.injEq, Prod.mk.injEq] at h; rw [← h.2]; exact .refl _ _
  · split at h
    · simp only [Option.some.injEq, Prod.mk.injEq] at h; rw [← h.2]; exact .refl _ _
    split at h
    · rename_i cs hM
      split at h
      · split at h
        · simp only [Option.some.injEq, Prod.mk.injEq] at h; rw [← h.2]; exact .set_old (by rw [hM]; simp) _
        · cases h
      · cases h
    · cases h
  · cases h

theorem primOk : PrimOk R.env := by
  refine ⟨?_, ?_, ?_, ?_, ?_⟩
  · intro f p args s M v M' h1 h2
    rcases prim_cases h1 with ⟨rfl, rfl⟩ | ⟨rfl, rfl⟩ | ⟨rfl, rfl⟩ | rfl
    · exact sort_ids h2
    · rw [members_same h2]; exact .refl _ _
    · exact R.num_ids h2
    · cases h2
  · intro cur c p f s M f' M' h1 h2
    obtain ⟨_, _, rfl⟩ := cprim_cases h1
    rw [adv_same h2]; exact .refl _ _
  · intro f p args s M v M' h1 hq h2
    rcases prim_cases h1 with ⟨rfl, rfl⟩ | ⟨rfl, rfl⟩ | ⟨rfl, rfl⟩ | rfl
    · rw [R.q118] at hq; cases hq
    · exact members_same h2
    · rw [R.q212] at hq; cases hq
    · cases h2
  · intro f p args s M v M' h1 hq h2
    rcases prim_cases h1 with ⟨rfl, rfl⟩ | ⟨rfl, rfl⟩ | ⟨rfl, rfl⟩ | rfl
    · rw [R.q118] at hq; cases hq
    · rw [R.q41] at hq; cases hq
    · rw [R.q212] at hq; cases hq
    · cases h2
  · intro f p args s M v M' ι C w cargs h1 h2 ha hm hF hFM
    rcases prim_cases h1 with ⟨rfl, rfl⟩ | ⟨rfl, rfl⟩ | ⟨rfl, rfl⟩ | rfl
    · exact sort_sound h2 ha hm
    · exact members_sound h2 ha hm
    · exact R.number_sound h2 ha hm hF hFM
    · cases h2

theorem adv_temps {N : Nat} (h : okCode R.env 93 N advCode = true) : 32 ≤ N := by
  simp only [advCode, Tryz.f93, okCode, Bool.and_eq_true] at h
  have h5 := h.2.2.2.2.1
  rw [List.all_eq_true] at h5
  have := h5 _ (List.mem_cons_of_mem _ (List.mem_cons_of_mem _ (List.mem_cons_of_mem _ (List.mem_cons_self ..))))
  simp only [decide_eq_true_eq] at this
  exact this

theorem sound : Sound R.env := by
  refine ⟨primOk, by kernel_rfl, ?_, ?_⟩
  · intro cur c p f s M f' M' h1 h2 N hok ι C a w Q ht hm hF hFM hd hsz hQ
    obtain ⟨rfl, rfl, rfl⟩ := cprim_cases h1
    exact adv_sound h2 ht hm hF hd (Nat.le_trans (adv_temps hok) hsz) hQ
  · intro f fn c he hp
    have hlt : f < 273 := by
      have : R.env.P.funcs[f]? ≠ none := by
        intro q
        simp [entry, q] at he
      rw [← R.n_funcs]
      by_cases hlt : f < R.env.P.funcs.size
      · exact hlt
      · exact absurd (Array.getElem?_eq_none (Nat.le_of_not_lt hlt)) this
    have := (List.all_eq_true.1 R.all_ok) f (List.mem_range.2 hlt)
    rw [he] at this
    simpa [hp] using this
end Go.Ab
