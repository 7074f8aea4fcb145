/- The range over no peers is sound. Conditions: none. -/
import Derived.Test.YtpohfmcpfkbabaaGreatAbPm
import Derived.Test.YtpohfmcpfkbabaaGreatAbSim
set_option linter.unusedSimpArgs false
set_option linter.unusedVariables false
set_option maxRecDepth 100000
namespace Go.Ab
open Go.Proofs Go.RowKit

theorem wpl_V {P : Program} {all : Array Oper} {Q : Exit → Act → World → Prop} {l : List Oper} {o : Oper} {f : Tm} {id : Id} {M : Mem} {v : V} {ι C} {a : Act} {w : World} (hg : o.guard = none) (h : opV P o.op (ev f) id M = some (v, M)) (ht : TR ι C f a.tmps) (hm : MR ι C M w) (hi : ι id = none)
    (hd : ∀ t, o.dst = some t → t < a.tmps.size) (hK : ∀ c w' ι' C', VR ι' C' v c → TR ι' C' (put f o.dst v) (a.put o.dst c).tmps → MR ι' C' M w' → Stp id ι C M w ι' C' M w' → wpList P all Q l (a.put o.dst c) w') : wpList P all Q (o :: l) a w := by
  have hw : Region.wanted o (yielded all a.tmps) = true := by simp [Region.wanted, hg]
  simp only [wpList, hw, if_true]
  exact .inl (opV_wp h ht hm hi fun c w' ι' C' g1 g2 g3 => hK c w' ι' C' g1 ((ht.mono g3.dom g3.fro).put g1 hd) g2 g3)

theorem wpl_run {P : Program} {all : Array Oper} {Q : Exit → Act → World → Prop} {l : List Oper} {o : Oper} {a : Act} {w w' : World} {c : Value} (hg : o.guard = none) (h : (execOp a.eval o).run P w = .ok (.value c) w') (hK : wpList P all Q l (a.put o.dst c) w') : wpList P all Q (o :: l) a w := by
  have hw : Region.wanted o (yielded all a.tmps) = true := by simp [Region.wanted, hg]
  simp only [wpList, hw, if_true]
  refine .inl ?_
  unfold Oper.wp
  rw [h]
  exact hK
theorem get_put (a : Act) (t : Nat) (c : Value) (n : Nat) (ht : t < a.tmps.size) : (a.put (some t) c).tmps.getD n undef = if n = t then c else a.tmps.getD n undef := by
  simp only [Act.put, Array.getD_eq_getD_getElem?, Array.getElem?_setIfInBounds]
  by_cases h : t = n
  · subst h; simp [ht]
  · rw [if_neg h, if_neg (Ne.symm h)]

theorem adv_sound {f : Tm} {s : Id} {M : Mem} {f' : Tm} {M' : Mem} (h : advP f s M = some (f', M')) {ι : Inj} {C : Fro} {a : Act} {w : World} {Q : Exit → Act → World → Prop} (ht : TR ι C f a.tmps) (hm : MR ι C M w) (hF : Fresh s ι) (hd : a.defers = []) (hsz : 32 ≤ a.tmps.size)
    (hQ : ∀ a' w' ι' C', TR ι' C' f' a'.tmps → MR ι' C' M' w' → Stp s ι C M w ι' C' M' w' → a'.defers = [] → a'.tmps.size = a.tmps.size → Q .normal a' w') : advCode.wp Tryz.prog Q a w := by
  unfold advP at h
  split at h
  rotate_left
  · cases h
  rename_i i h0
  split at h
  rotate_left
  · cases h
  rename_i cs hM
  split at h
  rotate_left
  · cases h
  rename_i m hc
  split at h
  rotate_left
  · cases h
  rename_i hent
  simp only [Option.some.injEq, Prod.mk.injEq] at h
  obtain ⟨rfl, rfl⟩ := h
  simp only [advCode, Tryz.f93]
  refine wp_seq ?_
  refine wp_region_list ?_
  have sz1 : ∀ (t : Nat) (c : Value), (a.put (some t) c).tmps.size = a.tmps.size := fun t c => Act.put_size a (some t) c
  have lt : ∀ {x : Option Tmp} {n : Nat}, x = some n → n < 32 → ∀ t, x = some t → t < a.tmps.size := fun e h t e' => by rw [e] at e'; cases e'; exact Nat.lt_of_lt_of_le h hsz
  refine wpl_V (f := f) (id := 0 :: s) (M := M) (v := .ptr i 0) (C := C) (ι := ι) rfl (by simp [opV, ev, h0]) ht hm (hF _ (List.suffix_cons _ _)) (lt rfl (by decide)) ?_
  intro c1 w1 ι1 C1 v1 t1 m1 s1
  have F1 : ι1 (1 :: s) = none := ((hF.tail 1).next (s1.weaken (List.suffix_refl _)) (by decide)) _ (List.suffix_refl _)
  refine wpl_V (f := put f (some 18) (.ptr i 0)) (id := 1 :: s) (M := M) (v := .ptr i 0) (C := C1) (ι := ι1) rfl (by simp [opV, ev, put, upd, nilCheckV]) t1 m1 F1 (fun t e => by rw [sz1]; exact lt rfl (by decide) t e) ?_
  intro c2 w2 ι2 C2 v2 t2 m2 s2
  have F2 : ι2 (2 :: s) = none := (((hF.tail 2).next (s1.weaken (List.suffix_refl _)) (by decide)).next s2 (by decide)) _ (List.suffix_refl _)
  have sz2 : ∀ (t : Nat) (c : Value) (t' : Nat) (c' : Value), ((a.put (some t) c).put (some t') c').tmps.size = a.tmps.size := fun t c t' c' => by rw [Act.put_size, Act.put_size]
  refine wpl_V (f := put (put f (some 18) (.ptr i 0)) (some 19) (.ptr i 0)) (id := 2 :: s) (M := M) (v := .ptr i 11) (C := C2) (ι := ι2) rfl (by simp [opV, ev, put, upd, fieldAddrV, R.kd58]) t2 m2 F2 (fun t e => by rw [sz2]; exact lt rfl (by decide) t e) ?_
  intro c3 w3 ι3 C3 v3 t3 m3 s3
  have F3 : ι3 (3 :: s) = none := ((((hF.tail 3).next (s1.weaken (List.suffix_refl _)) (by decide)).next s2 (by decide)).next s3 (by decide)) _ (List.suffix_refl _)
  refine wpl_V (f := put (put (put f (some 18) (.ptr i 0)) (some 19) (.ptr i 0)) (some 20) (.ptr i 11)) (id := 3 :: s) (M := M) (v := m) (C := C3) (ι := ι3) rfl (by simp [opV, ev, put, upd, loadV, hM, R.sz55, partV, hc]) t3 m3 F3 (fun t e => by rw [Act.put_size, sz2]; exact lt rfl (by decide) t e) ?_
  intro c4 w4 ι4 C4 v4 t4 m4 s4
  -- what the map is
  have hstp : Stp s ι C M w ι4 C4 M w4 := (((s1.weaken (List.suffix_cons _ _)).trans (s2.weaken (List.suffix_cons _ _))).trans (s3.weaken (List.suffix_cons _ _))).trans (s4.weaken (List.suffix_cons _ _))
  obtain ⟨a4, ha4⟩ : ∃ a4, (((a.put (some 18) c1).put (some 19) c2).put (some 20) c3).put (some 21) c4 = a4 := ⟨_, rfl⟩
  have hsz4 : a4.tmps.size = a.tmps.size := by rw [← ha4, Act.put_size, Act.put_size, Act.put_size, Act.put_size]
  have hd4 : a4.defers = [] := by rw [← ha4]; exact hd
  have ht4 : ∀ t, ¬ (18 ≤ t ∧ t ≤ 31) → a4.tmps.getD t undef = a.tmps.getD t undef := fun t q => by
    rw [← ha4, get_put _ _ _ _ (by rw [Act.put_size, sz2]; omega), if_neg (by omega), get_put _ _ _ _ (by rw [sz2]; omega), if_neg (by omega), get_put _ _ _ _ (by rw [sz1]; omega), if_neg (by omega), get_put _ _ _ _ (by omega), if_neg (by omega)]
  have ht21 : a4.tmps.getD 21 undef = c4 := by rw [← ha4, get_put _ _ _ _ (by rw [Act.put_size, sz2]; omega), if_pos rfl]
  show wpList _ _ _ _ ((((a.put (some 18) c1).put (some 19) c2).put (some 20) c3).put (some 21) c4) w4
  rw [ha4]
  obtain ⟨it, hrg, hnx⟩ : ∃ it : Obj, (Instr.range 55 c4).run Tryz.prog w4 = .ok (.pointer (some ⟨w4.heap.size, 0, none⟩)) (w4.alloc it) ∧
      ∀ ty, (Instr.next (.pointer (some ⟨w4.heap.size, 0, none⟩)) false ty).run Tryz.prog (w4.alloc it) = .ok (.tuple #[.bool false]) (w4.alloc it) := by
    unfold entriesV at hent
    split at hent
    · cases v4
      exact ⟨_, run_range_nilMap (P := Tryz.prog) w4 55 3 106 Tryz.underlying55, fun ty => run_next_nilMap _ ty 0 0 #[]⟩
    · rename_i j
      split at hent
      · rename_i es hMj
        simp only [Option.some.injEq] at hent
        subst hent
        cases v4 with
        | mapr _ pl r hij h2 =>
          obtain ⟨b, o, rm, rfl, hO⟩ := m4.obj j pl _ hij hMj
          obtain rfl := h2 b o rm rfl
          cases hO with
          | map _ _ _ _ ces k hb hl _ =>
            have hce : ces = #[] := Array.eq_empty_of_size_eq_zero (by simpa using hl.symm)
            subst hce
            refine ⟨_, run_range_map (P := Tryz.prog) w4 55 3 106 r #[] k Tryz.underlying55 hb, fun ty => ?_⟩
            rcases run_next_map (P := Tryz.prog) w4 ty r k k #[] #[] k hb (fun x hx => by simp at hx) (Nat.le_refl _) with ⟨_, q⟩ | ⟨e, he, _⟩
            · exact q
            · simp [leftOf] at he
      · cases hent
    · cases hent
  refine wpl_run (c := .pointer (some ⟨w4.heap.size, 0, none⟩)) (w' := w4.alloc it) rfl (by simp [execOp, Act.eval, ht21, hrg]) ?_
  obtain ⟨a5, ha5⟩ : ∃ a5, a4.put (some 22) (.pointer (some ⟨w4.heap.size, 0, none⟩)) = a5 := ⟨_, rfl⟩
  show wpList _ _ _ _ (a4.put (some 22) _) _
  rw [ha5]
  have hsz5 : a5.tmps.size = a.tmps.size := by rw [← ha5, Act.put_size, hsz4]
  have ht22 : a5.tmps.getD 22 undef = .pointer (some ⟨w4.heap.size, 0, none⟩) := by rw [← ha5, get_put _ _ _ _ (by omega), if_pos rfl]
  have ht5 : ∀ t, ¬ (18 ≤ t ∧ t ≤ 31) → a5.tmps.getD t undef = a.tmps.getD t undef := fun t q => by rw [← ha5, get_put _ _ _ _ (by omega), if_neg (by omega), ht4 t q]
  have hd5 : a5.defers = [] := by rw [← ha5]; exact hd4
  show Code.wp _ _ _ a5 _
  refine wp_block ?_
  refine wp_loop_once ?_
  refine wp_seq ?_
  refine wp_region_list ?_
  refine wpl_run (c := .tuple #[.bool false]) (w' := w4.alloc it) rfl (by simp [execOp, Act.eval, ht22, hnx]) ?_
  obtain ⟨a6, ha6⟩ : ∃ a6, a5.put (some 23) (.tuple #[.bool false]) = a6 := ⟨_, rfl⟩
  show wpList _ _ _ _ (a5.put (some 23) _) _
  rw [ha6]
  have ht23 : a6.tmps.getD 23 undef = .tuple #[.bool false] := by rw [← ha6, get_put _ _ _ _ (by omega), if_pos rfl]
  have hsz6 : a6.tmps.size = a.tmps.size := by rw [← ha6, Act.put_size, hsz5]
  refine wpl_run (c := .bool false) (w' := w4.alloc it) rfl (by simp [execOp, Act.eval, ht23]; rfl) ?_
  obtain ⟨a7, ha7⟩ : ∃ a7, a6.put (some 24) (.bool false) = a7 := ⟨_, rfl⟩
  show wpList _ _ _ _ (a6.put (some 24) _) _
  rw [ha7]
  have ht24 : a7.tmps.getD 24 undef = .bool false := by rw [← ha7, get_put _ _ _ _ (by omega), if_pos rfl]
  have hsz7 : a7.tmps.size = a.tmps.size := by rw [← ha7, Act.put_size, hsz6]
  have ht7 : ∀ t, ¬ (18 ≤ t ∧ t ≤ 31) → a7.tmps.getD t undef = a.tmps.getD t undef := fun t q => by
    rw [← ha7, get_put _ _ _ _ (by omega), if_neg (by omega), ← ha6, get_put _ _ _ _ (by omega), if_neg (by omega), ht5 t q]
  have hd7 : a7.defers = [] := by rw [← ha7, ← ha6]; exact hd5
  show Code.wp _ _ _ a7 _
  refine wp_seq ?_
  refine wp_cond (t := false) ht24 ?_
  refine wp_exit ?_
  simp only [Exit.then, Exit.inBlock, if_true]
  obtain ⟨g1, g2⟩ := m4.grow #[it] (w' := w4.alloc it) rfl rfl rfl rfl s
  refine hQ a7 (w4.alloc it) ι4 C4 ?_ g1 (hstp.trans g2) hd7 hsz7
  intro t
  show VR ι4 C4 (if t = 3 ∨ t = 4 ∨ (18 ≤ t ∧ t ≤ 31) then .bad else f t) _
  by_cases q : t = 3 ∨ t = 4 ∨ (18 ≤ t ∧ t ≤ 31)
  · rw [if_pos q]; exact .bad _
  · rw [if_neg q, ht7 t (fun q' => q (.inr (.inr q')))]
    exact (ht t).mono hstp.dom hstp.fro
end Go.Ab
