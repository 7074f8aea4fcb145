/- Each operation of the evaluator is the model's: append in all its ways. Conditions: none. -/
import Derived.Test.YtpohfmcpfkbabaaGreatEb
set_option linter.unusedSimpArgs false
set_option linter.unusedVariables false
namespace Go.Ab

/-- the run of an append within the capacity -/
theorem run_append_room {P : Program} {sT xT u : TypeId} {e : El} {ts : Array TypeId} {ty : TypeId} {w : World} (hu : P.underlying sT = some (.slice u)) (he : elOf P u = some e) (h0 : ts[0]? = some sT) (h1 : ts[1]? = some xT)
    {xd : TypeDesc} (hxd : P.underlying xT = some xd) (hxi : ∀ k, xd ≠ .int k) {base : Option Addr} {len cap n : Nat} {cx : Value} {new : Array Value}
    (hn : (Builtin.lenOf cx).run P w = .ok n w) (hnew : (Builtin.firstCells e.size n cx).run P w = .ok new w) (hroom : len + n ≤ cap) {w' : World}
    (hst : (match base with | some a => storeCells (a.add (len * e.size)) new.toList | none => pure () : Sem Unit).run P w = .ok () w') :
    (Builtin.append_ ts ty #[.slice base len cap, cx]).run P w = .ok (.slice base (len + n) cap) w' := by
  obtain ⟨hs, _⟩ := elOf_spec he
  unfold Builtin.append_
  rw [h0, h1]
  rw [show #[Value.slice base len cap, cx][0]? = some (.slice base len cap) from rfl, show #[Value.slice base len cap, cx][1]? = some cx from rfl]
  simp only [Sem.run_bind, run_underlying hu, Result.andThen_ok, run_sizeOf' hs, run_underlying hxd, Sem.run_pure]
  cases xd with
  | int k => exact absurd rfl (hxi k)
  | _ =>
    simp only [Bool.false_eq_true, if_false, Bool.not_false, if_true]
    rw [Sem.run_bind, hn, Result.andThen_ok, if_pos hroom, Sem.run_bind, hnew, Result.andThen_ok]
    cases base with
    | none => simp only [Sem.run_pure, Result.ok.injEq] at hst; rw [← hst.2]; rfl
    | some a => simp only [Sem.run_bind]; rw [hst]; rfl

theorem LR.append {ι C l1 l2 a1 a2} (h1 : LR ι C l1 a1) (h2 : LR ι C l2 a2) : LR ι C (l1 ++ l2) (a1 ++ a2) := by
  refine ⟨by simp [h1.1, h2.1], fun j p q => ?_⟩
  by_cases hj : j < l1.length
  · rw [List.getElem_append_left hj, Array.getElem_append_left (by have := h1.1; omega)]
    exact h1.2 j hj (by have := h1.1; omega)
  · rw [List.getElem_append_right (by omega), Array.getElem_append_right (by have := h1.1; omega)]
    have := h1.1
    simp only [List.length_append] at p
    have e : j - l1.length = j - a1.size := by omega
    have := h2.2 (j - l1.length) (by omega) (by have := h2.1; omega)
    simpa only [e] using this

/-- what grew: a block of its own -/
theorem grown {P : Program} {ι C M w} {e : El} (hm : MR ι C M w) {i : Id} (hi : ι i = none) {cs : List V} {a z : Array Value} {u : TypeId} {need newCap : Nat} (hl : LR ι C cs a) (hone : cs.all V.one = true)
    (hlen : cs.length = need * e.size) (hcap : need ≤ newCap) (hz : z.size = (newCap - need) * e.size) :
    MR (ι.upd i (.at w.heap.size 0 (newCap * e.size))) C (M.set i (.cells cs)) (w.drew.alloc (.cells (a ++ z) u)) ∧
      Stp i ι C M w (ι.upd i (.at w.heap.size 0 (newCap * e.size))) C (M.set i (.cells cs)) (w.drew.alloc (.cells (a ++ z) u)) ∧
      VR (ι.upd i (.at w.heap.size 0 (newCap * e.size))) C (.sl i 0 need e.size none) (.slice (some ⟨w.heap.size, 0, none⟩) need newCap) := by
  have hsz : (a ++ z).size = newCap * e.size := by
    simp only [Array.size_append, hz, ← hl.1, hlen]
    rw [← Nat.add_mul]; congr 1; omega
  have hm' : MR ι C M w.drew := hm.heap rfl
  obtain ⟨g1, g2⟩ := new_cells (a := a ++ z) (el := u) hm' hi (by rw [Array.size_append]; have := hl.1; omega) hone (fun j p q => by
    rw [Array.getElem_append_left (by have := hl.1; omega)]; exact hl.2 j p (by have := hl.1; omega))
  rw [hsz] at g1 g2
  refine ⟨g1, (Stp.same_heap i (w := w) (w' := w.drew) rfl rfl rfl rfl).trans g2, ?_⟩
  refine .sl i 0 need e.size none (.at w.heap.size 0 (newCap * e.size)) _ newCap (by simp [Inj.upd]) hcap (fun c hc => by cases hc) rfl (fun b o r e' => ?_)
  cases e'
  exact ⟨fun _ => rfl, by omega, fun _ => by omega⟩

theorem joinV_sound {P : Program} {sT xT u : TypeId} {e : El} {ts : Array TypeId} {ty : TypeId} (hu : P.underlying sT = some (.slice u)) (he : elOf P u = some e) (h0 : ts[0]? = some sT) (h1 : ts[1]? = some xT)
    {xd : TypeDesc} (hxd : P.underlying xT = some xd) (hxi : ∀ k, xd ≠ .int k) {s x v : V} {n : Nat} {new : List V} {M M' : Mem} {ι C w cs cx} {i : Id} (hsrc : srcV e.size M x = some (n, new)) (hlen : new.length = n * e.size)
    (h : joinV e s n new i M = some (v, M')) (hs : VR ι C s cs) (hx : VR ι C x cx) (hm : MR ι C M w) (hi : ι i = none) :
    ∃ r w' ι', (Builtin.append_ ts ty #[cs, cx]).run P w = .ok r w' ∧ VR ι' C v r ∧ MR ι' C M' w' ∧ Stp i ι C M w ι' C M' w' := by
  have hpos : 0 < e.size := (elOf_spec he).2.2.2.1
  obtain ⟨hn, na, hnew', hnr, hnone⟩ := srcV_sound (P := P) hsrc hlen hx hm
  have hnew := hnew' w rfl
  unfold joinV at h
  split at h
  · -- nil
    cases hs
    split at h
    · rename_i hz
      subst hz
      simp only [Option.some.injEq, Prod.mk.injEq] at h
      obtain ⟨rfl, rfl⟩ := h
      exact ⟨_, w, ι, run_append_room hu he h0 h1 hxd hxi hn hnew (Nat.le_refl _) (by rfl), .nils, hm, .refl _ _ _ _ _⟩
    · rename_i hz
      split at h
      · rename_i hmost
        simp only [Option.some.injEq, Prod.mk.injEq] at h
        obtain ⟨rfl, rfl⟩ := h
        obtain ⟨newCap, z, hc, hzs, hrun⟩ := run_append_grow (ty := ty) (base := none) (len := 0) (cap := 0) (old := #[]) hu he h0 h1 hxd hxi hn hnew' (fun W _ => rfl) (by omega) (by omega)
        simp only [Nat.zero_add] at hrun hc hzs
        obtain ⟨g1, g2, g3⟩ := grown (P := P) (e := e) (u := u) (z := z) hm hi hnr hnone hlen hc hzs
        exact ⟨_, _, _, by simpa using hrun, g3, g1, g2⟩
      · cases h
  · -- immutable
    rename_i cs' len capped
    cases hs with
    | psl _ _ _ b o ccap g hl hcp hq0 hC hv =>
      split at h
      · rename_i hcond
        obtain ⟨hcl, hmost⟩ := hcond
        split at h
        · rename_i hz
          subst hz
          simp only [Option.some.injEq, Prod.mk.injEq] at h
          obtain ⟨rfl, rfl⟩ := h
          have hna : na = #[] := by have := hnr.1; apply Array.eq_empty_of_size_eq_zero; omega
          refine ⟨_, w, ι, run_append_room hu he h0 h1 hxd hxi hn hnew (by omega) (w' := w) (by rw [hna]; rfl), .psl _ _ _ b o ccap g hl hcp hq0 hC hv, hm, .refl _ _ _ _ _⟩
        · rename_i hz
          split at h
          · rename_i hcap
            simp only [Option.some.injEq, Prod.mk.injEq] at h
            obtain ⟨rfl, rfl⟩ := h
            obtain rfl := (hcp hcap).symm
            have hold : ∀ W, W.heap = w.heap → (Builtin.firstCells e.size len (.slice (some ⟨b, o, none⟩) len len)).run P W = .ok ((List.range (len * e.size)).map g).toArray W := by
              intro W hW
              simp only [Builtin.firstCells]
              exact run_loadCells P W ⟨b, o, none⟩ rfl g _ (fun j hj => by
                have := (hm.fro _ _ _ (hC j (by omega))).1
                simpa only [World.cell?, hW] using this)
            obtain ⟨newCap, z, hc, hzs, hrun⟩ := run_append_grow (ty := ty) hu he h0 h1 hxd hxi hn hnew' hold (by omega) hmost
            have hor : LR ι C cs' ((List.range (len * e.size)).map g).toArray := ⟨by simp [hcl], fun j p q => by simpa using hv j p⟩
            have hone1 : cs'.all V.one = true := by
              rw [List.all_eq_true]; intro v hv'; obtain ⟨j, hj, rfl⟩ := List.mem_iff_getElem.1 hv'; exact hq0 j hj
            obtain ⟨g1, g2, g3⟩ := grown (P := P) (e := e) (u := u) (z := z) hm hi (hor.append hnr) (by simp only [List.all_append, hone1, hnone, Bool.and_self]) (by simp only [List.length_append, hcl, hlen, Nat.add_mul]) hc hzs
            exact ⟨_, _, _, hrun, g3, g1, g2⟩
          · cases h
      · cases h
    | psl0 _ a =>
      split at h
      · rename_i hcond
        obtain ⟨hcl, hmost⟩ := hcond
        split at h
        · rename_i hz
          subst hz
          simp only [Option.some.injEq, Prod.mk.injEq] at h
          obtain ⟨rfl, rfl⟩ := h
          have hna : na = #[] := by have := hnr.1; apply Array.eq_empty_of_size_eq_zero; omega
          refine ⟨_, w, ι, run_append_room hu he h0 h1 hxd hxi hn hnew (by omega) (w' := w) (by rw [hna]; rfl), .psl0 _ a, hm, .refl _ _ _ _ _⟩
        · rename_i hz
          split at h
          · rename_i hcap
            simp only [Option.some.injEq, Prod.mk.injEq] at h
            obtain ⟨rfl, rfl⟩ := h
            have hold : ∀ W, W.heap = w.heap → (Builtin.firstCells e.size 0 (.slice (some a) 0 0)).run P W = .ok #[] W := by
              intro W hW
              simp [Builtin.firstCells, loadCells, loadCellsFrom]
            obtain ⟨newCap, z, hc, hzs, hrun⟩ := run_append_grow (ty := ty) hu he h0 h1 hxd hxi hn hnew' hold (by omega) hmost
            have hor : LR ι C [] #[] := ⟨rfl, fun j p q => absurd p (by simp)⟩
            obtain ⟨g1, g2, g3⟩ := grown (P := P) (e := e) (u := u) (z := z) hm hi (hor.append hnr) (by simp only [List.all_append, List.all_nil, hnone, Bool.and_self]) (by simp only [List.length_append, List.length_nil, hlen, Nat.add_mul, Nat.zero_mul]) hc hzs
            exact ⟨_, _, _, hrun, g3, g1, g2⟩
          · cases h
      · cases h
  · -- a slice of one's own
    rename_i j off len sz cap
    split at h
    · rename_i cs' hM
      split at h
      · rename_i hcond
        obtain ⟨rfl, hle, hmost⟩ := hcond
        cases hs with
        | sl _ _ _ _ _ pl a ccap hij hl hcp hsp h2 =>
          obtain ⟨b, o, r, rfl, hO⟩ := hm.obj j pl _ hij hM
          obtain ⟨ha, hroom, hend2⟩ := h2 b o r rfl
          cases hO with
          | cells _ _ _ _ arr el hbk hr hl' hone hv =>
            have holdl : ∀ W, W.heap = w.heap → (Builtin.firstCells e.size len (.slice (some a) len ccap)).run P W = .ok ((List.range (len * e.size)).map fun k => arr.getD (o + off + k) undef).toArray W := by
              intro W hW
              simp only [Builtin.firstCells]
              by_cases hz : len * e.size = 0
              · rw [hz]; rfl
              · have hlen0 : 0 < len := by
                  rcases Nat.eq_zero_or_pos len with q | q
                  · simp [q] at hz
                  · exact q
                obtain rfl := ha (by omega)
                refine run_loadCells P W ⟨b, o + off, none⟩ rfl _ _ (fun k hk => ?_)
                show W.cell? ⟨b, o + off + k, none⟩ = _
                rw [cell_some (by rw [hW]; exact hbk), Array.getD_eq_getD_getElem?, Array.getElem?_eq_getElem (by omega)]; rfl
            have hor : LR ι C ((cs'.drop off).take (len * e.size)) ((List.range (len * e.size)).map fun k => arr.getD (o + off + k) undef).toArray := by
              refine ⟨by simp; omega, fun k p q => ?_⟩
              simp at p q
              have := hv (off + k) (by omega) (by omega)
              have e1 : arr.getD (o + off + k) undef = arr[o + (off + k)]'(by omega) := by
                rw [Array.getD_eq_getD_getElem?, Array.getElem?_eq_getElem (by omega)]; simp [Nat.add_assoc]
              simp only [List.getElem_take, List.getElem_drop, List.getElem_toArray, List.getElem_map, List.getElem_range]
              rw [e1]; exact this
            have hone1 : ((cs'.drop off).take (len * e.size)).all V.one = true := by
              rw [List.all_eq_true]; intro v hv'; obtain ⟨k, hk, rfl⟩ := List.mem_iff_getElem.1 (List.mem_of_mem_drop (List.mem_of_mem_take hv')); exact hone k hk
            split at h
            · -- the capacity is known
              rename_i c
              obtain rfl := hcp c rfl
              split at h
              · rename_i hin
                split at h
                · rename_i hfit
                  simp only [Option.some.injEq, Prod.mk.injEq] at h
                  obtain ⟨rfl, rfl⟩ := h
                  have hfit' : off + len * e.size + new.length ≤ cs'.length := by rw [hlen]; rw [Nat.add_mul] at hfit; omega
                  obtain ⟨g1, g2⟩ := write_obj hm hij hM hbk hr hl' hone hv hnr hnone (o := off + len * e.size) hfit' i
                  refine ⟨_, _, ι, run_append_room hu he h0 h1 hxd hxi hn hnew hin (w' := putBlock w b (.cells (spliceA arr (o + (off + len * e.size)) na.toList) el (0, 0))) ?_, ?_, g1, g2⟩
                  · simp only [add_plain a hsp]
                    by_cases hz : c = 0
                    · subst hz
                      have hna : na = #[] := by have := hnr.1; apply Array.eq_empty_of_size_eq_zero; have : n = 0 := by omega
                                                subst this; omega
                      rw [hna]
                      simp only [storeCells, Sem.run_pure, spliceA]
                      rw [putBlock_id hbk]
                    · obtain rfl := ha (by omega)
                      have := run_storeCells (P := P) na.toList w arr (o + off + len * e.size) 0 hbk (by simp; have := hnr.1; omega) (hnr.oneAll hnone)
                      simpa [Nat.add_assoc] using this
                  · exact .sl _ _ _ _ _ (.at b o r) a c hij hin hcp hsp (fun b' o' r' e' => h2 b' o' r' e')
                · cases h
              · rename_i hout
                simp only [Option.some.injEq, Prod.mk.injEq] at h
                obtain ⟨rfl, rfl⟩ := h
                obtain ⟨newCap, z, hc, hzs, hrun⟩ := run_append_grow (ty := ty) hu he h0 h1 hxd hxi hn hnew' holdl (by omega) hmost
                obtain ⟨g1, g2, g3⟩ := grown (P := P) (e := e) (u := u) (z := z) hm hi (hor.append hnr) (by simp only [List.all_append, hone1, hnone, Bool.and_self]) (by simp [hlen, Nat.add_mul]; omega) hc hzs
                exact ⟨_, _, _, hrun, g3, g1, g2⟩
            · -- it is not
              split at h
              · rename_i hend
                simp only [Option.some.injEq, Prod.mk.injEq] at h
                obtain ⟨rfl, rfl⟩ := h
                have htake : (cs'.drop off).take (len * e.size) = cs'.drop off := List.take_of_length_le (by simp; omega)
                rw [htake] at hor hone1
                by_cases hin : len + n ≤ ccap
                · -- within
                  have hmul : (len + n) * e.size ≤ ccap * e.size := Nat.mul_le_mul_right _ hin
                  rw [Nat.add_mul] at hmul
                  have hbs : b < w.heap.size := (Array.getElem?_eq_some_iff.1 hbk).1
                  have hvl : na.toList.length = new.length := by simp [hnr.1]
                  obtain ⟨g1, g2⟩ := hm.renew hi hij (by rw [hM]; simp) (ob := .cells (cs'.drop off ++ new)) (o2 := o + off) (r2 := r - off) (w' := putBlock w b (.cells (spliceA arr (o + off + len * e.size) na.toList) el (0, 0)))
                    (putBlock_size _ _ _) (fun k hk => putBlock_other _ _ _ _ hk) rfl rfl rfl (fun ι' hdom => by
                      refine .cells _ _ _ _ (spliceA arr (o + off + len * e.size) na.toList) el (putBlock_same _ _ _ hbs) (by rw [spliceA_size]; omega) (by simp; omega) (fun k hk => ?_) (fun k hk hc => ?_)
                      · by_cases hk2 : k < (cs'.drop off).length
                        · rw [List.getElem_append_left hk2]; exact (List.all_eq_true.1 hone1) _ (List.getElem_mem _)
                        · rw [List.getElem_append_right (by omega)]; exact (List.all_eq_true.1 hnone) _ (List.getElem_mem _)
                      · have hget := spliceA_get na.toList arr (o + off + len * e.size) (o + off + k) (by omega)
                        rw [Array.getElem?_eq_getElem hc] at hget
                        simp only [List.length_append, List.length_drop] at hk
                        by_cases hk2 : k < (cs'.drop off).length
                        · simp at hk2
                          rw [List.getElem_append_left (by simpa using hk2)]
                          rw [if_neg (by omega), Array.getElem?_eq_getElem (by omega)] at hget
                          simp only [Option.some.injEq] at hget
                          rw [hget]
                          have := (hv (off + k) (by omega) (by omega)).mono hdom (fun _ _ _ h => h)
                          simp only [List.getElem_drop]
                          simpa only [Nat.add_assoc] using this
                        · simp at hk2
                          rw [List.getElem_append_right (by simpa using hk2)]
                          rw [if_pos (by omega)] at hget
                          have e1 : o + off + k - (o + off + len * e.size) = k - (cs'.drop off).length := by simp; omega
                          have hb1 : k - (cs'.drop off).length < na.toList.length := by rw [hvl]; simp only [List.length_drop]; omega
                          rw [e1, List.getElem?_eq_getElem hb1] at hget
                          simp only [Option.some.injEq] at hget
                          rw [hget]
                          have := (hnr.2 (k - (cs'.drop off).length) (by rw [hvl] at hb1; exact hb1) (by simpa using hb1)).mono hdom (fun _ _ _ h => h)
                          simpa using this)
                  refine ⟨_, _, _, run_append_room hu he h0 h1 hxd hxi hn hnew hin (w' := putBlock w b (.cells (spliceA arr (o + off + len * e.size) na.toList) el (0, 0))) ?_, ?_, g1, g2⟩
                  · simp only [add_plain a hsp]
                    by_cases hz : ccap = 0
                    · have hna : na = #[] := by have := hnr.1; apply Array.eq_empty_of_size_eq_zero; have : n = 0 := by omega
                                                subst this; omega
                      rw [hna]
                      simp only [storeCells, Sem.run_pure, spliceA]
                      rw [putBlock_id hbk]
                    · obtain rfl := ha (by omega)
                      have := run_storeCells (P := P) na.toList w arr (o + off + len * e.size) 0 hbk (by simp; have := hnr.1; omega) (hnr.oneAll hnone)
                      simpa using this
                  · refine .sl _ _ _ _ _ (.at b (o + off) (r - off)) a ccap (by simp [Inj.upd]) hin (fun c hc => by cases hc) hsp (fun b' o' r' e' => ?_)
                    cases e'
                    exact ⟨fun hp => by rw [ha hp]; simp, by omega, fun _ => by have := hend2 rfl; omega⟩
                · obtain ⟨newCap, z, hc, hzs, hrun⟩ := run_append_grow (ty := ty) hu he h0 h1 hxd hxi hn hnew' holdl (by omega) hmost
                  obtain ⟨k1, k2⟩ := hm.kill j (by rw [hij]; simp) (by rw [hM]; simp) i
                  have hi' : (ι.upd j .dead) i = none := by
                    unfold Inj.upd
                    rw [if_neg (by rintro rfl; rw [hi] at hij; cases hij)]; exact hi
                  obtain ⟨g1, g2, g3⟩ := grown (P := P) (e := e) (u := u) (z := z) k1 hi' ((hor.mono k2.dom k2.fro).append (hnr.mono k2.dom k2.fro)) (by simp only [List.all_append, hone1, hnone, Bool.and_self]) (by simp [hlen, Nat.add_mul]; omega) hc hzs
                  rw [htake.symm.symm] at *
                  exact ⟨_, _, _, hrun, g3, g1, k2.trans g2⟩
              · split at h
                · rename_i hfit
                  simp only [Option.some.injEq, Prod.mk.injEq] at h
                  obtain ⟨rfl, rfl⟩ := h
                  have hfit' : off + len * e.size + new.length ≤ cs'.length := by rw [hlen]; rw [Nat.add_mul] at hfit; omega
                  have hin : len + n ≤ ccap := by
                    have h3 := hend2 rfl
                    have h4 : (len + n) * e.size ≤ ccap * e.size := by omega
                    exact Nat.le_of_mul_le_mul_right h4 hpos
                  obtain ⟨g1, g2⟩ := write_obj hm hij hM hbk hr hl' hone hv hnr hnone (o := off + len * e.size) hfit' i
                  refine ⟨_, _, ι, run_append_room hu he h0 h1 hxd hxi hn hnew hin (w' := putBlock w b (.cells (spliceA arr (o + (off + len * e.size)) na.toList) el (0, 0))) ?_, ?_, g1, g2⟩
                  · simp only [add_plain a hsp]
                    by_cases hz : ccap = 0
                    · have hna : na = #[] := by have := hnr.1; apply Array.eq_empty_of_size_eq_zero; have : n = 0 := by omega
                                                subst this; omega
                      rw [hna]
                      simp only [storeCells, Sem.run_pure, spliceA]
                      rw [putBlock_id hbk]
                    · obtain rfl := ha (by omega)
                      have := run_storeCells (P := P) na.toList w arr (o + off + len * e.size) 0 hbk (by simp; have := hnr.1; omega) (hnr.oneAll hnone)
                      simpa [Nat.add_assoc] using this
                  · exact .sl _ _ _ _ _ (.at b o r) a ccap hij hin hcp hsp (fun b' o' r' e' => h2 b' o' r' e')
                · cases h
      · cases h
    · cases h
  · cases h
end Go.Ab

/- Each operation of the evaluator that calls no function is the model's. Conditions: none. -/
namespace Go.Ab

theorem run_v {P : Program} {s : Sem Value} {c : Value} {w w' : World} (h : s.run P w = .ok c w') : (do pure (Next.value (← s)) : Sem Next).run P w = .ok (.value c) w' := by
  simp [h]
theorem run_u {P : Program} {s : Sem Unit} {w w' : World} (h : s.run P w = .ok () w') : (do s; pure Next.skip : Sem Next).run P w = .ok .skip w' := by
  simp [h]

theorem args_rel {ρ : Operand → V} {ρ' : Operand → Value} {ι C} (hρ : ∀ x, VR ι C (ρ x) (ρ' x)) (xs : Array Operand) : LR ι C (xs.toList.map ρ) (xs.map ρ') :=
  ⟨by simp, fun j p q => by simp; exact hρ _⟩

theorem arr1 {α : Type} {a : Array α} {x : α} (h : a.size = 1) (h0 : a[0]? = some x) : a = #[x] := by
  apply Array.ext (by simp [h])
  intro j p q
  simp at q
  subst q
  have := Array.getElem?_eq_some_iff.1 h0
  exact this.2

theorem builtinV_sound {P : Program} {b : Builtin} {ts : Array TypeId} {args : List V} {cargs : Array Value} {v : V} {M M' : Mem} {ι C w} {i : Id} (h : builtinV P b ts args i M = some (v, M')) (ha : LR ι C args cargs) (hm : MR ι C M w) (hi : ι i = none)
    (ty : TypeId) (cs : Array Bool) : ∃ c w' ι', (builtin b ts ty cs cargs).run P w = .ok (.value c) w' ∧ VR ι' C v c ∧ MR ι' C M' w' ∧ Stp i ι C M w ι' C M' w' := by
  unfold builtinV at h
  split at h
  · rename_i t rest x hts
    simp only [Option.map_eq_some_iff, Prod.mk.injEq] at h
    obtain ⟨v', h1, rfl, rfl⟩ := h
    obtain ⟨c, rfl⟩ : ∃ c, cargs = #[c] := ⟨cargs[0]'(by have := ha.1; simp at this; omega), arr1 (by have := ha.1; simp at this; omega) (Array.getElem?_eq_getElem _)⟩
    have hx := ha.2 0 (by simp) (by simp)
    obtain ⟨r, h2, h3⟩ := lenV_sound (P := P) ty ts (by rw [← Array.getElem?_toList, hts]; rfl) h1 hx hm
    exact ⟨r, w, ι, run_v h2, h3, hm, .refl _ _ _ _ _⟩
  · rename_i t t' rest s x hts
    have h0 : ts[0]? = some t := by rw [← Array.getElem?_toList, hts]; rfl
    have h1 : ts[1]? = some t' := by rw [← Array.getElem?_toList, hts]; rfl
    obtain ⟨c1, c2, rfl⟩ : ∃ c1 c2, cargs = #[c1, c2] := by
      have hsz : cargs.size = 2 := by have := ha.1; simp at this; omega
      refine ⟨cargs[0], cargs[1], ?_⟩
      apply Array.ext (by simp [hsz])
      intro j p q
      match j, q with
      | 0, _ => rfl
      | 1, _ => rfl
    have hs := ha.2 0 (by simp) (by simp)
    have hx := ha.2 1 (by simp) (by simp)
    split at h
    · cases h
    · cases h
    · rename_i hk1 hk2
      have hxd : ∃ xd, P.underlying t' = some xd ∧ ∀ k, xd ≠ .int k := by
        cases hu : P.underlying t' with
        | none => exact absurd (by simp [kd, hu]) hk2
        | some xd => exact ⟨xd, rfl, fun k e => hk1 k (by simp [kd, hu, e])⟩
      obtain ⟨xd, hxd, hxi⟩ := hxd
      unfold appendV at h
      split at h
      · rename_i e hk
        obtain ⟨u, hu, he⟩ := kd_slice hk
        split at h
        · rename_i n new hsrc
          split at h
          · rename_i hlen
            obtain ⟨r, w', ι', g1, g2, g3, g4⟩ := joinV_sound (ty := ty) hu he h0 h1 hxd hxi hsrc hlen h hs hx hm hi
            exact ⟨r, w', ι', run_v g1, g2, g3, g4⟩
          · cases h
        · cases h
      · cases h
  · simp only [Option.map_eq_some_iff, Prod.mk.injEq] at h
    obtain ⟨v', h1, rfl, rfl⟩ := h
    unfold minV at h1
    split at h1
    · rename_i k a l
      obtain ⟨c0, cl, hcl⟩ : ∃ c0 cl, cargs.toList = c0 :: cl := by
        cases hq : cargs.toList with
        | nil => have := ha.1; rw [← Array.length_toList, hq] at this; simp at this
        | cons c0 cl => exact ⟨c0, cl, rfl⟩
      have hlen : l.length = cl.length := by have := ha.1; rw [← Array.length_toList, hcl] at this; simpa using this
      have h00 := ha.2 0 (by simp) (by rw [← Array.length_toList, hcl]; simp)
      have e0 : cargs[0]'(by rw [← Array.length_toList, hcl]; simp) = c0 := by
        rw [← Array.getElem_toList]; simp only [hcl, List.getElem_cons_zero]
      rw [e0] at h00
      cases h00
      obtain ⟨r, g1, g2⟩ := min_fold (P := P) ι C w l cl a v' h1 hlen (fun j p q => by
        have := ha.2 (j + 1) (by simpa using p) (by rw [← Array.length_toList, hcl]; simpa using q)
        rw [← Array.getElem_toList] at this
        simpa only [hcl, List.getElem_cons_succ] using this)
      refine ⟨r, w, ι, run_v ?_, g2, hm, .refl _ _ _ _ _⟩
      unfold Builtin.min_
      rw [hcl]
      exact g1
    · cases h1
  · simp only [Option.map_eq_some_iff, Prod.mk.injEq] at h
    obtain ⟨v', h1, rfl, rfl⟩ := h
    unfold maxV at h1
    split at h1
    · rename_i k a l
      obtain ⟨c0, cl, hcl⟩ : ∃ c0 cl, cargs.toList = c0 :: cl := by
        cases hq : cargs.toList with
        | nil => have := ha.1; rw [← Array.length_toList, hq] at this; simp at this
        | cons c0 cl => exact ⟨c0, cl, rfl⟩
      have hlen : l.length = cl.length := by have := ha.1; rw [← Array.length_toList, hcl] at this; simpa using this
      have h00 := ha.2 0 (by simp) (by rw [← Array.length_toList, hcl]; simp)
      have e0 : cargs[0]'(by rw [← Array.length_toList, hcl]; simp) = c0 := by
        rw [← Array.getElem_toList]; simp only [hcl, List.getElem_cons_zero]
      rw [e0] at h00
      cases h00
      obtain ⟨r, g1, g2⟩ := max_fold (P := P) ι C w l cl a v' h1 hlen (fun j p q => by
        have := ha.2 (j + 1) (by simpa using p) (by rw [← Array.length_toList, hcl]; simpa using q)
        rw [← Array.getElem_toList] at this
        simpa only [hcl, List.getElem_cons_succ] using this)
      refine ⟨r, w, ι, run_v ?_, g2, hm, .refl _ _ _ _ _⟩
      unfold Builtin.max_
      rw [hcl]
      exact g1
    · cases h1
  · rename_i t rest j hts
    split at h
    · rename_i k z es hk hM
      simp only [Option.some.injEq, Prod.mk.injEq] at h
      obtain ⟨rfl, rfl⟩ := h
      obtain ⟨c, rfl⟩ : ∃ c, cargs = #[c] := ⟨cargs[0]'(by have := ha.1; simp at this; omega), arr1 (by have := ha.1; simp at this; omega) (Array.getElem?_eq_getElem _)⟩
      have hx := ha.2 0 (by simp) (by simp)
      obtain ⟨w', g1, g2, g3⟩ := clear_sound (P := P) (ts := ts) (ty := ty) (by rw [← Array.getElem?_toList, hts]; rfl) hk hM hx hm i
      exact ⟨_, w', ι, run_v g1, .tup [] #[] rfl (fun j p _ => absurd p (by simp)), g2, g3⟩
    · cases h
  · rename_i t rest hts
    split at h
    · rename_i e hk
      obtain ⟨u, hu, he⟩ := kd_slice hk
      simp only [Option.some.injEq, Prod.mk.injEq] at h
      obtain ⟨rfl, rfl⟩ := h
      obtain ⟨c, rfl⟩ : ∃ c, cargs = #[c] := ⟨cargs[0]'(by have := ha.1; simp at this; omega), arr1 (by have := ha.1; simp at this; omega) (Array.getElem?_eq_getElem _)⟩
      have hx := ha.2 0 (by simp) (by simp)
      simp only [List.getElem_cons_zero, List.getElem_toArray] at hx
      have h0 : ts[0]? = some t := by rw [← Array.getElem?_toList, hts]; rfl
      cases hx
      refine ⟨_, w, ι, run_v (c := .tuple #[]) ?_, .tup [] #[] rfl (fun j p _ => absurd p (by simp)), hm, .refl _ _ _ _ _⟩
      unfold Builtin.clear_
      simp [h0, run_underlying hu]
    · cases h
  · rename_i t rest j off len sz cap hts
    obtain ⟨c, rfl⟩ : ∃ c, cargs = #[c] := ⟨cargs[0]'(by have := ha.1; simp at this; omega), arr1 (by have := ha.1; simp at this; omega) (Array.getElem?_eq_getElem _)⟩
    have hx := ha.2 0 (by simp) (by simp)
    obtain ⟨w', g1, rfl, g2, g3⟩ := clearS_sound (P := P) (ts := ts) (ty := ty) (by rw [← Array.getElem?_toList, hts]; rfl) h hx hm i
    exact ⟨_, w', ι, run_v g1, .tup [] #[] rfl (fun j p _ => absurd p (by simp)), g2, g3⟩
  · cases h

/-- what an operation leaves -/
def OpOk (P : Program) (o : Oper) (ρ' : Operand → Value) (w : World) (i : Id) (ι : Inj) (C : Fro) (M : Mem) (v : V) (M' : Mem) : Prop :=
  ∃ c w' ι', ((execOp ρ' o).run P w = .ok (.value c) w' ∨ ((execOp ρ' o).run P w = .ok .skip w' ∧ c = undef)) ∧ VR ι' C v c ∧ MR ι' C M' w' ∧ Stp i ι C M w ι' C M' w'

theorem opOk_same {P : Program} {o : Oper} {ρ' : Operand → Value} {w : World} {i : Id} {ι C M v} (hm : MR ι C M w) {s : Sem Value} (he : execOp ρ' o = (do pure (Next.value (← s)))) (h : ∃ c, s.run P w = .ok c w ∧ VR ι C v c) : OpOk P o ρ' w i ι C M v M := by
  obtain ⟨c, h1, h2⟩ := h
  exact ⟨c, w, ι, .inl (by rw [he]; exact run_v h1), h2, hm, .refl _ _ _ _ _⟩

theorem undef_rel {ι C} : VR ι C undefV undef := .tup [] #[] rfl (fun j p _ => absurd p (by simp))

theorem opV_sound {P : Program} (o : Oper) {ρ : Operand → V} {ρ' : Operand → Value} {ι C w} {i : Id} {M M' : Mem} {v : V} (hρ : ∀ x, VR ι C (ρ x) (ρ' x)) (h : opV P o.op ρ i M = some (v, M')) (hm : MR ι C M w) (hi : ι i = none) :
    OpOk P o ρ' w i ι C M v M' := by
  obtain ⟨dst, op, typ, pos, aft, grd⟩ := o
  simp only at h
  unfold opV at h
  split at h
  · simp only [Option.some.injEq, Prod.mk.injEq] at h; obtain ⟨rfl, rfl⟩ := h
    exact ⟨_, w, ι, .inl rfl, hρ _, hm, .refl _ _ _ _ _⟩
  · simp only [Option.some.injEq, Prod.mk.injEq] at h; obtain ⟨rfl, rfl⟩ := h
    exact ⟨_, w, ι, .inl rfl, hρ _, hm, .refl _ _ _ _ _⟩
  · rename_i c a b
    have hc := hρ c
    split at h
    · rename_i t ht
      simp only [Option.some.injEq, Prod.mk.injEq] at h; obtain ⟨rfl, rfl⟩ := h
      rw [ht] at hc
      refine ⟨if t then ρ' a else ρ' b, w, ι, .inl ?_, ?_, hm, .refl _ _ _ _ _⟩
      · generalize hq : ρ' c = q at hc; cases hc; simp [execOp, hq, asBool]
      · cases t <;> exact hρ _
    · cases h
  · rename_i e
    split at h
    · rename_i z hz
      split at h
      · rename_i h1
        simp only [Option.some.injEq, Prod.mk.injEq] at h; obtain ⟨rfl, rfl⟩ := h
        obtain ⟨c, w', ι', g1, g2, g3, g4⟩ := alloc_sound (P := P) hz h1 hm hi
        exact ⟨c, w', ι', .inl (run_v g1), g2, g3, g4⟩
      · cases h
    · cases h
  · rename_i e x
    split at h
    · rename_i h1
      simp only [Option.some.injEq, Prod.mk.injEq] at h; obtain ⟨rfl, rfl⟩ := h
      obtain ⟨c, w', ι', g1, g2, g3, g4⟩ := box_sound (P := P) (e := e) (hρ x) h1 hm hi
      exact ⟨c, w', ι', .inl (run_v g1), g2, g3, g4⟩
    · cases h
  · simp only [Option.map_eq_some_iff, Prod.mk.injEq] at h; obtain ⟨v', h1, rfl, rfl⟩ := h
    exact opOk_same hm rfl (buildV_sound hρ h1 w)
  · obtain ⟨c, w', ι', g1, g2, g3, g4⟩ := buildSliceV_sound (P := P) hρ h hm hi
    exact ⟨c, w', ι', .inl (run_v g1), g2, g3, g4⟩
  · simp only [Option.map_eq_some_iff, Prod.mk.injEq] at h; obtain ⟨v', h1, rfl, rfl⟩ := h
    exact opOk_same hm rfl (loadV_sound h1 (hρ _) hm)
  · simp only [Option.map_eq_some_iff, Prod.mk.injEq] at h; obtain ⟨M1, h1, rfl, rfl⟩ := h
    obtain ⟨w', g1, g2, g3⟩ := storeV_sound (P := P) h1 (hρ _) (hρ _) hm i
    exact ⟨undef, w', ι, .inr ⟨run_u g1, rfl⟩, undef_rel, g2, g3⟩
  · rename_i x
    simp only [Option.map_eq_some_iff, Prod.mk.injEq] at h; obtain ⟨v', h1, rfl, rfl⟩ := h
    obtain ⟨g1, rfl⟩ := nilCheck_sound (P := P) h1 (hρ x) (ρ' := ρ') ⟨dst, .nilCheck x, typ, pos, aft, grd⟩ x rfl rfl w
    exact ⟨_, w, ι, .inl g1, hρ x, hm, .refl _ _ _ _ _⟩
  · rename_i bo t x y yt
    simp only [Option.map_eq_some_iff, Prod.mk.injEq] at h; obtain ⟨v', h1, rfl, rfl⟩ := h
    obtain ⟨r, g1, g2⟩ := binV_sound h1 (hρ x) (hρ y) w (fun hstr r he => eqV_sound he (hρ x) (hρ y) w hstr)
    refine opOk_same hm rfl ⟨r, ?_, g2⟩
    rw [Sem.run_bind, eqV_guard h1 (hρ x) (hρ y) w x y]
    exact g1
  · simp only [Option.map_eq_some_iff, Prod.mk.injEq] at h; obtain ⟨v', h1, rfl, rfl⟩ := h
    exact opOk_same hm rfl (unV_sound h1 (hρ _) w)
  · simp only [Option.map_eq_some_iff, Prod.mk.injEq] at h; obtain ⟨v', h1, rfl, rfl⟩ := h
    exact opOk_same hm rfl (convV_sound h1 (hρ _) hm)
  · rename_i t x
    split at h
    · cases h
    · cases h
    · rename_i hk1 hk2
      simp only [Option.some.injEq, Prod.mk.injEq] at h; obtain ⟨rfl, rfl⟩ := h
      refine opOk_same hm rfl ⟨.iface t (ρ' x), ?_, .iface _ _ _ (hρ x)⟩
      cases hu : P.underlying t with
      | none => exact absurd (by simp [kd, hu]) hk2
      | some d =>
        have : ∀ ms, d ≠ .interface ms := fun ms e => hk1 (by simp [kd, hu, e])
        simp only [Instr.makeInterface, Sem.run_bind, run_underlying hu, Result.andThen_ok]
        cases d <;> first | rfl | exact absurd rfl (this _)
  · rename_i f a b
    simp only [Option.some.injEq, Prod.mk.injEq] at h; obtain ⟨rfl, rfl⟩ := h
    have h1 := args_rel hρ a
    have h2 := args_rel hρ b
    exact opOk_same hm rfl ⟨.func f (a.map ρ') (b.map ρ'), rfl, .fn f _ _ _ _ h1.1 h2.1 h1.2 h2.2⟩
  · simp only [Option.some.injEq, Prod.mk.injEq] at h; obtain ⟨rfl, rfl⟩ := h
    rename_i t
    obtain ⟨c, w', ι', g1, g2, g3, g4⟩ := makeMap_sound (P := P) (t := t) hm hi
    exact ⟨c, w', ι', .inl (run_v g1), g2, g3, g4⟩
  · rename_i t x lo hi' mx
    split at h
    · rename_i l hh m e1 e2 e3
      simp only [Option.map_eq_some_iff, Prod.mk.injEq] at h; obtain ⟨v', h1, rfl, rfl⟩ := h
      exact opOk_same hm rfl (sliceV_sound h1 (hρ x) (optB_sound hρ lo e1) (optB_sound hρ hi' e2) (optB_sound hρ mx e3) w)
    · cases h
  · simp only [Option.map_eq_some_iff, Prod.mk.injEq] at h; obtain ⟨v', h1, rfl, rfl⟩ := h
    exact opOk_same hm rfl (fieldAddrV_sound h1 (hρ _) w)
  · simp only [Option.map_eq_some_iff, Prod.mk.injEq] at h; obtain ⟨v', h1, rfl, rfl⟩ := h
    exact opOk_same hm rfl (fieldV_sound h1 (hρ _) w)
  · simp only [Option.map_eq_some_iff, Prod.mk.injEq] at h; obtain ⟨v', h1, rfl, rfl⟩ := h
    exact opOk_same hm rfl (indexAddrV_sound h1 (hρ _) (hρ _) w)
  · simp only [Option.map_eq_some_iff, Prod.mk.injEq] at h; obtain ⟨v', h1, rfl, rfl⟩ := h
    exact opOk_same hm rfl (indexV_sound h1 (hρ _) (hρ _) w)
  · simp only [Option.map_eq_some_iff, Prod.mk.injEq] at h; obtain ⟨v', h1, rfl, rfl⟩ := h
    exact opOk_same hm rfl (lookupV_sound h1 (hρ _) (hρ _) hm)
  · simp only [Option.map_eq_some_iff, Prod.mk.injEq] at h; obtain ⟨M1, h1, rfl, rfl⟩ := h
    obtain ⟨w', g1, g2, g3⟩ := mapUpdateV_sound (P := P) h1 (hρ _) (hρ _) (hρ _) hm i
    exact ⟨undef, w', ι, .inr ⟨run_u g1, rfl⟩, undef_rel, g2, g3⟩
  · simp only [Option.map_eq_some_iff, Prod.mk.injEq] at h; obtain ⟨M1, h1, rfl, rfl⟩ := h
    obtain ⟨w', g1, g2, g3⟩ := mapUpdateV_sound (P := P) h1 (hρ _) (hρ _) (hρ _) hm i
    exact ⟨undef, w', ι, .inr ⟨run_u g1, rfl⟩, undef_rel, g2, g3⟩
  · rename_i t n
    have ht := hρ t
    split at h
    · rename_i vs hvs
      simp only [Option.map_eq_some_iff, Prod.mk.injEq] at h; obtain ⟨v', h1, rfl, rfl⟩ := h
      rw [hvs] at ht
      obtain ⟨hlt, rfl⟩ := List.getElem?_eq_some_iff.1 h1
      generalize hq : ρ' t = q at ht
      cases ht with
      | tup _ a hl hr =>
        refine opOk_same hm rfl ⟨a[n]'(by omega), ?_, hr n hlt (by omega)⟩
        rw [hq]
        simp only [Instr.extract, Array.getElem?_eq_getElem (show n < a.size by omega)]
        rfl
    · cases h
  · rename_i b args ts
    obtain ⟨c, w', ι', g1, g2, g3, g4⟩ := builtinV_sound (P := P) h (args_rel hρ args) hm hi typ (args.map fun | .const _ => true | _ => false)
    refine ⟨c, w', ι', .inl ?_, g2, g3, g4⟩
    rw [← g1]
    simp [execOp, resolve, invoke]
    rfl
  · cases h
end Go.Ab

/- What a call leaves behind: results made immutable, the memory left alone. Conditions: none. -/
namespace Go.Ab

def TR (ι : Inj) (C : Fro) (f : Tm) (t : Array Value) : Prop := ∀ n, VR ι C (f n) (t.getD n undef)

theorem TR.mono {ι ι' C C' f t} (h : TR ι C f t) (hi : ∀ i pl, ι i = some pl → ι' i = some pl ∨ ι' i = some .dead) (hC : ∀ b o x, C b o = some x → C' b o = some x) : TR ι' C' f t :=
  fun n => (h n).mono hi hC

theorem TR.ev {ι C f} {a : Act} (h : TR ι C f a.tmps) (x : Operand) : VR ι C (ev f x) (a.eval x) := by
  cases x with
  | tmp t => exact h t
  | const v => exact VR.constC ι C v
  | global g => exact .bad _
  | func g => exact .fn _ [] [] #[] #[] rfl rfl (fun j p _ => absurd p (by simp)) (fun j p _ => absurd p (by simp))

theorem TR.put {ι C f} {a : Act} (h : TR ι C f a.tmps) {d : Option Tmp} {v : V} {c : Value} (hv : VR ι C v c) (hd : ∀ t, d = some t → t < a.tmps.size) : TR ι C (put f d v) (a.put d c).tmps := by
  cases d with
  | none => exact h
  | some t =>
    intro n
    simp only [Ab.put, upd, Act.put]
    by_cases hn : n = t
    · subst hn
      rw [if_pos rfl, Array.getD_eq_getD_getElem?, Array.getElem?_setIfInBounds, if_pos rfl, if_pos (hd n rfl)]
      exact hv
    · rw [if_neg hn, Array.getD_eq_getD_getElem?, Array.getElem?_setIfInBounds, if_neg (Ne.symm hn), ← Array.getD_eq_getD_getElem?]
      exact h n

theorem Act.put_size (a : Act) (d : Option Tmp) (c : Value) : (a.put d c).tmps.size = a.tmps.size := by
  cases d <;> simp [Act.put]

/-! making immutable -/
theorem freeze1_sound {M M' : Mem} {v v' : V} {ι C w c} (h : freeze1 M v = some (v', M')) (hv : VR ι C v c) (hm : MR ι C M w) (s : Id) :
    ∃ ι' C', VR ι' C' v' c ∧ MR ι' C' M' w ∧ Stp s ι C M w ι' C' M' w := by
  unfold freeze1 at h
  split at h
  · rename_i j off len sz cap
    split at h
    · rename_i cs hM
      split at h
      · rename_i hle
        simp only [Option.some.injEq, Prod.mk.injEq] at h
        obtain ⟨rfl, rfl⟩ := h
        cases hv with
        | sl _ _ _ _ _ pl a ccap hij hl hcp hsp h2 =>
          obtain ⟨b, o, r, rfl, hO⟩ := hm.obj j pl _ hij hM
          obtain ⟨ha, hroom, _⟩ := h2 b o r rfl
          cases hO with
          | cells _ _ _ _ arr el hbk hr hl' hone hval =>
            obtain ⟨k1, k2⟩ := hm.kill j (by rw [hij]; simp) (by rw [hM]; simp) s
            have hCb : ∀ x y, C b x = some y → False := fun x y e => (hm.fro b x y e).2 j o r hij
            let C' : Fro := fun b' k => if b' = b then (if o + off ≤ k ∧ k < o + off + len * sz then arr[k]? else none) else C b' k
            have hCC : ∀ b' k x, C b' k = some x → C' b' k = some x := by
              intro b' k x e
              show (if b' = b then _ else _) = _
              rw [if_neg (by rintro rfl; exact hCb _ _ e)]; exact e
            have hm' : MR (ι.upd j .dead) C' (M.del j) w := by
              refine ⟨k1.bound, k1.inj, fun i pl ob e1 e2 => ?_, fun b' k x e => ?_⟩
              · obtain ⟨b', off', r', rfl, hO'⟩ := k1.obj i pl ob e1 e2
                exact ⟨b', off', r', rfl, hO'.mono rfl (fun _ _ h => .inl h) hCC⟩
              · change (if b' = b then (if o + off ≤ k ∧ k < o + off + len * sz then arr[k]? else none) else C b' k) = some x at e
                split at e
                · rename_i hb; subst hb
                  split at e
                  · refine ⟨by rw [cell_some hbk]; exact e, fun i o' r' e' => ?_⟩
                    unfold Inj.upd at e'
                    split at e'
                    · cases e'
                    · rename_i hne; exact hne (hm.inj i j _ _ _ _ _ e' hij)
                  · cases e
                · exact k1.fro b' k x e
            have hstp : Stp s ι C M w (ι.upd j .dead) C' (M.del j) w := { k2 with fro := hCC }
            refine ⟨_, C', ?_, hm', hstp⟩
            have hcell : ∀ k, k < len * sz → C' b (o + off + k) = some (arr.getD (o + off + k) undef) := by
              intro k hk
              show (if b = b then (if o + off ≤ o + off + k ∧ o + off + k < o + off + len * sz then arr[o + off + k]? else none) else C b (o + off + k)) = _
              rw [if_pos rfl, if_pos (by omega), Array.getD_eq_getD_getElem?, Array.getElem?_eq_getElem (by omega)]; rfl
            have hva : ∀ k (hk : k < ((cs.drop off).take (len * sz)).length), VR (ι.upd j .dead) C' ((cs.drop off).take (len * sz))[k] (arr.getD (o + off + k) undef) := by
              intro k hk
              simp at hk
              have := (hval (off + k) (by omega) (by omega)).mono hstp.dom hCC
              have e1 : arr.getD (o + off + k) undef = arr[o + (off + k)]'(by omega) := by
                rw [Array.getD_eq_getD_getElem?, Array.getElem?_eq_getElem (by omega)]; simp [Nat.add_assoc]
              simp only [List.getElem_take, List.getElem_drop]
              rw [e1]; exact this
            have hone' : ∀ k (hk : k < ((cs.drop off).take (len * sz)).length), ((cs.drop off).take (len * sz))[k].one = true := by
              intro k hk
              simp at hk
              simp only [List.getElem_take, List.getElem_drop]
              exact hone _ _
            by_cases hz : ccap = 0
            · have hl0 : len = 0 := by omega
              obtain ⟨ab, ao, asp⟩ := a
              simp only at hsp; subst hsp
              refine .psl _ _ _ ab ao _ (fun _ => undef) hl (by simp) ?_ ?_ ?_ <;> (intro k hk; simp [hl0] at hk)
            · obtain rfl := ha (by omega)
              exact .psl _ _ _ b (o + off) _ (fun k => arr.getD (o + off + k) undef) hl (by simp) hone' (fun k hk => hcell k (by simp at hk; omega)) hva
      · cases h
    · cases h
  · simp only [Option.some.injEq, Prod.mk.injEq] at h
    obtain ⟨rfl, rfl⟩ := h
    cases hv with
    | psl _ _ _ b o ccap g hl hcp h0 hC hv => exact ⟨ι, C, .psl _ _ _ b o ccap g hl (by simp) h0 hC hv, hm, .refl _ _ _ _ _⟩
    | psl0 _ a => exact ⟨ι, C, .psl0 _ a, hm, .refl _ _ _ _ _⟩
  · simp only [Option.some.injEq, Prod.mk.injEq] at h
    obtain ⟨rfl, rfl⟩ := h
    exact ⟨ι, C, hv, hm, .refl _ _ _ _ _⟩

theorem freezeL_sound {w : World} {s : Id} : ∀ (l l' : List V) (a : List Value) (M M' : Mem) (ι : Inj) (C : Fro), freezeL M l = some (l', M') → l.length = a.length → (∀ j (p : j < l.length) (q : j < a.length), VR ι C l[j] a[j]) → MR ι C M w →
    ∃ ι' C', (l'.length = a.length ∧ ∀ j (p : j < l'.length) (q : j < a.length), VR ι' C' l'[j] a[j]) ∧ MR ι' C' M' w ∧ Stp s ι C M w ι' C' M' w
  | [], l', a, M, M', ι, C, h, hl, _, hm => by
    simp only [freezeL, Option.some.injEq, Prod.mk.injEq] at h
    obtain ⟨rfl, rfl⟩ := h
    exact ⟨ι, C, ⟨hl, fun j p _ => absurd p (by simp)⟩, hm, .refl _ _ _ _ _⟩
  | v :: l, l', [], M, M', ι, C, h, hl, _, hm => by simp at hl
  | v :: l, l', c :: a, M, M', ι, C, h, hl, hr, hm => by
    simp only [freezeL] at h
    split at h
    · rename_i v1 M1 h1
      split at h
      · rename_i l1 M2 h2
        simp only [Option.some.injEq, Prod.mk.injEq] at h
        obtain ⟨rfl, rfl⟩ := h
        obtain ⟨ι1, C1, g1, g2, g3⟩ := freeze1_sound h1 (hr 0 (by simp) (by simp)) hm s
        obtain ⟨ι2, C2, ⟨q0, q1⟩, q2, q3⟩ := freezeL_sound (s := s) l l1 a M1 M2 ι1 C1 h2 (by simpa using hl) (fun j p q => by
          have := hr (j + 1) (by simpa using p) (by simpa using q)
          simp only [List.getElem_cons_succ] at this
          exact this.mono g3.dom g3.fro) g2
        refine ⟨ι2, C2, ⟨by simpa using q0, fun j p q => ?_⟩, q2, g3.trans q3⟩
        cases j with
        | zero => simpa using g1.mono q3.dom q3.fro
        | succ j => simpa using q1 j (by simpa using p) (by simpa using q)
      · cases h
    · cases h

theorem freezeV_sound {M M' : Mem} {v v' : V} {ι C w c} (h : freezeV M v = some (v', M')) (hv : VR ι C v c) (hm : MR ι C M w) (s : Id) :
    ∃ ι' C', VR ι' C' v' c ∧ MR ι' C' M' w ∧ Stp s ι C M w ι' C' M' w := by
  unfold freezeV at h
  split at h
  · rename_i cs
    simp only [Option.map_eq_some_iff] at h
    obtain ⟨⟨cs', M1⟩, h1, h2⟩ := h
    simp only [Prod.mk.injEq] at h2
    obtain ⟨rfl, rfl⟩ := h2
    cases hv with
    | agg _ a hl hr =>
      obtain ⟨ι', C', ⟨g0, g1⟩, g2, g3⟩ := freezeL_sound (s := s) cs cs' a.toList M M1 ι C h1 (by simpa using hl) (fun j p q => by simpa using hr j p (by simpa using q)) hm
      exact ⟨ι', C', .agg _ _ (by simpa using g0) (fun j p q => by have := g1 j p (by simpa using q); rwa [Array.getElem_toList] at this), g2, g3⟩
  · rename_i vs
    cases hv with
    | tup _ a hl hr =>
      split at h
      · rename_i cs v
        split at h
        · rename_i cs' M1 h1
          split at h
          · rename_i v1 M2 h2
            simp only [Option.some.injEq, Prod.mk.injEq] at h
            obtain ⟨rfl, rfl⟩ := h
            have h00 := hr 0 (by simp) (by simp at hl; omega)
            have h01 := hr 1 (by simp) (by simp at hl; omega)
            simp only [List.getElem_cons_zero, List.getElem_cons_succ] at h00 h01
            generalize hq0 : a[0]'(by simp at hl; omega) = c0 at h00
            cases h00 with
            | agg _ aa hl0 hr0 =>
              obtain ⟨ι1, C1, ⟨g0, g1⟩, g2, g3⟩ := freezeL_sound (s := s) cs cs' aa.toList M M1 ι C h1 (by simpa using hl0) (fun j p q => by simpa using hr0 j p (by simpa using q)) hm
              obtain ⟨ι2, C2, q1, q2, q3⟩ := freeze1_sound h2 (h01.mono g3.dom g3.fro) g2 s
              refine ⟨ι2, C2, .tup _ _ (by simpa using hl) (fun j p q => ?_), q2, g3.trans q3⟩
              match j, p with
              | 0, _ =>
                simp only [List.getElem_cons_zero, hq0]
                exact .agg _ _ (by simpa using g0) (fun j p q => by have := (g1 j p (by simpa using q)).mono q3.dom q3.fro; rwa [Array.getElem_toList] at this)
              | 1, _ => exact q1
          · cases h
        · cases h
      · simp only [Option.map_eq_some_iff] at h
        obtain ⟨⟨cs', M1⟩, h1, h2⟩ := h
        simp only [Prod.mk.injEq] at h2
        obtain ⟨rfl, rfl⟩ := h2
        obtain ⟨ι', C', ⟨g0, g1⟩, g2, g3⟩ := freezeL_sound (s := s) vs cs' a.toList M M1 ι C h1 (by simpa using hl) (fun j p q => by simpa using hr j p (by simpa using q)) hm
        exact ⟨ι', C', .tup _ _ (by simpa using g0) (fun j p q => by have := g1 j p (by simpa using q); rwa [Array.getElem_toList] at this), g2, g3⟩
  · exact freeze1_sound h hv hm s

theorem leave_sound {qlv : Lv} {frz : Bool} {M M1 M' : Mem} {v v' : V} {ι C w ι1 C1 w1 c} {s : Id} (h : leave qlv frz M v M1 = some (v', M')) (hv : VR ι1 C1 v c) (hm : MR ι1 C1 M1 w1) (hs : Stp s ι C M w ι1 C1 M1 w1) :
    ∃ ι' C', VR ι' C' v' c ∧ MR ι' C' M' w1 ∧ Stp s ι C M w ι' C' M' w1 := by
  unfold leave at h
  split at h
  · rename_i v2 M2 h2
    have key : ∃ ι' C', VR ι' C' v2 c ∧ MR ι' C' M2 w1 ∧ Stp s ι C M w ι' C' M2 w1 := by
      cases frz with
      | true =>
        obtain ⟨ι', C', g1, g2, g3⟩ := freezeV_sound (by simpa using h2) hv hm s
        exact ⟨ι', C', g1, g2, hs.trans g3⟩
      | false =>
        simp only [Bool.false_eq_true, if_false, Option.some.injEq, Prod.mk.injEq] at h2
        obtain ⟨rfl, rfl⟩ := h2
        exact ⟨ι1, C1, hv, hm, hs⟩
    obtain ⟨ι', C', g1, g2, g3⟩ := key
    cases qlv with
    | quiet =>
      dsimp only at h
      split at h
      · rename_i hq
        simp only [Option.some.injEq, Prod.mk.injEq] at h
        obtain ⟨rfl, rfl⟩ := h
        exact ⟨ι', C', g1, g2.less (fun i o _ e => hq i o e), { g3 with nores := fun _ _ h => h }⟩
      · cases h
    | adds =>
      dsimp only at h
      split at h
      · rename_i hq
        cases frz with
        | true =>
          simp only [if_true, Option.some.injEq, Prod.mk.injEq] at h
          obtain ⟨rfl, rfl⟩ := h
          exact ⟨ι', C', g1, g2.less (fun i o _ e => hq i o e), { g3 with nores := fun _ _ h => h }⟩
        | false =>
          simp only [Bool.false_eq_true, if_false, Option.some.injEq, Prod.mk.injEq] at h
          obtain ⟨rfl, rfl⟩ := h
          exact ⟨ι', C', g1, g2, g3⟩
      · cases h
    | free =>
      simp only [Option.some.injEq, Prod.mk.injEq] at h
      obtain ⟨rfl, rfl⟩ := h
      exact ⟨ι', C', g1, g2, g3⟩
  · cases h

def resF (t : Array Value) : ResultVar → Sem Value
  | .tmp k => pure (t.getD k undef)
  | .cell a k => do loadVar k (← asAddr (t.getD a undef))

theorem results_eq (fn : Func) (t : Array Value) : results fn t = (do let vs ← fn.results.mapM (resF t); pure (if h : vs.size = 1 then vs[0] else .tuple vs)) := by
  unfold results
  congr 1

theorem resultsV_sound {P : Program} {fn : Func} {f : Tm} {t : Array Value} {M : Mem} {v : V} {ι C w} (h : resultsV P fn f M = some v) (ht : TR ι C f t) (hm : MR ι C M w) :
    ∃ c, (results fn t).run P w = .ok c w ∧ VR ι C v c := by
  unfold resultsV at h
  have key : ∀ (l : List ResultVar) (vs : List V), l.mapM (fun r => match r with | .tmp t => some (f t) | .cell a t => loadV P t M (f a)) = some vs →
      ∃ cs : List Value, (l.mapM (resF t)).run P w = .ok cs w ∧ vs.length = cs.length ∧ ∀ j (p : j < vs.length) (q : j < cs.length), VR ι C vs[j] cs[j] := by
    intro l
    induction l with
    | nil => intro vs h; simp at h; subst h; exact ⟨[], by simp, rfl, fun j p _ => absurd p (by simp)⟩
    | cons r l ih =>
      intro vs h
      simp only [List.mapM_cons, bind, Option.bind_eq_some_iff, pure, Option.some.injEq] at h
      obtain ⟨v0, h0, vs', h1, rfl⟩ := h
      obtain ⟨cs, g1, g2, g3⟩ := ih vs' h1
      have hc : ∃ c, (resF t r).run P w = .ok c w ∧ VR ι C v0 c := by
        cases r with
        | tmp k => simp only [Option.some.injEq] at h0; subst h0; exact ⟨_, rfl, ht k⟩
        | cell a k =>
          simp only at h0
          obtain ⟨c, q1, q2⟩ := loadV_sound h0 (ht a) hm
          refine ⟨c, ?_, q2⟩
          rw [← q1]
          have hp : ∃ p, t.getD a undef = .pointer (some p) := by
            have := ht a
            generalize t.getD a undef = q at this
            generalize f a = fa at this h0
            cases this <;> simp [loadV] at h0 <;> exact ⟨_, rfl⟩
          obtain ⟨p, hp⟩ := hp
          simp [hp, Instr.loadAt, Instr.sureAddr, asAddr, resF]
      obtain ⟨c, q1, q2⟩ := hc
      refine ⟨c :: cs, ?_, by simp [g2], fun j p q => ?_⟩
      · simp only [List.mapM_cons, Sem.run_bind, q1, Result.andThen_ok, g1, Sem.run_pure]
      · cases j with
        | zero => exact q2
        | succ j => simpa using g3 j (by simpa using p) (by simpa using q)
  split at h
  · rename_i v0 h0
    simp only [Option.some.injEq] at h; subst h
    obtain ⟨cs, g1, g2, g3⟩ := key _ _ h0
    match cs, g2 with
    | [c], _ =>
      refine ⟨c, ?_, g3 0 (by simp) (by simp)⟩
      rw [results_eq, Sem.run_bind, Array.mapM_eq_mapM_toList, Sem.run_map, g1]
      simp
  · rename_i vs hne h0
    simp only [Option.some.injEq] at h; subst h
    obtain ⟨cs, g1, g2, g3⟩ := key _ _ h0
    refine ⟨.tuple cs.toArray, ?_, .tup _ _ (by simpa using g2) (fun j p q => by simpa using g3 j p (by simpa using q))⟩
    rw [results_eq, Sem.run_bind, Array.mapM_eq_mapM_toList, Sem.run_map, g1]
    have : cs.length ≠ 1 := by
      intro e
      rw [← g2] at e
      match vs, e with
      | [v], _ => exact hne v rfl
    simp [this]
  · cases h
end Go.Ab

/- What is fresh; which operations leave the memory alone; the order of a region's operations. Conditions: none. -/
namespace Go.Ab

def Fresh (s : Id) (ι : Inj) : Prop := ∀ i, s <:+ i → ι i = none
def FreshM (s : Id) (M : Mem) : Prop := ∀ i, s <:+ i → M i = none

theorem suffix_cons_eq {j k : Nat} {s i : Id} (h1 : (j :: s) <:+ i) (h2 : (k :: s) <:+ i) : j = k := by
  have := List.suffix_of_suffix_length_le h1 h2 (by simp)
  have := this.eq_of_length (by simp)
  simpa using this

theorem suffix_tail {j : Nat} {s i : Id} (h : (j :: s) <:+ i) : s <:+ i := (List.suffix_cons j s).trans h

theorem Fresh.tail {s : Id} {ι : Inj} (h : Fresh s ι) (j : Nat) : Fresh (j :: s) ι := fun i hi => h i (suffix_tail hi)
theorem FreshM.tail {s : Id} {M : Mem} (h : FreshM s M) (j : Nat) : FreshM (j :: s) M := fun i hi => h i (suffix_tail hi)

/-- behind a step under one number another number is fresh still -/
theorem Fresh.next {s : Id} {j k : Nat} {ι C M w ι' C' M' w'} (h : Fresh (k :: s) ι) (hs : Stp (j :: s) ι C M w ι' C' M' w') (hjk : j ≠ k) : Fresh (k :: s) ι' := by
  intro i hi
  cases hq : ι' i with
  | none => rfl
  | some pl => exact absurd (suffix_cons_eq (hs.new i (h i hi) (by rw [hq]; simp)) hi) hjk

/-- the ids of a memory: those of another one, and such as lie under a number -/
def Ids (s : Id) (M M' : Mem) : Prop := ∀ i, M' i ≠ none → M i ≠ none ∨ s <:+ i

theorem Ids.refl (s : Id) (M : Mem) : Ids s M M := fun _ h => .inl h
theorem Ids.trans {s : Id} {M M' M'' : Mem} (h : Ids s M M') (k : Ids s M' M'') : Ids s M M'' := by
  intro i hi
  rcases k i hi with h1 | h1
  · exact h i h1
  · exact .inr h1
theorem Ids.weaken {s t : Id} {M M' : Mem} (h : Ids s M M') (hs : t <:+ s) : Ids t M M' := fun i hi => (h i hi).imp id (fun q => hs.trans q)
theorem Ids.set_new (s : Id) (M : Mem) (o : AObj) : Ids s M (M.set s o) := by
  intro i hi
  unfold Mem.set at hi
  split at hi
  · subst i; exact .inr (List.suffix_refl _)
  · exact .inl hi
theorem Ids.set_old {s : Id} {M : Mem} {j : Id} (h : M j ≠ none) (o : AObj) : Ids s M (M.set j o) := by
  intro i hi
  unfold Mem.set at hi
  split at hi
  · subst i; exact .inl h
  · exact .inl hi
theorem Ids.del (s : Id) (M : Mem) (j : Id) : Ids s M (M.del j) := by
  intro i hi
  unfold Mem.del at hi
  split at hi
  · exact absurd rfl hi
  · exact .inl hi
theorem FreshM.next {s : Id} {j k : Nat} {M M' : Mem} (h : FreshM (k :: s) M) (hs : Ids (j :: s) M M') (hjk : j ≠ k) : FreshM (k :: s) M' := by
  intro i hi
  cases hq : M' i with
  | none => rfl
  | some o =>
    rcases hs i (by rw [hq]; simp) with h1 | h1
    · exact absurd (h i hi) h1
    · exact absurd (suffix_cons_eq h1 hi) hjk

theorem storeV_ids {P : Program} {t : TypeId} {M M' : Mem} {a v : V} {s : Id} (h : storeV P t M a v = some M') : Ids s M M' := by
  unfold storeV at h
  split at h
  · split at h
    · rename_i hM _
      split at h
      · simp only [Option.some.injEq] at h; subst h; exact .set_old (by rw [hM]; simp) _
      · cases h
    · cases h
  · cases h

theorem mapUpdateV_ids {P : Program} {t : TypeId} {M M' : Mem} {a k v : V} {s : Id} (h : mapUpdateV P t M a k v = some M') : Ids s M M' := by
  unfold mapUpdateV at h
  split at h
  · split at h
    · rename_i hM
      split at h
      · split at h
        · simp only [Option.some.injEq] at h; subst h; exact .set_old (by rw [hM]; simp) _
        · simp only [Option.some.injEq] at h; subst h; exact .set_old (by rw [hM]; simp) _
        · cases h
      · cases h
    · cases h
  · cases h

theorem joinV_ids {e : El} {s : V} {n : Nat} {new : List V} {i : Id} {M M' : Mem} {v : V} (h : joinV e s n new i M = some (v, M')) : Ids i M M' := by
  unfold joinV at h
  split at h
  · split at h
    · simp only [Option.some.injEq, Prod.mk.injEq] at h; obtain ⟨_, rfl⟩ := h; exact .refl _ _
    · split at h
      · simp only [Option.some.injEq, Prod.mk.injEq] at h; obtain ⟨_, rfl⟩ := h; exact .set_new _ _ _
      · cases h
  · split at h
    · split at h
      · simp only [Option.some.injEq, Prod.mk.injEq] at h; obtain ⟨_, rfl⟩ := h; exact .refl _ _
      · split at h
        · simp only [Option.some.injEq, Prod.mk.injEq] at h; obtain ⟨_, rfl⟩ := h; exact .set_new _ _ _
        · cases h
    · cases h
  · split at h
    · rename_i hM
      split at h
      · split at h
        · split at h
          · split at h
            · simp only [Option.some.injEq, Prod.mk.injEq] at h; obtain ⟨_, rfl⟩ := h; exact .set_old (by rw [hM]; simp) _
            · cases h
          · simp only [Option.some.injEq, Prod.mk.injEq] at h; obtain ⟨_, rfl⟩ := h; exact .set_new _ _ _
        · split at h
          · simp only [Option.some.injEq, Prod.mk.injEq] at h; obtain ⟨_, rfl⟩ := h; exact (Ids.del _ _ _).trans (.set_new _ _ _)
          · split at h
            · simp only [Option.some.injEq, Prod.mk.injEq] at h; obtain ⟨_, rfl⟩ := h; exact .set_old (by rw [hM]; simp) _
            · cases h
      · cases h
    · cases h
  · cases h

theorem builtinV_ids {P : Program} {b : Builtin} {ts : Array TypeId} {args : List V} {i : Id} {M M' : Mem} {v : V} (h : builtinV P b ts args i M = some (v, M')) : Ids i M M' := by
  unfold builtinV at h
  split at h
  · simp only [Option.map_eq_some_iff, Prod.mk.injEq] at h; obtain ⟨_, _, _, rfl⟩ := h; exact .refl _ _
  · split at h
    · cases h
    · cases h
    · unfold appendV at h
      split at h
      · split at h
        · split at h
          · exact joinV_ids h
          · cases h
        · cases h
      · cases h
  · simp only [Option.map_eq_some_iff, Prod.mk.injEq] at h; obtain ⟨_, _, _, rfl⟩ := h; exact .refl _ _
  · simp only [Option.map_eq_some_iff, Prod.mk.injEq] at h; obtain ⟨_, _, _, rfl⟩ := h; exact .refl _ _
  · split at h
    · rename_i hM
      simp only [Option.some.injEq, Prod.mk.injEq] at h; obtain ⟨_, rfl⟩ := h; exact .set_old (by rw [hM]; simp) _
    · cases h
  · split at h
    · simp only [Option.some.injEq, Prod.mk.injEq] at h; obtain ⟨_, rfl⟩ := h; exact .refl _ _
    · cases h
  · unfold clearSV at h
    split at h
    · rename_i hM
      split at h
      · simp only [Option.some.injEq, Prod.mk.injEq] at h; obtain ⟨_, rfl⟩ := h; exact .set_old (by rw [hM]; simp) _
      · cases h
    · cases h
  · cases h

theorem opV_ids {P : Program} {o : Op} {ρ : Operand → V} {i : Id} {M M' : Mem} {v : V} (h : opV P o ρ i M = some (v, M')) : Ids i M M' := by
  unfold opV at h
  split at h <;> first
    | (simp only [Option.some.injEq, Prod.mk.injEq] at h; obtain ⟨_, rfl⟩ := h; first | exact .refl _ _ | exact .set_new _ _ _)
    | (simp only [Option.map_eq_some_iff, Prod.mk.injEq] at h; obtain ⟨_, h1, _, rfl⟩ := h; first | exact .refl _ _ | exact storeV_ids h1 | exact mapUpdateV_ids h1)
    | exact builtinV_ids h
    | (cases h; done)
    | (unfold buildSliceV at h
       split at h
       · split at h
         · simp only [Option.map_eq_some_iff, Prod.mk.injEq] at h; obtain ⟨_, _, _, rfl⟩ := h; exact .set_new _ _ _
         · cases h
       · cases h)
    | (split at h <;> first
        | (cases h; done)
        | (simp only [Option.some.injEq, Prod.mk.injEq] at h; obtain ⟨_, rfl⟩ := h; first | exact .refl _ _ | exact .set_new _ _ _)
        | (simp only [Option.map_eq_some_iff, Prod.mk.injEq] at h; obtain ⟨_, _, _, rfl⟩ := h; exact .refl _ _)
        | (split at h <;> first
            | (cases h; done)
            | (simp only [Option.some.injEq, Prod.mk.injEq] at h; obtain ⟨_, rfl⟩ := h; first | exact .refl _ _ | exact .set_new _ _ _)))

theorem freeze1_ids {M M' : Mem} {v v' : V} {s : Id} (h : freeze1 M v = some (v', M')) : Ids s M M' := by
  unfold freeze1 at h
  split at h
  · split at h
    · split at h
      · simp only [Option.some.injEq, Prod.mk.injEq] at h; obtain ⟨_, rfl⟩ := h; exact .del _ _ _
      · cases h
    · cases h
  · simp only [Option.some.injEq, Prod.mk.injEq] at h; obtain ⟨_, rfl⟩ := h; exact .refl _ _
  · simp only [Option.some.injEq, Prod.mk.injEq] at h; obtain ⟨_, rfl⟩ := h; exact .refl _ _

theorem freezeL_ids {s : Id} : ∀ {l l' : List V} {M M' : Mem}, freezeL M l = some (l', M') → Ids s M M'
  | [], l', M, M', h => by simp only [freezeL, Option.some.injEq, Prod.mk.injEq] at h; obtain ⟨_, rfl⟩ := h; exact .refl _ _
  | v :: l, l', M, M', h => by
    simp only [freezeL] at h
    split at h
    · rename_i h1
      split at h
      · rename_i h2
        simp only [Option.some.injEq, Prod.mk.injEq] at h; obtain ⟨_, rfl⟩ := h
        exact (freeze1_ids h1).trans (freezeL_ids h2)
      · cases h
    · cases h

theorem leave_ids {qlv : Lv} {frz : Bool} {M M1 M' : Mem} {v v' : V} {s : Id} (h : leave qlv frz M v M1 = some (v', M')) (h1 : Ids s M M1) : Ids s M M' := by
  unfold leave at h
  split at h
  · rename_i v2 M2 h2
    have hM : M' = M ∨ M' = M2 := by
      cases qlv with
      | quiet =>
        dsimp only at h
        split at h
        · simp only [Option.some.injEq, Prod.mk.injEq] at h; exact .inl h.2.symm
        · cases h
      | adds =>
        dsimp only at h
        split at h
        · cases frz with
          | true => simp only [if_true, Option.some.injEq, Prod.mk.injEq] at h; exact .inl h.2.symm
          | false => simp only [Bool.false_eq_true, if_false, Option.some.injEq, Prod.mk.injEq] at h; exact .inr h.2.symm
        · cases h
      | free => simp only [Option.some.injEq, Prod.mk.injEq] at h; exact .inr h.2.symm
    rcases hM with rfl | rfl
    · exact .refl _ _
    · refine h1.trans ?_
      clear h
      cases frz with
      | false => simp only [Bool.false_eq_true, if_false, Option.some.injEq, Prod.mk.injEq] at h2; obtain ⟨_, rfl⟩ := h2; exact .refl _ _
      | true =>
        simp only [if_true] at h2
        unfold freezeV at h2
        split at h2
        · simp only [Option.map_eq_some_iff, Prod.mk.injEq] at h2; obtain ⟨⟨_, _⟩, h3, _, rfl⟩ := h2; exact freezeL_ids h3
        · split at h2
          · split at h2
            · rename_i h3
              split at h2
              · rename_i h4
                simp only [Option.some.injEq, Prod.mk.injEq] at h2; obtain ⟨_, rfl⟩ := h2
                exact (freezeL_ids h3).trans (freeze1_ids h4)
              · cases h2
            · cases h2
          · simp only [Option.map_eq_some_iff, Prod.mk.injEq] at h2; obtain ⟨⟨_, _⟩, h3, _, rfl⟩ := h2; exact freezeL_ids h3
        · exact freeze1_ids h2
  · cases h

/-- what is asked of what stands in for a function -/
structure PrimOk (E : Env) : Prop where
  ids : ∀ f p args s M v M', E.prim f = some p → p args s M = some (v, M') → Ids s M M'
  cids : ∀ cur c p f s M f' M', E.cprim cur c = some p → p f s M = some (f', M') → Ids s M M'
  quiet : ∀ f p args s M v M', E.prim f = some p → E.lv f = .quiet → p args s M = some (v, M') → M' = M
  adds : ∀ f p args s M v M', E.prim f = some p → E.lv f = .adds → p args s M = some (v, M') → ∀ i o, M i = some o → M' i = some o
  sound : ∀ f p args s M v M' ι C w cargs, E.prim f = some p → p args s M = some (v, M') → LR ι C args cargs → MR ι C M w → Fresh s ι → FreshM s M →
    Calls E.P f cargs w fun e w' => ∃ c ι' C', e = .returned c ∧ VR ι' C' v c ∧ MR ι' C' M' w' ∧ Stp s ι C M w ι' C' M' w'

structure AllIds (E : Env) (n : Nat) : Prop where
  fn : ∀ frz f args s M v M', fnN E n frz f args s M = some (v, M') → Ids s M M'
  code : ∀ cur c s f M ex f' M', codeN E n cur c s f M = some (ex, f', M') → Ids s M M'
  loop : ∀ cur a j s f M ex f' M', loopN E n cur a j s f M = some (ex, f', M') → Ids s M M'
  ops : ∀ cur all l k s f M f' M', opsN E n cur all l k s f M = some (f', M') → Ids s M M'
  op : ∀ cur o s f M v M', opN E n cur o s f M = some (v, M') → Ids s M M'

theorem allIds (E : Env) (hp : PrimOk E) : ∀ n, AllIds E n
  | 0 => ⟨fun _ _ _ _ _ _ _ h => by simp [fnN] at h, fun _ _ _ _ _ _ _ _ h => by simp [codeN] at h, fun _ _ _ _ _ _ _ _ _ h => by simp [loopN] at h, fun _ _ _ _ _ _ _ _ _ h => by simp [opsN] at h, fun _ _ _ _ _ _ _ h => by simp [opN] at h⟩
  | n + 1 => by
    have ih := allIds E hp n
    refine ⟨?_, ?_, ?_, ?_, ?_⟩
    · intro frz f args s M v M' h
      simp only [fnN] at h
      split at h
      · split at h
        · rename_i p hpr; exact hp.ids _ _ _ _ _ _ _ hpr h
        · split at h
          · cases h
          · rename_i h1
            split at h
            · exact leave_ids h ((ih.code _ _ _ _ _ _ _ _ h1).weaken (List.suffix_cons _ _))
            · cases h
          · cases h
      · cases h
    · intro cur c s f M ex f' M' h
      cases c <;> simp only [codeN] at h
      case skip => simp only [Option.some.injEq, Prod.mk.injEq] at h; obtain ⟨_, _, rfl⟩ := h; exact .refl _ _
      case ret => simp only [Option.some.injEq, Prod.mk.injEq] at h; obtain ⟨_, _, rfl⟩ := h; exact .refl _ _
      case exit => simp only [Option.some.injEq, Prod.mk.injEq] at h; obtain ⟨_, _, rfl⟩ := h; exact .refl _ _
      case seq a b =>
        split at h
        · rename_i p hcp
          split at h
          · rename_i hp1
            simp only [Option.some.injEq, Prod.mk.injEq] at h; obtain ⟨_, _, rfl⟩ := h
            exact hp.cids _ _ _ _ _ _ _ _ hcp hp1
          · cases h
        split at h
        · rename_i h1
          exact ((ih.code _ _ _ _ _ _ _ _ h1).weaken (List.suffix_cons _ _)).trans ((ih.code _ _ _ _ _ _ _ _ h).weaken (List.suffix_cons _ _))
        · exact (ih.code _ _ _ _ _ _ _ _ h).weaken (List.suffix_cons _ _)
      case cond x a b =>
        split at h
        · split at h
          · exact (ih.code _ _ _ _ _ _ _ _ h).weaken (List.suffix_cons _ _)
          · exact (ih.code _ _ _ _ _ _ _ _ h).weaken (List.suffix_cons _ _)
        · cases h
      case block id a =>
        split at h
        · rename_i h1
          split at h <;> (simp only [Option.some.injEq, Prod.mk.injEq] at h; obtain ⟨_, _, rfl⟩ := h; exact (ih.code _ _ _ _ _ _ _ _ h1).weaken (List.suffix_cons _ _))
        · exact (ih.code _ _ _ _ _ _ _ _ h).weaken (List.suffix_cons _ _)
      case loop a => exact ih.loop _ _ _ _ _ _ _ _ _ h
      case region id ops d =>
        split at h
        · rename_i h1
          split at h
          · simp only [Option.some.injEq, Prod.mk.injEq] at h; obtain ⟨_, _, rfl⟩ := h
            exact ih.ops _ _ _ _ _ _ _ _ _ h1
          · cases h
        · cases h
      all_goals (simp at h; done)
    · intro cur a j s f M ex f' M' h
      simp only [loopN] at h
      split at h
      · rename_i h1
        exact ((ih.code _ _ _ _ _ _ _ _ h1).weaken (List.suffix_cons _ _)).trans (ih.loop _ _ _ _ _ _ _ _ _ h)
      · exact (ih.code _ _ _ _ _ _ _ _ h).weaken (List.suffix_cons _ _)
    · intro cur all l k s f M f' M' h
      simp only [opsN] at h
      split at h
      · simp only [Option.some.injEq, Prod.mk.injEq] at h; obtain ⟨_, rfl⟩ := h; exact .refl _ _
      · split at h
        · exact ih.ops _ _ _ _ _ _ _ _ _ h
        · split at h
          · rename_i h1
            exact ((ih.op _ _ _ _ _ _ _ h1).weaken (List.suffix_cons _ _)).trans (ih.ops _ _ _ _ _ _ _ _ _ h)
          · cases h
        · cases h
    · intro cur o s f M v M' h
      simp only [opN] at h
      split at h
      · split at h
        · split at h
          · exact ih.fn _ _ _ _ _ _ _ h
          · cases h
        · exact opV_ids h
      · exact opV_ids h
end Go.Ab

/- A region whose order is drawn: what is asked of it, and what is known of its operations. Conditions: none. -/
namespace Go.Ab

/-- 0: the memory is not looked at; 1: it is read; 2: a new object is made; 3: it is read, and new objects made; 4: it may be written -/
def cls (E : Env) : Op → Nat
  | .move _ | .assign _ | .pick .. | .build .. | .nilCheck _ | .binOp .. | .unOp .. | .makeInterface .. | .makeFunc .. | .slice .. | .fieldAddr .. | .field .. | .indexAddr .. | .index .. | .extract .. => 0
  | .load .. | .lookup .. | .convert .. => 1
  | .alloc _ | .box .. | .buildSlice .. | .makeMap _ none => 2
  | .call { callee := .builtin .min, .. } | .call { callee := .builtin .max, .. } => 0
  | .call { callee := .builtin .len, .. } => 1
  | .call { callee := .value (.func g), .. } => match E.lv g with | .quiet => 1 | .adds => 3 | .free => 4
  | _ => 4

theorem leave_quiet {frz : Bool} {M M1 M' : Mem} {v v' : V} (h : leave .quiet frz M v M1 = some (v', M')) : M' = M := by
  unfold leave at h
  split at h
  · dsimp only at h
    split at h
    · simp only [Option.some.injEq, Prod.mk.injEq] at h; exact h.2.symm
    · cases h
  · cases h

theorem leave_adds {frz : Bool} {M M1 M' : Mem} {v v' : V} (h : leave .adds frz M v M1 = some (v', M')) : ∀ i o, M i = some o → M' i = some o := by
  unfold leave at h
  split at h
  · dsimp only at h
    split at h
    · rename_i hq
      cases frz with
      | true => simp only [if_true, Option.some.injEq, Prod.mk.injEq] at h; obtain ⟨_, rfl⟩ := h; exact fun _ _ e => e
      | false => simp only [Bool.false_eq_true, if_false, Option.some.injEq, Prod.mk.injEq] at h; obtain ⟨_, rfl⟩ := h; exact hq
    · cases h
  · cases h

theorem fn_adds {E : Env} (hp : PrimOk E) {n : Nat} {frz : Bool} {g : FuncId} {args : List V} {s : Id} {M M' : Mem} {v : V} (hq : E.lv g = .adds) (h : fnN E n frz g args s M = some (v, M')) : ∀ i o, M i = some o → M' i = some o := by
  cases n with
  | zero => simp [fnN] at h
  | succ n =>
    simp only [fnN] at h
    split at h
    · split at h
      · rename_i p hpr; exact hp.adds _ _ _ _ _ _ _ hpr hq h
      · split at h
        · cases h
        · split at h
          · rw [hq] at h; exact leave_adds h
          · cases h
        · cases h
    · cases h

theorem fn_quiet {E : Env} (hp : PrimOk E) {n : Nat} {frz : Bool} {g : FuncId} {args : List V} {s : Id} {M M' : Mem} {v : V} (hq : E.lv g = .quiet) (h : fnN E n frz g args s M = some (v, M')) : M' = M := by
  cases n with
  | zero => simp [fnN] at h
  | succ n =>
    simp only [fnN] at h
    split at h
    · split at h
      · rename_i p hpr; exact hp.quiet _ _ _ _ _ _ _ hpr hq h
      · split at h
        · cases h
        · split at h
          · rw [hq] at h; exact leave_quiet h
          · cases h
        · cases h
    · cases h

theorem opV_pure {E : Env} {op : Op} (hc : cls E op = 0) (ρ : Operand → V) (i : Id) : ∃ X : Option V, ∀ M, opV E.P op ρ i M = X.map fun v => (v, M) := by
  cases op <;> simp only [cls] at hc <;> try (simp at hc; done)
  case call c =>
    obtain ⟨ce, as, ts⟩ := c
    cases ce with
    | builtin b =>
      cases b <;> simp at hc
      case min => exact ⟨minV (as.toList.map ρ), fun M => by simp only [opV, builtinV]⟩
      case max => exact ⟨maxV (as.toList.map ρ), fun M => by simp only [opV, builtinV]⟩
    | value x => cases x <;> simp at hc; split at hc <;> simp at hc
    | invoke => simp at hc
  case makeMap t r => cases r <;> simp at hc
  case move x => exact ⟨some (ρ x), fun M => rfl⟩
  case assign x => exact ⟨some (ρ x), fun M => rfl⟩
  case pick c a b => exact ⟨match ρ c with | .bool t => some (if t then ρ a else ρ b) | _ => none, fun M => by simp only [opV]; generalize ρ c = q; cases q <;> rfl⟩
  case makeInterface t x => exact ⟨match kd E.P t with | some .iface | none => none | _ => some (.iface t (ρ x)), fun M => by
    simp only [opV]; generalize kd E.P t = q
    cases q with
    | none => rfl
    | some k => cases k <;> rfl⟩
  case makeFunc f a b => exact ⟨some (.fn f (a.toList.map ρ) (b.toList.map ρ)), fun M => rfl⟩
  case slice t x lo hi mx =>
    exact ⟨match optB ρ lo, optB ρ hi, optB ρ mx with | some l, some h, some m => sliceV E.P t (ρ x) l h m | _, _, _ => none, fun M => by
      simp only [opV]; generalize optB ρ lo = q1; generalize optB ρ hi = q2; generalize optB ρ mx = q3; cases q1 <;> cases q2 <;> cases q3 <;> rfl⟩
  case extract t n => exact ⟨match ρ t with | .tup vs => vs[n]? | _ => none, fun M => by simp only [opV]; generalize ρ t = q; cases q <;> rfl⟩
  all_goals exact ⟨_, fun M => rfl⟩

theorem opN_opV {E : Env} {n : Nat} {cur : FuncId} {o : Oper} {s : Id} {f : Tm} {M : Mem} (hc : ∀ c x, o.op = .call c → c.callee ≠ .value x) : opN E (n + 1) cur o s f M = opV E.P o.op (ev f) s M := by
  simp only [opN]
  split
  · rename_i c h
    split
    · rename_i x h2; exact absurd h2 (hc c x h)
    · rfl
  · rfl

theorem cls_nocall {E : Env} {op : Op} (h : cls E op = 0 ∨ cls E op = 2) : ∀ c x, op = .call c → c.callee ≠ .value x := by
  rintro c x rfl hx
  obtain ⟨ce, as, ts⟩ := c
  simp only at hx; subst hx
  cases x <;> simp [cls] at h
  split at h <;> simp at h

theorem cls0 {E : Env} {n : Nat} {cur : FuncId} {o : Oper} {s : Id} {f : Tm} {M M' : Mem} {v : V} (hc : cls E o.op = 0) (h : opN E n cur o s f M = some (v, M')) :
    M' = M ∧ ∀ M2, opN E n cur o s f M2 = some (v, M2) := by
  cases n with
  | zero => simp [opN] at h
  | succ n =>
    have hnc := cls_nocall (.inl hc)
    obtain ⟨X, hX⟩ := opV_pure hc (ev f) s
    rw [opN_opV hnc, hX] at h
    simp only [Option.map_eq_some_iff, Prod.mk.injEq] at h
    obtain ⟨a, h1, rfl, rfl⟩ := h
    exact ⟨rfl, fun M2 => by rw [opN_opV hnc, hX, h1]; rfl⟩

theorem cls1 {E : Env} (hp : PrimOk E) {n : Nat} {cur : FuncId} {o : Oper} {s : Id} {f : Tm} {M M' : Mem} {v : V} (hc : cls E o.op = 1) (h : opN E n cur o s f M = some (v, M')) : M' = M := by
  cases n with
  | zero => simp [opN] at h
  | succ n =>
    obtain ⟨dst, op, typ, pos, aft, grd⟩ := o
    simp only at hc
    simp only [opN] at h
    cases op <;> simp only [cls] at hc <;> try (simp at hc; done)
    case load => simp only [opV, Option.map_eq_some_iff, Prod.mk.injEq] at h; obtain ⟨a, h1, rfl, rfl⟩ := h; rfl
    case lookup => simp only [opV, Option.map_eq_some_iff, Prod.mk.injEq] at h; obtain ⟨a, h1, rfl, rfl⟩ := h; rfl
    case convert => simp only [opV, Option.map_eq_some_iff, Prod.mk.injEq] at h; obtain ⟨a, h1, rfl, rfl⟩ := h; rfl
    case makeMap t r => cases r <;> simp at hc
    case call c =>
      obtain ⟨ce, as, ts⟩ := c
      cases ce with
      | builtin b =>
        simp only [opV, builtinV] at h
        cases b <;> simp at hc <;> (split at h <;> first
          | (simp only [Option.map_eq_some_iff, Prod.mk.injEq] at h; obtain ⟨_, _, _, rfl⟩ := h; rfl)
          | (simp_all; done))
      | value x =>
        cases x <;> simp at hc
        rename_i g
        simp only [callOf, ev] at h
        have hq : E.lv g = .quiet := by
          cases hq : E.lv g with
          | quiet => rfl
          | adds => simp [hq] at hc
          | free => simp [hq] at hc
        exact fn_quiet hp hq h
      | invoke => simp at hc

/-- what makes an object does so whatever the memory is -/
theorem cls2 {E : Env} {n : Nat} {cur : FuncId} {o : Oper} {s : Id} {f : Tm} {M M' : Mem} {v : V} (hc : cls E o.op = 2) (h : opN E n cur o s f M = some (v, M')) :
    ∃ ob, ∀ M2, opN E n cur o s f M2 = some (v, M2.set s ob) := by
  cases n with
  | zero => simp [opN] at h
  | succ n =>
    have hnc := cls_nocall (.inr hc)
    rw [opN_opV hnc] at h
    simp only [opN_opV hnc]
    obtain ⟨dst, op, typ, pos, aft, grd⟩ := o
    simp only at hc h ⊢
    cases op <;> simp only [cls] at hc <;> try (simp at hc; done)
    case call c =>
      exfalso
      obtain ⟨ce, as, ts⟩ := c
      cases ce with
      | builtin b => cases b <;> simp at hc
      | value x => exact hnc _ _ rfl rfl
      | invoke => simp at hc
    case alloc =>
      simp only [opV] at h ⊢
      split at h
      · split at h
        · rename_i hq; simp only [Option.some.injEq, Prod.mk.injEq] at h; obtain ⟨rfl, rfl⟩ := h; exact ⟨_, fun M2 => by simp only [hq, if_true]; rfl⟩
        · cases h
      · cases h
    case box =>
      simp only [opV] at h ⊢
      split at h
      · rename_i hq; simp only [Option.some.injEq, Prod.mk.injEq] at h; obtain ⟨rfl, rfl⟩ := h; exact ⟨_, fun M2 => by simp only [hq, if_true]; rfl⟩
      · cases h
    case buildSlice =>
      simp only [opV, buildSliceV] at h ⊢
      split at h
      · split at h
        · rename_i hle; simp only [Option.map_eq_some_iff, Prod.mk.injEq] at h; obtain ⟨_, h1, rfl, rfl⟩ := h; exact ⟨_, fun M2 => by simp only [h1, Option.map_some, if_pos hle]; rfl⟩
        · cases h
      · cases h
    case makeMap t r =>
      cases r with
      | none => simp only [opV, Option.some.injEq, Prod.mk.injEq] at h ⊢; obtain ⟨rfl, rfl⟩ := h; exact ⟨_, fun M2 => ⟨rfl, rfl⟩⟩
      | some r => simp at hc

/-- what no operation but one that writes does to the memory -/
theorem cls3 {E : Env} (hp : PrimOk E) {n : Nat} {cur : FuncId} {o : Oper} {s : Id} {f : Tm} {M M' : Mem} {v : V} (hc : cls E o.op ≤ 3) (h : opN E n cur o s f M = some (v, M')) :
    (∀ id, M' id = M id ∨ (2 ≤ cls E o.op ∧ s <:+ id ∧ (cls E o.op = 2 → id = s))) ∧ (FreshM s M → ∀ id ob, M id = some ob → M' id = some ob) := by
  have h4 : cls E o.op = 0 ∨ cls E o.op = 1 ∨ cls E o.op = 2 ∨ cls E o.op = 3 := by omega
  rcases h4 with h0 | h1 | h2 | h3
  · rw [(cls0 h0 h).1]; exact ⟨fun _ => .inl rfl, fun _ _ _ e => e⟩
  · rw [cls1 hp h1 h]; exact ⟨fun _ => .inl rfl, fun _ _ _ e => e⟩
  · obtain ⟨ob, ho⟩ := cls2 h2 h
    rw [ho M] at h
    simp only [Option.some.injEq, Prod.mk.injEq, true_and] at h
    subst h
    refine ⟨fun id => ?_, fun hf id ob' e => ?_⟩
    · by_cases hq : id = s
      · subst hq; exact .inr ⟨by omega, List.suffix_refl _, fun _ => rfl⟩
      · exact .inl (by unfold Mem.set; rw [if_neg hq])
    · unfold Mem.set
      split
      · rename_i hq; subst hq; rw [hf id (List.suffix_refl _)] at e; cases e
      · exact e
  · have hadd : ∀ i o', M i = some o' → M' i = some o' := by
      cases n with
      | zero => simp [opN] at h
      | succ n =>
        obtain ⟨dst, op, typ, pos, aft, grd⟩ := o
        simp only at h3
        simp only [opN] at h
        cases op <;> simp only [cls] at h3 <;> try (simp at h3; done)
        case makeMap t r => cases r <;> simp at h3
        case call c =>
          obtain ⟨ce, as, ts⟩ := c
          cases ce with
          | builtin b => cases b <;> simp at h3
          | value x =>
            cases x <;> simp at h3
            rename_i g
            simp only [callOf, ev] at h
            have hq : E.lv g = .adds := by
              cases hq : E.lv g with
              | quiet => simp [hq] at h3
              | adds => rfl
              | free => simp [hq] at h3
            exact fn_adds hp hq h
          | invoke => simp at h3
    refine ⟨fun id => ?_, fun _ => hadd⟩
    cases hq : M id with
    | some ob => exact .inl (hadd id ob hq)
    | none =>
      cases hq2 : M' id with
      | none => exact .inl rfl
      | some ob =>
        rcases (allIds E hp n).op _ _ _ _ _ _ _ h id (by rw [hq2]; simp) with g | g
        · exact absurd hq g
        · exact .inr ⟨by omega, g, fun e => by omega⟩

/-! which operation stands before which -/
inductive Bf (ops : Array Oper) : Nat → Nat → Prop
  | edge (i j o e) (h : ops[j]? = some o) (he : e ∈ o.after) (hb : Region.binds .any e = true) (hi : e.on = i) : Bf ops i j
  | trans (i j k) (h1 : Bf ops i j) (h2 : Bf ops j k) : Bf ops i k

def maskOf (acc : List Nat) (o : Oper) : Nat :=
  o.after.toList.foldl (fun m e => if Region.binds .any e then m ||| (2 ^ e.on ||| acc.getD e.on 0) else m) 0
def masks : List Oper → List Nat → List Nat
  | [], acc => acc
  | o :: l, acc => masks l (acc ++ [maskOf acc o])

theorem maskOf_spec {ops : Array Oper} {acc : List Nat} (hacc : ∀ j i, (acc.getD j 0).testBit i = true → Bf ops i j) {k : Nat} {o : Oper} (hk : ops[k]? = some o) {i : Nat} (h : (maskOf acc o).testBit i = true) : Bf ops i k := by
  unfold maskOf at h
  have key : ∀ (l : List Edge) (m : Nat), (∀ e ∈ l, e ∈ o.after) → (m.testBit i = true → Bf ops i k) →
      (l.foldl (fun m e => if Region.binds .any e then m ||| (2 ^ e.on ||| acc.getD e.on 0) else m) m).testBit i = true → Bf ops i k := by
    intro l
    induction l with
    | nil => intro m _ hm h; exact hm h
    | cons e l ih =>
      intro m hl hm h
      simp only [List.foldl_cons] at h
      refine ih _ (fun e' he' => hl e' (List.mem_cons_of_mem _ he')) (fun hq => ?_) h
      split at hq
      · rename_i hb
        simp only [Nat.testBit_or, Bool.or_eq_true] at hq
        rcases hq with hq | hq | hq
        · exact hm hq
        · rw [Nat.testBit_two_pow] at hq
          exact .edge i k o e hk (hl e (List.mem_cons_self ..)) hb (by simpa using hq)
        · exact .trans i e.on k (hacc _ _ hq) (.edge e.on k o e hk (hl e (List.mem_cons_self ..)) hb rfl)
      · exact hm hq
  exact key _ 0 (fun e he => by simpa using he) (by simp) h

theorem masks_spec {ops : Array Oper} : ∀ (l : List Oper) (acc : List Nat), (∀ j o, l[j]? = some o → ops[acc.length + j]? = some o) → (∀ j i, (acc.getD j 0).testBit i = true → Bf ops i j) →
    ∀ j i, ((masks l acc).getD j 0).testBit i = true → Bf ops i j
  | [], acc, _, hacc => hacc
  | o :: l, acc, hl, hacc => by
    refine masks_spec l (acc ++ [maskOf acc o]) (fun j o' h => ?_) (fun j i h => ?_)
    · have := hl (j + 1) o' (by simpa using h)
      simp only [List.length_append, List.length_singleton]
      rw [show acc.length + 1 + j = acc.length + (j + 1) by omega]; exact this
    · by_cases hj : j < acc.length
      · rw [List.getD_eq_getElem?_getD, List.getElem?_append_left hj, ← List.getD_eq_getElem?_getD] at h
        exact hacc j i h
      · by_cases hj2 : j = acc.length
        · subst hj2
          rw [List.getD_eq_getElem?_getD, List.getElem?_append_right (Nat.le_refl _)] at h
          simp at h
          exact maskOf_spec hacc (by have := hl 0 o (by simp); simpa using this) h
        · rw [List.getD_eq_getElem?_getD, List.getElem?_eq_none (by simp; omega)] at h
          simp at h

def isLoad : Op → Bool
  | .load .. | .lookup .. => true
  | .call { callee := .builtin .len, .. } => true
  | _ => false

/-- two operations, the one ahead of the other in the text, may come in either order -/
def noClash (E : Env) (ops : Array Oper) (lo : List (Nat × Nat)) (i j : Nat) (x y : Oper) : Bool :=
  x.apart ops y && !(cls E x.op == 4 && (cls E y.op == 1 || 3 ≤ cls E y.op) && !(isLoad y.op && lo.contains (j, i))) && !(cls E y.op == 4 && 1 ≤ cls E x.op && !(isLoad x.op && lo.contains (i, j)))

def okPairs (E : Env) (ops : Array Oper) (lo : List (Nat × Nat)) (ms : List Nat) : List Oper → Nat → Bool
  | [], _ => true
  | y :: l, j => (y.after.all fun e => !Region.binds .any e || e.on < j) &&
      ((List.range j).all fun i => (ms.getD j 0).testBit i || (match ops[i]? with | some x => noClash E ops lo i j x y | none => true)) && okPairs E ops lo ms l (j + 1)

/-- what is asked of a region whose order is drawn -/
def okRegion (E : Env) (lo : List (Nat × Nat)) (ops : Array Oper) : Bool := okPairs E ops lo (masks ops.toList []) ops.toList 0

structure RegOk (E : Env) (lo : List (Nat × Nat)) (ops : Array Oper) : Prop where
  back : ∀ j o e, ops[j]? = some o → e ∈ o.after → Region.binds .any e = true → e.on < j
  pair : ∀ i j x y, i < j → ops[i]? = some x → ops[j]? = some y → Bf ops i j ∨ noClash E ops lo i j x y = true

theorem okRegion_spec {E : Env} {lo : List (Nat × Nat)} {ops : Array Oper} (h : okRegion E lo ops = true) : RegOk E lo ops := by
  have hms : ∀ j i, ((masks ops.toList []).getD j 0).testBit i = true → Bf ops i j := masks_spec ops.toList [] (fun j o h => by simpa using h) (fun j i h => by simp at h)
  have key : ∀ (l : List Oper) (k : Nat), (∀ j o, l[j]? = some o ↔ ops[k + j]? = some o) → okPairs E ops lo (masks ops.toList []) l k = true →
      ∀ j o, k ≤ j → ops[j]? = some o → (∀ e, e ∈ o.after → Region.binds .any e = true → e.on < j) ∧ (∀ i x, i < j → ops[i]? = some x → Bf ops i j ∨ noClash E ops lo i j x o = true) := by
    intro l
    induction l with
    | nil =>
      intro k hl _ j o hj ho
      have := (hl (j - k) o).2 (by rw [show k + (j - k) = j by omega]; exact ho)
      simp at this
    | cons y l ih =>
      intro k hl hok j o hj ho
      simp only [okPairs, Bool.and_eq_true] at hok
      obtain ⟨⟨h1, h2⟩, h3⟩ := hok
      by_cases hjk : j = k
      · subst hjk
        have hy : y = o := by have := (hl 0 y).1 (by simp); simp only [Nat.add_zero] at this; rw [ho] at this; simpa using this.symm
        subst hy
        refine ⟨fun e he hb => ?_, fun i x hi hx => ?_⟩
        · have := (Array.all_eq_true'.1 h1) e he
          simp only [hb, Bool.not_true, Bool.false_or, decide_eq_true_eq] at this
          exact this
        · have := (List.all_eq_true.1 h2) i (List.mem_range.2 hi)
          simp only [Bool.or_eq_true, hx] at this
          exact this.imp (hms j i) id
      · exact ih (k + 1) (fun j' o' => by
          have := hl (j' + 1) o'
          simp only [List.getElem?_cons_succ] at this
          rw [this, show k + (j' + 1) = k + 1 + j' by omega]) h3 j o (by omega) ho
  have all := key ops.toList 0 (fun j o => by simp) h
  exact ⟨fun j o e ho he hb => (all j o (Nat.zero_le _) ho).1 e he hb, fun i j x y hij hx hy => (all j y (Nat.zero_le _) hy).2 i x hij hx⟩

theorem Bf.lt {E : Env} {lo : List (Nat × Nat)} {ops : Array Oper} (h : RegOk E lo ops) {i j : Nat} (hb : Bf ops i j) : i < j := by
  induction hb with
  | edge i j o e ho he hbi hi => exact hi ▸ h.back j o e ho he hbi
  | trans i j k _ _ ih1 ih2 => omega
end Go.Ab
