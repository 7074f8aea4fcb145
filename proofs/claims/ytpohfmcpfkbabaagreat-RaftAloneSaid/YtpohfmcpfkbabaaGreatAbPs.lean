/- What stands in for functions is sound: sorting, the members where there are none, the range over no peers. Conditions: none. -/
import Derived.Test.YtpohfmcpfkbabaaGreatAbEnv
import Derived.Test.YtpohfmcpfkbabaaGreatTryzShelfP
import Derived.WalkKit
import Derived.ProofKit
set_option linter.unusedSimpArgs false
set_option linter.unusedVariables false
set_option maxRecDepth 100000
namespace Go.Ab
open Go.Sort Go.Proofs

theorem MR.grow {ι C M w w'} (h : MR ι C M w) (os : Array Obj) (e : w'.heap = w.heap ++ os) (e1 : w'.os = w.os) (e2 : w'.tape = w.tape) (e3 : w'.output = w.output) (s : Id) : MR ι C M w' ∧ Stp s ι C M w ι C M w' := by
  have hb : ∀ b, b < w.heap.size → w'.heap[b]? = w.heap[b]? := fun b hb => by rw [e, Array.getElem?_append_left hb]
  refine ⟨⟨fun i b o r q => ?_, h.inj, fun i pl ob q q2 => ?_, fun b o x q => ?_⟩, ⟨fun _ _ h => .inl h, fun _ h h' => absurd h h', fun _ _ _ h => h, fun _ _ _ _ h => .inl h, fun _ _ h => h, fun _ _ h _ => h, fun b q _ => hb b q, by rw [e]; simp, e1, e2, e3⟩⟩
  · have := h.bound i b o r q; rw [e]; simp; omega
  · obtain ⟨b, o, r, rfl, hO⟩ := h.obj i pl ob q q2
    exact ⟨b, o, r, rfl, hO.mono (hb b (h.bound i b o r q)) (fun _ _ h => .inl h) (fun _ _ _ h => h)⟩
  · obtain ⟨q1, q2⟩ := h.fro b o x q
    refine ⟨?_, q2⟩
    have hlt : b < w.heap.size := by
      by_cases hlt : b < w.heap.size
      · exact hlt
      · simp [World.cell?, Array.getElem?_eq_none (Nat.le_of_not_lt hlt)] at q1
    simpa only [World.cell?, hb b hlt] using q1

theorem intsOf_spec : ∀ {l : List V} {ns : List Int}, intsOf l = some ns → l = ns.map (V.int .i64)
  | [], ns, h => by simp only [intsOf, Option.some.injEq] at h; subst h; rfl
  | v :: l, ns, h => by
    simp only [intsOf] at h
    split at h
    · rename_i n ns' h1 h2
      simp only [Option.some.injEq] at h; subst h
      rw [intsOf_spec h2]
      cases v <;> simp only [intOf] at h1 <;> try (cases h1; done)
      rename_i k m
      cases k <;> simp only [Option.some.injEq] at h1 <;> first | (cases h1; rfl) | cases h1
    · cases h

theorem LR_one {ι C} {x : V} {a : Array Value} (h : LR ι C [x] a) : ∃ c, a = #[c] ∧ VR ι C x c := by
  obtain ⟨h1, h2⟩ := h
  have hs : a.size = 1 := by simpa using h1.symm
  refine ⟨a[0]'(by omega), ?_, h2 0 (by simp) (by omega)⟩
  apply Array.ext
  · simpa using hs
  · intro j p q
    have : j = 0 := by simp at q; omega
    subst this; rfl
theorem VR_ints {ι C} {v : V} {c : Value} {n : Int} (h : VR ι C v c) (e : v = .int .i64 n) : c = .int .i64 n := by subst e; cases h; rfl

theorem sort_sound {M : Mem} {args : List V} {s : Id} {v : V} {M' : Mem} {ι C w cargs} (h : sortP args s M = some (v, M')) (ha : LR ι C args cargs) (hm : MR ι C M w) :
    Calls Tryz.prog 118 cargs w fun e w' => ∃ c ι' C', e = .returned c ∧ VR ι' C' v c ∧ MR ι' C' M' w' ∧ Stp s ι C M w ι' C' M' w' := by
  unfold sortP at h
  split at h
  · simp only [Option.some.injEq, Prod.mk.injEq] at h
    obtain ⟨rfl, rfl⟩ := h
    obtain ⟨c, rfl, hv⟩ := LR_one ha
    cases hv
    have := AnyM.slices_Sort_int_none Tryz.sortA none 0 w
    refine Calls.mono (show Calls Tryz.prog 118 _ _ _ from this) ?_
    rintro e w' ⟨rfl, rfl⟩
    exact ⟨_, ι, C, rfl, .tup _ _ rfl (fun j p => absurd p (by simp)), hm, .refl _ _ _ _ _⟩
  · rename_i i off len sz cap
    split at h
    · rename_i cs hM
      split at h
      · rename_i hcnd
        obtain ⟨rfl, hpos, hle, hmost⟩ := hcnd
        split at h
        · rename_i l hl
          simp only [Option.some.injEq, Prod.mk.injEq] at h
          obtain ⟨rfl, rfl⟩ := h
          obtain ⟨c, rfl, hv⟩ := LR_one ha
          cases hv with
          | sl _ _ _ _ _ pl a ccap hij hlc hcp hsp h2 =>
            obtain ⟨b, o, r, rfl, hO⟩ := hm.obj i pl _ hij hM
            obtain ⟨ha2, hroom⟩ := h2 b o r rfl
            obtain rfl := ha2 (by omega)
            cases hO with
            | cells _ _ _ _ arr el hbk hr hl' hone hval =>
              have hls := intsOf_spec hl
              have hll : l.length = len := by
                have := congrArg List.length hls
                simp only [List.length_take, List.length_drop, List.length_map] at this
                omega
              have hget : ∀ j (hj : j < len), arr[o + off + j]? = some (.int .i64 (l[j]'(by omega))) := by
                intro j hj
                have hx : cs[off + j]? = some (.int .i64 (l[j]'(by omega))) := by
                  have := congrArg (fun x => x[j]?) hls
                  simp only [List.getElem?_take, List.getElem?_drop, List.getElem?_map] at this
                  rw [if_pos (by omega), List.getElem?_eq_getElem (l := l) (by omega)] at this
                  simpa using this
                obtain ⟨hj2, hx2⟩ := List.getElem?_eq_some_iff.1 hx
                have := VR_ints (hval (off + j) hj2 (by omega)) hx2
                rw [Array.getElem?_eq_getElem (by omega)]
                simp only [Nat.add_assoc]
                rw [this]
              have hH : Holds (Value.int .i64) w b (o + off) l.toArray := by
                intro j hj
                have hj' : j < len := by simpa [hll] using hj
                refine ⟨?_, ?_⟩
                · simp only [World.cell?, hbk]
                  have := hget j hj'
                  simp only [Nat.add_assoc] at this ⊢
                  rw [this]
                  simp [hll, hj']
                · simp only [World.frozen?, hbk]
                  simp
              have hblk : b < w.heap.size := hm.bound _ _ _ _ hij
              have hcall := AnyM.slices_Sort_int Tryz.sortA b (o + off) ccap l w hH hblk (by unfold mostLen at hmost; omega)
              rw [hll] at hcall
              refine Calls.mono (show Calls Tryz.prog 118 _ _ _ from hcall) ?_
              rintro e w' ⟨rfl, n, os, rfl⟩
              have hsl : (sortI l).length = len := by unfold sortI; rw [List.length_mergeSort]; exact hll
              have hsz : (sortI l).toArray.size = len := by simpa using hsl
              have hbk1 : (putRow (Value.int .i64) (Sort.ahead w n) b (o + off) (sortI l).toArray).heap[b]? = some (.cells (putCells (Value.int .i64) (o + off) (sortI l).toArray arr) el (0, 0)) := by
                simp only [putRow, mapBlock, Sort.ahead, Array.getElem?_modify, if_true, hbk, Option.map_some, onCells]
              have hO1 : ObjR ι C (putRow (Value.int .i64) (Sort.ahead w n) b (o + off) (sortI l).toArray) (.cells (splice cs off ((sortI l).map (V.int .i64)))) b o r := by
                have hspl : (splice cs off ((sortI l).map (V.int .i64))).length = cs.length := by
                  simp only [splice, List.length_append, List.length_take, List.length_drop, List.length_map, hsl]; omega
                have hgs : ∀ j (hj : j < (splice cs off ((sortI l).map (V.int .i64))).length), (splice cs off ((sortI l).map (V.int .i64)))[j] = if h : off ≤ j ∧ j < off + len then .int .i64 ((sortI l)[j - off]'(by omega)) else cs[j]'(by rw [hspl] at hj; exact hj) := by
                  intro j hj
                  rw [hspl] at hj
                  simp only [splice, List.length_map, hsl]
                  by_cases h1 : j < off
                  · rw [List.getElem_append_left (by simp only [List.length_append, List.length_take, List.length_map, hsl]; omega), List.getElem_append_left (by simp only [List.length_take]; omega), List.getElem_take, dif_neg (by omega)]
                  · by_cases h2 : j < off + len
                    · rw [List.getElem_append_left (by simp only [List.length_append, List.length_take, List.length_map, hsl]; omega), List.getElem_append_right (by simp only [List.length_take]; omega), dif_pos ⟨by omega, h2⟩, List.getElem_map]
                      congr 2
                      simp only [List.length_take]; omega
                    · rw [List.getElem_append_right (by simp only [List.length_append, List.length_take, List.length_map, hsl]; omega), List.getElem_drop, dif_neg (by omega)]
                      congr 1
                      simp only [List.length_append, List.length_take, List.length_map, hsl]; omega
                refine .cells _ b o r _ el hbk1 (by simpa [putCells] using hr) (by rw [hspl]; exact hl') ?_ ?_
                · intro j hj
                  rw [hgs j hj]
                  split
                  · rfl
                  · exact hone _ _
                · intro j hj hc
                  rw [hgs j hj]
                  have hja : o + j < arr.size := by simpa [putCells] using hc
                  simp only [putCells, Array.getElem_mapIdx]
                  by_cases h3 : off ≤ j ∧ j < off + len
                  · rw [dif_pos h3, if_pos (by rw [hsz]; omega)]
                    have e1 : o + j - (o + off) = j - off := by omega
                    rw [e1]
                    have e2 : (sortI l).toArray[j - off]! = (sortI l)[j - off]'(by omega) := by
                      rw [getElem!_pos _ _ (by rw [hsz]; omega)]; simp
                    rw [e2]
                    exact .int _ _
                  · rw [dif_neg h3, if_neg (by rw [hsz]; omega)]
                    exact hval j (by rw [hspl] at hj; exact hj) hja
              obtain ⟨g1, g2⟩ := hm.change i b o r hij (by rw [hM]; simp) (.cells (splice cs off ((sortI l).map (V.int .i64)))) (putRow (Value.int .i64) (Sort.ahead w n) b (o + off) (sortI l).toArray)
                (by simp [putRow, mapBlock, Sort.ahead]) (fun b' hb' => by simp [putRow, mapBlock, Sort.ahead, Array.getElem?_modify, Ne.symm hb']) rfl rfl rfl hO1 s
              obtain ⟨g3, g4⟩ := g1.grow os (w' := grow (putRow (Value.int .i64) (Sort.ahead w n) b (o + off) (sortI l).toArray) os) rfl rfl rfl rfl s
              exact ⟨_, ι, C, rfl, .tup _ _ rfl (fun j p => absurd p (by simp)), g3, g2.trans g4⟩
        · cases h
      · cases h
    · cases h
  · cases h
end Go.Ab
