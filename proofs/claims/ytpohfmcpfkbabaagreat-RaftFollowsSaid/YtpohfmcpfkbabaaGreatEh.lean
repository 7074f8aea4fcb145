/- What stands in for functions is sound: sorting, the members where there are none, the range over no peers. Conditions: none. -/
import Derived.Test.YtpohfmcpfkbabaaGreatAbEnv
import Derived.Test.YtpohfmcpfkbabaaGreatTryzShelfP
import Derived.WalkKit
import Derived.ProofKit
import Derived.Test.YtpohfmcpfkbabaaGreatAbSim
set_option linter.unusedSimpArgs false
set_option linter.unusedVariables false
set_option maxRecDepth 100000
namespace Go.Ab
open Go.Sort Go.Proofs

theorem MR.grow {ι C M w w'} (h : MR ι C M w) (os : Array Obj) (e : w'.heap = w.heap ++ os) (e1 : w'.os = w.os) (e2 : w'.tape = w.tape) (e3 : w'.output = w.output) (s : Id) : MR ι C M w' ∧ Stp s ι C M w ι C M w' := by
  have hb : ∀ b, b < w.heap.size → w'.heap[b]? = w.heap[b]? := fun b hb => by rw [e, Array.getElem?_append_left hb]
  refine ⟨⟨fun i b o r q => ?_, h.inj, fun i pl ob q q2 => ?_, fun b o x q => ?_⟩, ⟨fun _ _ h => .inl h, fun _ h h' => absurd h h', fun _ _ _ h => h, fun _ _ _ _ h => .inl h, fun _ _ h => h, fun _ _ h _ => h, fun b q _ => hb b q, by rw [e]; simp, e1, e2, e3⟩⟩
  · have := h.bound i b o r q; rw [e]; simp; omega
  · obtain ⟨b, o, r, rfl, hO⟩ := h.obj i pl ob q q2
    exact ⟨b, o, r, rfl, hO.mono (hb b (h.bound i b o r q)) (fun _ _ h => .inl h) (fun _ _ _ h => h)⟩
  · obtain ⟨q1, q2⟩ := h.fro b o x q
    refine ⟨?_, q2⟩
    have hlt : b < w.heap.size := by
      by_cases hlt : b < w.heap.size
      · exact hlt
      · simp [World.cell?, Array.getElem?_eq_none (Nat.le_of_not_lt hlt)] at q1
    simpa only [World.cell?, hb b hlt] using q1

theorem intsOf_spec : ∀ {l : List V} {ns : List Int}, intsOf l = some ns → l = ns.map (V.int .i64)
  | [], ns, h => by simp only [intsOf, Option.some.injEq] at h; subst h; rfl
  | v :: l, ns, h => by
    simp only [intsOf] at h
    split at h
    · rename_i n ns' h1 h2
      simp only [Option.some.injEq] at h; subst h
      rw [intsOf_spec h2]
      cases v <;> simp only [intOf] at h1 <;> try (cases h1; done)
      rename_i k m
      cases k <;> simp only [Option.some.injEq] at h1 <;> first | (cases h1; rfl) | cases h1
    · cases h

theorem LR_one {ι C} {x : V} {a : Array Value} (h : LR ι C [x] a) : ∃ c, a = #[c] ∧ VR ι C x c := by
  obtain ⟨h1, h2⟩ := h
  have hs : a.size = 1 := by simpa using h1.symm
  refine ⟨a[0]'(by omega), ?_, h2 0 (by simp) (by omega)⟩
  apply Array.ext
  · simpa using hs
  · intro j p q
    have : j = 0 := by simp at q; omega
    subst this; rfl
theorem VR_ints {ι C} {v : V} {c : Value} {n : Int} (h : VR ι C v c) (e : v = .int .i64 n) : c = .int .i64 n := by subst e; cases h; rfl

theorem sort_sound {M : Mem} {args : List V} {s : Id} {v : V} {M' : Mem} {ι C w cargs} (h : sortP args s M = some (v, M')) (ha : LR ι C args cargs) (hm : MR ι C M w) :
    Calls Tryz.prog 118 cargs w fun e w' => ∃ c ι' C', e = .returned c ∧ VR ι' C' v c ∧ MR ι' C' M' w' ∧ Stp s ι C M w ι' C' M' w' := by
  unfold sortP at h
  split at h
  · simp only [Option.some.injEq, Prod.mk.injEq] at h
    obtain ⟨rfl, rfl⟩ := h
    obtain ⟨c, rfl, hv⟩ := LR_one ha
    cases hv
    have := AnyM.slices_Sort_int_none Tryz.sortA none 0 w
    refine Calls.mono (show Calls Tryz.prog 118 _ _ _ from this) ?_
    rintro e w' ⟨rfl, rfl⟩
    exact ⟨_, ι, C, rfl, .tup _ _ rfl (fun j p => absurd p (by simp)), hm, .refl _ _ _ _ _⟩
  · simp only [Option.some.injEq, Prod.mk.injEq] at h
    obtain ⟨rfl, rfl⟩ := h
    obtain ⟨c, rfl, hv⟩ := LR_one ha
    have fin : ∀ (p : Option Addr) (cap : Nat), c = .slice p 0 cap → Calls Tryz.prog 118 #[c] w fun e w' => ∃ c ι' C', e = .returned c ∧ VR ι' C' (.tup []) c ∧ MR ι' C' M w' ∧ Stp s ι C M w ι' C' M w' := by
      rintro p cap rfl
      have := AnyM.slices_Sort_int_none Tryz.sortA p cap w
      refine Calls.mono (show Calls Tryz.prog 118 _ _ _ from this) ?_
      rintro e w' ⟨rfl, rfl⟩
      exact ⟨_, ι, C, rfl, .tup _ _ rfl (fun j p => absurd p (by simp)), hm, .refl _ _ _ _ _⟩
    cases hv with
    | psl => exact fin _ _ rfl
    | psl0 => exact fin _ _ rfl
  · rename_i i off len sz cap
    split at h
    · rename_i h0
      subst h0
      simp only [Option.some.injEq, Prod.mk.injEq] at h
      obtain ⟨rfl, rfl⟩ := h
      obtain ⟨c, rfl, hv⟩ := LR_one ha
      cases hv with
      | sl _ _ _ _ _ pl a ccap =>
        have := AnyM.slices_Sort_int_none Tryz.sortA (some a) ccap w
        refine Calls.mono (show Calls Tryz.prog 118 _ _ _ from this) ?_
        rintro e w' ⟨rfl, rfl⟩
        exact ⟨_, ι, C, rfl, .tup _ _ rfl (fun j p => absurd p (by simp)), hm, .refl _ _ _ _ _⟩
    rename_i h0
    split at h
    · rename_i cs hM
      split at h
      · rename_i hcnd
        obtain ⟨rfl, hpos, hle, hmost⟩ := hcnd
        split at h
        · rename_i l hl
          simp only [Option.some.injEq, Prod.mk.injEq] at h
          obtain ⟨rfl, rfl⟩ := h
          obtain ⟨c, rfl, hv⟩ := LR_one ha
          cases hv with
          | sl _ _ _ _ _ pl a ccap hij hlc hcp hsp h2 =>
            obtain ⟨b, o, r, rfl, hO⟩ := hm.obj i pl _ hij hM
            obtain ⟨ha2, hroom, _⟩ := h2 b o r rfl
            obtain rfl := ha2 (by omega)
            cases hO with
            | cells _ _ _ _ arr el hbk hr hl' hone hval =>
              have hls := intsOf_spec hl
              have hll : l.length = len := by
                have := congrArg List.length hls
                simp only [List.length_take, List.length_drop, List.length_map] at this
                omega
              have hget : ∀ j (hj : j < len), arr[o + off + j]? = some (.int .i64 (l[j]'(by omega))) := by
                intro j hj
                have hx : cs[off + j]? = some (.int .i64 (l[j]'(by omega))) := by
                  have := congrArg (fun x => x[j]?) hls
                  simp only [List.getElem?_take, List.getElem?_drop, List.getElem?_map] at this
                  rw [if_pos (by omega), List.getElem?_eq_getElem (l := l) (by omega)] at this
                  simpa using this
                obtain ⟨hj2, hx2⟩ := List.getElem?_eq_some_iff.1 hx
                have := VR_ints (hval (off + j) hj2 (by omega)) hx2
                rw [Array.getElem?_eq_getElem (by omega)]
                simp only [Nat.add_assoc]
                rw [this]
              have hH : Holds (Value.int .i64) w b (o + off) l.toArray := by
                intro j hj
                have hj' : j < len := by simpa [hll] using hj
                refine ⟨?_, ?_⟩
                · simp only [World.cell?, hbk]
                  have := hget j hj'
                  simp only [Nat.add_assoc] at this ⊢
                  rw [this]
                  simp [hll, hj']
                · simp only [World.frozen?, hbk]
                  simp
              have hblk : b < w.heap.size := hm.bound _ _ _ _ hij
              have hcall := AnyM.slices_Sort_int Tryz.sortA b (o + off) ccap l w hH hblk (by unfold mostLen at hmost; omega)
              rw [hll] at hcall
              refine Calls.mono (show Calls Tryz.prog 118 _ _ _ from hcall) ?_
              rintro e w' ⟨rfl, n, os, rfl⟩
              have hsl : (sortI l).length = len := by unfold sortI; rw [List.length_mergeSort]; exact hll
              have hsz : (sortI l).toArray.size = len := by simpa using hsl
              have hbk1 : (putRow (Value.int .i64) (Sort.ahead w n) b (o + off) (sortI l).toArray).heap[b]? = some (.cells (putCells (Value.int .i64) (o + off) (sortI l).toArray arr) el (0, 0)) := by
                simp only [putRow, mapBlock, Sort.ahead, Array.getElem?_modify, if_true, hbk, Option.map_some, onCells]
              have hO1 : ObjR ι C (putRow (Value.int .i64) (Sort.ahead w n) b (o + off) (sortI l).toArray) (.cells (splice cs off ((sortI l).map (V.int .i64)))) b o r := by
                have hspl : (splice cs off ((sortI l).map (V.int .i64))).length = cs.length := by
                  simp only [splice, List.length_append, List.length_take, List.length_drop, List.length_map, hsl]; omega
                have hgs : ∀ j (hj : j < (splice cs off ((sortI l).map (V.int .i64))).length), (splice cs off ((sortI l).map (V.int .i64)))[j] = if h : off ≤ j ∧ j < off + len then .int .i64 ((sortI l)[j - off]'(by omega)) else cs[j]'(by rw [hspl] at hj; exact hj) := by
                  intro j hj
                  rw [hspl] at hj
                  simp only [splice, List.length_map, hsl]
                  by_cases h1 : j < off
                  · rw [List.getElem_append_left (by simp only [List.length_append, List.length_take, List.length_map, hsl]; omega), List.getElem_append_left (by simp only [List.length_take]; omega), List.getElem_take, dif_neg (by omega)]
                  · by_cases h2 : j < off + len
                    · rw [List.getElem_append_left (by simp only [List.length_append, List.length_take, List.length_map, hsl]; omega), List.getElem_append_right (by simp only [List.length_take]; omega), dif_pos ⟨by omega, h2⟩, List.getElem_map]
                      congr 2
                      simp only [List.length_take]; omega
                    · rw [List.getElem_append_right (by simp only [List.length_append, List.length_take, List.length_map, hsl]; omega), List.getElem_drop, dif_neg (by omega)]
                      congr 1
                      simp only [List.length_append, List.length_take, List.length_map, hsl]; omega
                refine .cells _ b o r _ el hbk1 (by simpa [putCells] using hr) (by rw [hspl]; exact hl') ?_ ?_
                · intro j hj
                  rw [hgs j hj]
                  split
                  · rfl
                  · exact hone _ _
                · intro j hj hc
                  rw [hgs j hj]
                  have hja : o + j < arr.size := by simpa [putCells] using hc
                  simp only [putCells, Array.getElem_mapIdx]
                  by_cases h3 : off ≤ j ∧ j < off + len
                  · rw [dif_pos h3, if_pos (by rw [hsz]; omega)]
                    have e1 : o + j - (o + off) = j - off := by omega
                    rw [e1]
                    have e2 : (sortI l).toArray[j - off]! = (sortI l)[j - off]'(by omega) := by
                      rw [getElem!_pos _ _ (by rw [hsz]; omega)]; simp
                    rw [e2]
                    exact .int _ _
                  · rw [dif_neg h3, if_neg (by rw [hsz]; omega)]
                    exact hval j (by rw [hspl] at hj; exact hj) hja
              obtain ⟨g1, g2⟩ := hm.change i b o r hij (by rw [hM]; simp) (.cells (splice cs off ((sortI l).map (V.int .i64)))) (putRow (Value.int .i64) (Sort.ahead w n) b (o + off) (sortI l).toArray)
                (by simp [putRow, mapBlock, Sort.ahead]) (fun b' hb' => by simp [putRow, mapBlock, Sort.ahead, Array.getElem?_modify, Ne.symm hb']) rfl rfl rfl hO1 s
              obtain ⟨g3, g4⟩ := g1.grow os (w' := grow (putRow (Value.int .i64) (Sort.ahead w n) b (o + off) (sortI l).toArray) os) rfl rfl rfl rfl s
              exact ⟨_, ι, C, rfl, .tup _ _ rfl (fun j p => absurd p (by simp)), g3, g2.trans g4⟩
        · cases h
      · cases h
    · cases h
  · cases h
end Go.Ab

/- The members where there are none: the walk. Conditions: none. -/
set_option maxRecDepth 100000
namespace Go.Ab
open Go.Proofs Go.RowKit Go.Maps Go.Sort Go.Shelf

theorem Tryz.sortsA (m : Nat) : AnyZI.SortsIn Tryz.prog Tryz.sortedA_ren Fence.wide m :=
  ⟨fun blk off cap ss W hH hblk hsz => callsIn_wide.2 (AnyM.slices_Sort_int Tryz.sortA blk off cap ss W hH hblk hsz),
   fun p cap W => callsIn_wide.2 (AnyM.slices_Sort_int_none Tryz.sortA p cap W)⟩

theorem members_nil (b o : Nat) (w : World) (arr : Array Value) (el : TypeId) (hb : w.heap[b]? = some (.cells arr el (0, 0))) (hm : arr[o + 11]? = some (.map none)) :
    Calls Tryz.prog 41 #[.pointer (some ⟨b, o, none⟩)] w fun e w' => e = .returned (.slice none 0 0) ∧ Below w.heap.size w w' := by
  refine (callsIn_wide (n := 6)).1 ?_
  have hcell : w.cell? ⟨b, o + 11, none⟩ = some (.map none) := by simp [World.cell?, hb, hm]
  have hblk : b < w.heap.size := (Array.getElem?_eq_some_iff.1 hb).1
  have hseq : SeqGives Fence.wide 2 Tryz.prog 164 #[.pointer (some ⟨w.heap.size, 0, none⟩)] encZ (fun ss : List Int => ss = []) 0 (w.alloc (.cells #[.map none] 55)) :=
    AnyZI.keys_gives_nil (ρ := Tryz.keysA_ren) { Tryz.keysA with } Fence.wide _ trivial rfl w.heap.size _ (by simp) (by simp)
  have cK : ∀ mb W, CallsIn Fence.wide 5 Tryz.prog 102 #[.map mb] W fun e w' => e = .returned (.func (.func 164) #[] #[.pointer (some ⟨W.heap.size, 0, none⟩)]) ∧ w' = W.alloc (.cells #[.map mb] 55) := fun mb W => AnyZI.keys_in Tryz.keysA Fence.wide 5 trivial rfl mb W
  have cS := AnyZI.sorted_in Tryz.sortedA Fence.wide 5 trivial trivial trivial trivial rfl (by omega) (Tryz.sortsA _) (enters_of Tryz.func118 (by kernel_rfl) rfl) 164 #[.pointer (some ⟨w.heap.size, 0, none⟩)] trivial (enters_of Tryz.func164 (by kernel_rfl) rfl) _ 0 (Nat.zero_le _) (by omega) _ hseq
  change CallsIn _ _ Tryz.prog 101 _ _ _ at cS
  have hfK : Fence.wide.fn 102 := trivial
  have hfS : Fence.wide.fn 101 := trivial
  refine callsIn_of_wp Tryz.func41 rfl trivial ?_ rfl
  simp only [Tryz.ntmps41, List.size_toArray, List.length_cons, List.length_nil, Nat.reduceAdd, Nat.reduceSub, Array.replicate_succ, Array.replicate_zero, List.push_toArray, List.append_toArray, List.nil_append, List.cons_append]
  gi_wp2_with (first
    | (gi_at_call 102; refine (cK _ _).mono ?_; rintro e w' ⟨rfl, rfl⟩)
    | (gi_at_call 101; refine cS.mono ?_; rintro e w' ⟨v, ss, rfl, rfl, hrow, hnil, hb⟩; obtain rfl : v = .slice none 0 0 := hnil.2 rfl))
  go_ret
  exact ⟨rfl, ((Below.refl _ w).alloc (Nat.le_refl _) _).trans (hb.mono (by simp))⟩

theorem members_none (b o m k : Nat) (w : World) (arr : Array Value) (el : TypeId) (hb : w.heap[b]? = some (.cells arr el (0, 0))) (hm : arr[o + 11]? = some (.map (some m))) (hmm : w.heap[m]? = some (.map #[] k)) :
    Calls Tryz.prog 41 #[.pointer (some ⟨b, o, none⟩)] w fun e w' => e = .returned (.slice none 0 0) ∧ Below w.heap.size w w' := by
  refine (callsIn_wide (n := 6)).1 ?_
  have hcell : w.cell? ⟨b, o + 11, none⟩ = some (.map (some m)) := by simp [World.cell?, hb, hm]
  have hblk : b < w.heap.size := (Array.getElem?_eq_some_iff.1 hb).1
  have hown : w.ownsMap Tryz.prog 3 (fun _ => none) m 0 (DataW.map (H := Unit) []) := by
    refine ⟨#[], k, hmm, ?_, by simp, by simp⟩
    constructor
    · simp [maxLen]
    · constructor <;> simp
    · intro x hx; simp at hx
  have hbl := hown.lt
  have hseq : SeqGives Fence.wide 2 Tryz.prog 164 #[.pointer (some ⟨w.heap.size, 0, none⟩)] encZ (fun ss => ss.Perm (intKeys (DataW.map (H := Unit) []))) (Maps.size (DataW.map (H := Unit) [])) (w.alloc (.cells #[.map (some m)] 55)) :=
    AnyZI.keys_gives (ρ := Tryz.keysA_ren) { Tryz.keysA with } Fence.wide _ trivial rfl (by omega) w.heap.size m 0 (DataW.map (H := Unit) []) _ (by simp) (by simp) (by
      obtain ⟨es, clock, hb, Ft, hs, hD⟩ := hown
      exact ⟨es, clock, (Below.heap_alloc _ _ m hbl).trans hb, Ft, hs, hD⟩)
  have cK : ∀ mb W, CallsIn Fence.wide 5 Tryz.prog 102 #[.map mb] W fun e w' => e = .returned (.func (.func 164) #[] #[.pointer (some ⟨W.heap.size, 0, none⟩)]) ∧ w' = W.alloc (.cells #[.map mb] 55) := fun mb W => AnyZI.keys_in Tryz.keysA Fence.wide 5 trivial rfl mb W
  have cS := AnyZI.sorted_in Tryz.sortedA Fence.wide 5 trivial trivial trivial trivial rfl (by omega) (Tryz.sortsA _) (enters_of Tryz.func118 (by kernel_rfl) rfl) 164 #[.pointer (some ⟨w.heap.size, 0, none⟩)] trivial (enters_of Tryz.func164 (by kernel_rfl) rfl) _ (Maps.size (DataW.map (H := Unit) [])) (by decide) (by decide) _ hseq
  change CallsIn _ _ Tryz.prog 101 _ _ _ at cS
  have hfK : Fence.wide.fn 102 := trivial
  have hfS : Fence.wide.fn 101 := trivial
  refine callsIn_of_wp Tryz.func41 rfl trivial ?_ rfl
  simp only [Tryz.ntmps41, List.size_toArray, List.length_cons, List.length_nil, Nat.reduceAdd, Nat.reduceSub, Array.replicate_succ, Array.replicate_zero, List.push_toArray, List.append_toArray, List.nil_append, List.cons_append]
  gi_wp2_with (first
    | (gi_at_call 102; refine (cK _ _).mono ?_; rintro e w' ⟨rfl, rfl⟩)
    | (gi_at_call 101; refine cS.mono ?_; rintro e w' ⟨v, ss, rfl, hS, hrow, hnil, hb⟩; obtain rfl : v = .slice none 0 0 := hnil.2 (List.Perm.eq_nil hS)))
  go_ret
  exact ⟨rfl, ((Below.refl _ w).alloc (Nat.le_refl _) _).trans (hb.mono (by simp))⟩
end Go.Ab

/- The range over no peers is sound. Conditions: none. -/
set_option maxRecDepth 100000
namespace Go.Ab
open Go.Proofs Go.RowKit

theorem wpl_V {P : Program} {all : Array Oper} {Q : Exit → Act → World → Prop} {l : List Oper} {o : Oper} {f : Tm} {id : Id} {M : Mem} {v : V} {ι C} {a : Act} {w : World} (hg : o.guard = none) (h : opV P o.op (ev f) id M = some (v, M)) (ht : TR ι C f a.tmps) (hm : MR ι C M w) (hi : ι id = none)
    (hd : ∀ t, o.dst = some t → t < a.tmps.size) (hK : ∀ c w' ι' C', VR ι' C' v c → TR ι' C' (put f o.dst v) (a.put o.dst c).tmps → MR ι' C' M w' → Stp id ι C M w ι' C' M w' → wpList P all Q l (a.put o.dst c) w') : wpList P all Q (o :: l) a w := by
  have hw : Region.wanted o (yielded all a.tmps) = true := by simp [Region.wanted, hg]
  simp only [wpList, hw, if_true]
  exact .inl (opV_wp h ht hm hi fun c w' ι' C' g1 g2 g3 => hK c w' ι' C' g1 ((ht.mono g3.dom g3.fro).put g1 hd) g2 g3)

theorem wpl_run {P : Program} {all : Array Oper} {Q : Exit → Act → World → Prop} {l : List Oper} {o : Oper} {a : Act} {w w' : World} {c : Value} (hg : o.guard = none) (h : (execOp a.eval o).run P w = .ok (.value c) w') (hK : wpList P all Q l (a.put o.dst c) w') : wpList P all Q (o :: l) a w := by
  have hw : Region.wanted o (yielded all a.tmps) = true := by simp [Region.wanted, hg]
  simp only [wpList, hw, if_true]
  refine .inl ?_
  unfold Oper.wp
  rw [h]
  exact hK
theorem get_put (a : Act) (t : Nat) (c : Value) (n : Nat) (ht : t < a.tmps.size) : (a.put (some t) c).tmps.getD n undef = if n = t then c else a.tmps.getD n undef := by
  simp only [Act.put, Array.getD_eq_getD_getElem?, Array.getElem?_setIfInBounds]
  by_cases h : t = n
  · subst h; simp [ht]
  · rw [if_neg h, if_neg (Ne.symm h)]

theorem adv_sound {f : Tm} {s : Id} {M : Mem} {f' : Tm} {M' : Mem} (h : advP f s M = some (f', M')) {ι : Inj} {C : Fro} {a : Act} {w : World} {Q : Exit → Act → World → Prop} (ht : TR ι C f a.tmps) (hm : MR ι C M w) (hF : Fresh s ι) (hd : a.defers = []) (hsz : 32 ≤ a.tmps.size)
    (hQ : ∀ a' w' ι' C', TR ι' C' f' a'.tmps → MR ι' C' M' w' → Stp s ι C M w ι' C' M' w' → a'.defers = [] → a'.tmps.size = a.tmps.size → Q .normal a' w') : advCode.wp Tryz.prog Q a w := by
  unfold advP at h
  split at h
  rotate_left
  · cases h
  rename_i i h0
  split at h
  rotate_left
  · cases h
  rename_i cs hM
  split at h
  rotate_left
  · cases h
  rename_i m hc
  split at h
  rotate_left
  · cases h
  rename_i hent
  simp only [Option.some.injEq, Prod.mk.injEq] at h
  obtain ⟨rfl, rfl⟩ := h
  simp only [advCode, Tryz.f93]
  refine wp_seq ?_
  refine wp_region_list ?_
  have sz1 : ∀ (t : Nat) (c : Value), (a.put (some t) c).tmps.size = a.tmps.size := fun t c => Act.put_size a (some t) c
  have lt : ∀ {x : Option Tmp} {n : Nat}, x = some n → n < 32 → ∀ t, x = some t → t < a.tmps.size := fun e h t e' => by rw [e] at e'; cases e'; exact Nat.lt_of_lt_of_le h hsz
  refine wpl_V (f := f) (id := 0 :: s) (M := M) (v := .ptr i 0) (C := C) (ι := ι) rfl (by simp [opV, ev, h0]) ht hm (hF _ (List.suffix_cons _ _)) (lt rfl (by decide)) ?_
  intro c1 w1 ι1 C1 v1 t1 m1 s1
  have F1 : ι1 (1 :: s) = none := ((hF.tail 1).next (s1.weaken (List.suffix_refl _)) (by decide)) _ (List.suffix_refl _)
  refine wpl_V (f := put f (some 18) (.ptr i 0)) (id := 1 :: s) (M := M) (v := .ptr i 0) (C := C1) (ι := ι1) rfl (by simp [opV, ev, put, upd, nilCheckV]) t1 m1 F1 (fun t e => by rw [sz1]; exact lt rfl (by decide) t e) ?_
  intro c2 w2 ι2 C2 v2 t2 m2 s2
  have F2 : ι2 (2 :: s) = none := (((hF.tail 2).next (s1.weaken (List.suffix_refl _)) (by decide)).next s2 (by decide)) _ (List.suffix_refl _)
  have sz2 : ∀ (t : Nat) (c : Value) (t' : Nat) (c' : Value), ((a.put (some t) c).put (some t') c').tmps.size = a.tmps.size := fun t c t' c' => by rw [Act.put_size, Act.put_size]
  refine wpl_V (f := put (put f (some 18) (.ptr i 0)) (some 19) (.ptr i 0)) (id := 2 :: s) (M := M) (v := .ptr i 11) (C := C2) (ι := ι2) rfl (by simp [opV, ev, put, upd, fieldAddrV, R.kd58]) t2 m2 F2 (fun t e => by rw [sz2]; exact lt rfl (by decide) t e) ?_
  intro c3 w3 ι3 C3 v3 t3 m3 s3
  have F3 : ι3 (3 :: s) = none := ((((hF.tail 3).next (s1.weaken (List.suffix_refl _)) (by decide)).next s2 (by decide)).next s3 (by decide)) _ (List.suffix_refl _)
  refine wpl_V (f := put (put (put f (some 18) (.ptr i 0)) (some 19) (.ptr i 0)) (some 20) (.ptr i 11)) (id := 3 :: s) (M := M) (v := m) (C := C3) (ι := ι3) rfl (by simp [opV, ev, put, upd, loadV, hM, R.sz55, partV, hc]) t3 m3 F3 (fun t e => by rw [Act.put_size, sz2]; exact lt rfl (by decide) t e) ?_
  intro c4 w4 ι4 C4 v4 t4 m4 s4
  -- what the map is
  have hstp : Stp s ι C M w ι4 C4 M w4 := (((s1.weaken (List.suffix_cons _ _)).trans (s2.weaken (List.suffix_cons _ _))).trans (s3.weaken (List.suffix_cons _ _))).trans (s4.weaken (List.suffix_cons _ _))
  obtain ⟨a4, ha4⟩ : ∃ a4, (((a.put (some 18) c1).put (some 19) c2).put (some 20) c3).put (some 21) c4 = a4 := ⟨_, rfl⟩
  have hsz4 : a4.tmps.size = a.tmps.size := by rw [← ha4, Act.put_size, Act.put_size, Act.put_size, Act.put_size]
  have hd4 : a4.defers = [] := by rw [← ha4]; exact hd
  have ht4 : ∀ t, ¬ (18 ≤ t ∧ t ≤ 31) → a4.tmps.getD t undef = a.tmps.getD t undef := fun t q => by
    rw [← ha4, get_put _ _ _ _ (by rw [Act.put_size, sz2]; omega), if_neg (by omega), get_put _ _ _ _ (by rw [sz2]; omega), if_neg (by omega), get_put _ _ _ _ (by rw [sz1]; omega), if_neg (by omega), get_put _ _ _ _ (by omega), if_neg (by omega)]
  have ht21 : a4.tmps.getD 21 undef = c4 := by rw [← ha4, get_put _ _ _ _ (by rw [Act.put_size, sz2]; omega), if_pos rfl]
  show wpList _ _ _ _ ((((a.put (some 18) c1).put (some 19) c2).put (some 20) c3).put (some 21) c4) w4
  rw [ha4]
  obtain ⟨it, hrg, hnx⟩ : ∃ it : Obj, (Instr.range 55 c4).run Tryz.prog w4 = .ok (.pointer (some ⟨w4.heap.size, 0, none⟩)) (w4.alloc it) ∧
      ∀ ty, (Instr.next (.pointer (some ⟨w4.heap.size, 0, none⟩)) false ty).run Tryz.prog (w4.alloc it) = .ok (.tuple #[.bool false]) (w4.alloc it) := by
    unfold entriesV at hent
    split at hent
    · cases v4
      exact ⟨_, run_range_nilMap (P := Tryz.prog) w4 55 3 106 Tryz.underlying55, fun ty => run_next_nilMap _ ty 0 0 #[]⟩
    · rename_i j
      split at hent
      · rename_i es hMj
        simp only [Option.some.injEq] at hent
        subst hent
        cases v4 with
        | mapr _ pl r hij h2 =>
          obtain ⟨b, o, rm, rfl, hO⟩ := m4.obj j pl _ hij hMj
          obtain rfl := h2 b o rm rfl
          cases hO with
          | map _ _ _ _ ces k hb _ hl _ =>
            have hce : ces = #[] := Array.eq_empty_of_size_eq_zero (by simpa using hl.symm)
            subst hce
            refine ⟨_, run_range_map (P := Tryz.prog) w4 55 3 106 r #[] k Tryz.underlying55 hb, fun ty => ?_⟩
            rcases run_next_map (P := Tryz.prog) w4 ty r k k #[] #[] k hb (fun x hx => by simp at hx) (Nat.le_refl _) with ⟨_, q⟩ | ⟨e, he, _⟩
            · exact q
            · simp [leftOf] at he
      · cases hent
    · cases hent
  refine wpl_run (c := .pointer (some ⟨w4.heap.size, 0, none⟩)) (w' := w4.alloc it) rfl (by simp [execOp, Act.eval, ht21, hrg]) ?_
  obtain ⟨a5, ha5⟩ : ∃ a5, a4.put (some 22) (.pointer (some ⟨w4.heap.size, 0, none⟩)) = a5 := ⟨_, rfl⟩
  show wpList _ _ _ _ (a4.put (some 22) _) _
  rw [ha5]
  have hsz5 : a5.tmps.size = a.tmps.size := by rw [← ha5, Act.put_size, hsz4]
  have ht22 : a5.tmps.getD 22 undef = .pointer (some ⟨w4.heap.size, 0, none⟩) := by rw [← ha5, get_put _ _ _ _ (by omega), if_pos rfl]
  have ht5 : ∀ t, ¬ (18 ≤ t ∧ t ≤ 31) → a5.tmps.getD t undef = a.tmps.getD t undef := fun t q => by rw [← ha5, get_put _ _ _ _ (by omega), if_neg (by omega), ht4 t q]
  have hd5 : a5.defers = [] := by rw [← ha5]; exact hd4
  show Code.wp _ _ _ a5 _
  refine wp_block ?_
  refine wp_loop_once ?_
  refine wp_seq ?_
  refine wp_region_list ?_
  refine wpl_run (c := .tuple #[.bool false]) (w' := w4.alloc it) rfl (by simp [execOp, Act.eval, ht22, hnx]) ?_
  obtain ⟨a6, ha6⟩ : ∃ a6, a5.put (some 23) (.tuple #[.bool false]) = a6 := ⟨_, rfl⟩
  show wpList _ _ _ _ (a5.put (some 23) _) _
  rw [ha6]
  have ht23 : a6.tmps.getD 23 undef = .tuple #[.bool false] := by rw [← ha6, get_put _ _ _ _ (by omega), if_pos rfl]
  have hsz6 : a6.tmps.size = a.tmps.size := by rw [← ha6, Act.put_size, hsz5]
  refine wpl_run (c := .bool false) (w' := w4.alloc it) rfl (by simp [execOp, Act.eval, ht23]; rfl) ?_
  obtain ⟨a7, ha7⟩ : ∃ a7, a6.put (some 24) (.bool false) = a7 := ⟨_, rfl⟩
  show wpList _ _ _ _ (a6.put (some 24) _) _
  rw [ha7]
  have ht24 : a7.tmps.getD 24 undef = .bool false := by rw [← ha7, get_put _ _ _ _ (by omega), if_pos rfl]
  have hsz7 : a7.tmps.size = a.tmps.size := by rw [← ha7, Act.put_size, hsz6]
  have ht7 : ∀ t, ¬ (18 ≤ t ∧ t ≤ 31) → a7.tmps.getD t undef = a.tmps.getD t undef := fun t q => by
    rw [← ha7, get_put _ _ _ _ (by omega), if_neg (by omega), ← ha6, get_put _ _ _ _ (by omega), if_neg (by omega), ht5 t q]
  have hd7 : a7.defers = [] := by rw [← ha7, ← ha6]; exact hd5
  show Code.wp _ _ _ a7 _
  refine wp_seq ?_
  refine wp_cond (t := false) ht24 ?_
  refine wp_exit ?_
  simp only [Exit.then, Exit.inBlock, if_true]
  obtain ⟨g1, g2⟩ := m4.grow #[it] (w' := w4.alloc it) rfl rfl rfl rfl s
  refine hQ a7 (w4.alloc it) ι4 C4 ?_ g1 (hstp.trans g2) hd7 hsz7
  intro t
  show VR ι4 C4 (if t = 3 ∨ t = 4 ∨ (18 ≤ t ∧ t ≤ 31) then .bad else f t) _
  by_cases q : t = 3 ∨ t = 4 ∨ (18 ≤ t ∧ t ≤ 31)
  · rw [if_pos q]; exact .bad _
  · rw [if_neg q, ht7 t (fun q' => q (.inr (.inr q')))]
    exact (ht t).mono hstp.dom hstp.fro
end Go.Ab
