/- What is handed in: numbers, lists of them, snapshots, entries. Conditions: none. -/
import Derived.Test.YtpohfmcpfkbabaaGreatAbTop
import Derived.Test.YtpohfmcpfkbabaaGreatGa
import Derived.Test.YtpohfmcpfkbabaaGreatGc
import Derived.OpenShut
import Derived.Test.YtpohfmcpfkbabaaGreatRows
import Derived.WalkKit
import Derived.ProofKit
set_option linter.unusedSimpArgs false
set_option linter.unusedVariables false
set_option maxRecDepth 100000
namespace Go.Ab
open Go.Proofs Go.RowKit

section
variable {H : Type} {enc : TypeId × Value → H} {w : World} {base : Nat}

theorem field_of {P : Program} {fuel : Nat} {t : TypeId} {fs : Array Field} {cs : List Value} {x : DataW H × List MemPlace} (ht : P.underlying t = some (.struct fs)) (h : DataW.trod enc P w base (fun _ => true) true fuel t cs = some x) :
    cs.length = P.cellsOf t ∧ ∀ (i : Nat) (f : Field), fs[i]? = some f → ∃ n y, DataW.trod enc P w base (fun _ => true) true n f.type ((cs.drop f.offset).take (P.cellsOf f.type)) = some y := by
  obtain ⟨xs, n, _, _, hl, hs, hf⟩ := DataW.trod_struct ht h
  refine ⟨hl, fun i f hi => ⟨n, ?_⟩⟩
  have hlt : i < xs.length := by
    rw [hs]
    exact (Array.getElem?_eq_some_iff.1 hi).1
  exact ⟨xs[i], by rw [hf i f hi, List.getElem?_eq_getElem hlt]⟩
theorem elem_of {P : Program} {fuel k : Nat} {t e : TypeId} {cs : List Value} {x : DataW H × List MemPlace} (ht : P.underlying t = some (.array k e)) (h : DataW.trod enc P w base (fun _ => true) true fuel t cs = some x) :
    cs.length = P.cellsOf t ∧ ∀ i, i < k → ∃ n y, DataW.trod enc P w base (fun _ => true) true n e ((cs.drop (i * P.cellsOf e)).take (P.cellsOf e)) = some y := by
  obtain ⟨xs, n, _, _, hl, hs, hf⟩ := DataW.trod_array ht h
  refine ⟨hl, fun i hi => ⟨n, xs[i]'(by omega), ?_⟩⟩
  rw [hf i hi, List.getElem?_eq_getElem (by omega)]

theorem int_of {fuel : Nat} {c : Value} {x : DataW H × List MemPlace} (h : DataW.trod enc Tryz.prog w base (fun _ => true) true fuel 3 [c] = some x) : ∃ n, c = .int .i64 n := by
  obtain ⟨n, hc, _⟩ := DataW.trod_int Tryz.underlying3 h
  simp only [List.cons.injEq, and_true] at hc
  exact ⟨n, hc⟩

theorem slice_len {fuel : Nat} {t e : TypeId} {c : Value} {x : DataW H × List MemPlace} (ht : Tryz.prog.underlying t = some (.slice e)) (h : DataW.trod enc Tryz.prog w base (fun _ => true) true fuel t [c] = some x) {a : Option Addr} {len cap : Nat} (hc : c = .slice a len cap) : len < 2 ^ 63 := by
  rcases DataW.trod_slice ht h with ⟨h1, _⟩ | ⟨a', len', cap', elems, rest, n, _, hcs, _, _, hl, hm, _⟩
  · simp only [hc, List.cons.injEq, and_true] at h1; cases h1; decide
  · simp only [hc, List.cons.injEq, and_true] at hcs; cases hcs
    have : maxLen = 2 ^ 63 - 1 := rfl
    omega

theorem ints_of {fuel : Nat} {c : Value} {x : DataW H × List MemPlace} (h : DataW.trod enc Tryz.prog w base (fun _ => true) true fuel 30 [c] = some x) : ∃ o : Option (List Int), VR ι0 (C0 w) (R.intsV o) c ∧ (R.intsL o).length < 2 ^ 63 := by
  rcases vr_slice (k := 1) Tryz.underlying30 (by kernel_rfl) (by decide) h with h1 | ⟨a, h1⟩ | ⟨b, o, len, cap, g, h1, hl, hg, hy⟩
  · simp only [List.cons.injEq, and_true] at h1; subst h1; exact ⟨none, .nils, by decide⟩
  · simp only [List.cons.injEq, and_true] at h1; subst h1; exact ⟨some [], .psl0 false a, by decide⟩
  · simp only [List.cons.injEq, and_true] at h1
    have hlen := slice_len Tryz.underlying30 h h1
    subst h1
    have hb : ∀ i, i < len → ∃ q : Int, g i = .int .i64 q := fun i hi => by
      obtain ⟨n, y, hy⟩ := hy i hi
      simp only [List.range_succ, List.range_zero, List.nil_append, List.map_cons, List.map_nil, Nat.mul_one, Nat.add_zero] at hy
      exact int_of hy
    let it : Nat → Int := fun i => if hi : i < len then (hb i hi).choose else 0
    have hit : ∀ i, i < len → g i = .int .i64 (it i) := fun i hi => by
      simp only [it, dif_pos hi]; exact (hb i hi).choose_spec
    refine ⟨some ((List.range len).map it), ?_, by simpa [R.intsL] using hlen⟩
    simp only [R.intsV, List.length_map, List.length_range]
    refine .psl _ _ _ b o cap g hl (by simp) ?_ ?_ ?_
    · intro j hj
      simp only [List.getElem_map, R.intV]; rfl
    · intro j hj
      simp only [List.length_map, List.length_range] at hj
      exact hg j (by omega)
    · intro j hj
      simp only [List.length_map, List.length_range] at hj
      simp only [List.getElem_map, List.getElem_range, R.intV]
      rw [hit j hj]; exact .int _ _

theorem bytes_of {fuel : Nat} {c : Value} {x : DataW H × List MemPlace} (h : DataW.trod enc Tryz.prog w base (fun _ => true) true fuel 33 [c] = some x) : ∃ o : Option (List UInt8), VR ι0 (C0 w) (R.dataV o) c := by
  rcases vr_slice (k := 1) Tryz.underlying33 (by kernel_rfl) (by decide) h with h1 | ⟨a, h1⟩ | ⟨b, o, len, cap, g, h1, hl, hg, hy⟩
  · simp only [List.cons.injEq, and_true] at h1; subst h1; exact ⟨none, .nils⟩
  · simp only [List.cons.injEq, and_true] at h1; subst h1; exact ⟨some [], .psl0 false a⟩
  · simp only [List.cons.injEq, and_true] at h1; subst h1
    have hb : ∀ i, i < len → ∃ q : UInt8, g i = .int .u8 q.toNat := fun i hi => by
      obtain ⟨n, y, hy⟩ := hy i hi
      simp only [List.range_succ, List.range_zero, List.nil_append, List.map_cons, List.map_nil, Nat.mul_one, Nat.add_zero] at hy
      exact u8_of hy
    let byte : Nat → UInt8 := fun i => if hi : i < len then (hb i hi).choose else 0
    have hbyte : ∀ i, i < len → g i = .int .u8 (byte i).toNat := fun i hi => by
      simp only [byte, dif_pos hi]; exact (hb i hi).choose_spec
    refine ⟨some ((List.range len).map byte), ?_⟩
    simp only [R.dataV, List.length_map, List.length_range]
    refine .psl _ _ _ b o cap g hl (by simp) ?_ ?_ ?_
    · intro j hj
      simp only [List.getElem_map, R.byteV]; rfl
    · intro j hj
      simp only [List.length_map, List.length_range] at hj
      exact hg j (by omega)
    · intro j hj
      simp only [List.length_map, List.length_range] at hj
      simp only [List.getElem_map, List.getElem_range, R.byteV]
      rw [hbyte j hj]; exact .int _ _

theorem LR_cons {ι C} {x : V} {l : List V} {c : Value} {cs : List Value} (h : VR ι C x c) (h2 : LR ι C l cs.toArray) : LR ι C (x :: l) (c :: cs).toArray := by
  refine ⟨by have := h2.1; simp at this ⊢; omega, fun j p q => ?_⟩
  cases j with
  | zero => exact h
  | succ j =>
    simp only [List.length_cons, List.size_toArray] at p q
    have := h2.2 j (by omega) (by simp; omega)
    simpa using this
theorem LR_nil {ι C} : LR ι C [] ([] : List Value).toArray := ⟨rfl, fun j p => absurd p (by simp)⟩
theorem LR_app {ι C} {l l2 : List V} {cs cs2 : List Value} (h : LR ι C l cs.toArray) (h2 : LR ι C l2 cs2.toArray) : LR ι C (l ++ l2) (cs ++ cs2).toArray := by
  have := LR.append h h2
  simpa using this

/-- a struct's cells -/
theorem cells4 {cs : List Value} (h : cs.length = 4) : ∃ a b c d, cs = [a, b, c, d] := by
  match cs, h with
  | [a, b, c, d], _ => exact ⟨a, b, c, d, rfl⟩
theorem ent_of {fuel : Nat} {cs : List Value} {x : DataW H × List MemPlace} (h : DataW.trod enc Tryz.prog w base (fun _ => true) true fuel 52 cs = some x) : ∃ e : R.Ent, LR ι0 (C0 w) e.cells cs.toArray := by
  obtain ⟨hl, hf⟩ := field_of Tryz.underlying52 h
  obtain ⟨a, b, c, d, rfl⟩ := cells4 (hl.trans (by kernel_rfl))
  obtain ⟨_, _, h0⟩ := hf 0 _ rfl
  obtain ⟨_, _, h1⟩ := hf 1 _ rfl
  obtain ⟨_, _, h2⟩ := hf 2 _ rfl
  obtain ⟨_, _, h3⟩ := hf 3 _ rfl
  obtain ⟨n0, rfl⟩ := int_of h0
  obtain ⟨n1, rfl⟩ := int_of h1
  obtain ⟨n2, rfl⟩ := int_of h2
  obtain ⟨o, ho⟩ := bytes_of h3
  exact ⟨⟨n0, n1, n2, o⟩, LR_cons (.int _ _) (LR_cons (.int _ _) (LR_cons (.int _ _) (LR_cons ho LR_nil)))⟩

theorem ents_of {fuel : Nat} {c : Value} {x : DataW H × List MemPlace} (h : DataW.trod enc Tryz.prog w base (fun _ => true) true fuel 46 [c] = some x) : ∃ v l, VR ι0 (C0 w) v c ∧ ∀ M, R.EntsV M v l := by
  rcases vr_slice (k := 4) Tryz.underlying46 (by kernel_rfl) (by decide) h with h1 | ⟨a, h1⟩ | ⟨b, o, len, cap, g, h1, hl, hg, hy⟩
  · simp only [List.cons.injEq, and_true] at h1; subst h1; exact ⟨_, [], .nils, fun _ => .nils⟩
  · simp only [List.cons.injEq, and_true] at h1; subst h1; exact ⟨_, [], .psl0 false a, fun _ => .psl [] false⟩
  · simp only [List.cons.injEq, and_true] at h1
    subst h1
    have hb : ∀ i, i < len → ∃ e : R.Ent, LR ι0 (C0 w) e.cells [g (i * 4), g (i * 4 + 1), g (i * 4 + 2), g (i * 4 + 3)].toArray := fun i hi => by
      obtain ⟨n, y, hy⟩ := hy i hi
      simp only [List.range_succ, List.range_zero, List.nil_append, List.map_cons, List.map_nil, Nat.add_zero, List.cons_append, List.map_append] at hy
      exact ent_of hy
    let it : Nat → R.Ent := fun i => if hi : i < len then (hb i hi).choose else ⟨0, 0, 0, none⟩
    have hit : ∀ i, i < len → LR ι0 (C0 w) (it i).cells [g (i * 4), g (i * 4 + 1), g (i * 4 + 2), g (i * 4 + 3)].toArray := fun i hi => by
      simp only [it, dif_pos hi]; exact (hb i hi).choose_spec
    have hlr : ∀ k, k ≤ len → LR ι0 (C0 w) (R.flatE ((List.range k).map it)) ((List.range (k * 4)).map g).toArray := by
      intro k
      induction k with
      | zero => intro _; exact LR_nil
      | succ k ih =>
        intro hk
        have h1 := LR_app (ih (by omega)) (hit k (by omega))
        have e1 : R.flatE ((List.range (k + 1)).map it) = R.flatE ((List.range k).map it) ++ (it k).cells := by
          rw [List.range_succ, List.map_append, R.flatE_append]
          simp [R.flatE]
        have e2 : (List.range ((k + 1) * 4)).map g = (List.range (k * 4)).map g ++ [g (k * 4), g (k * 4 + 1), g (k * 4 + 2), g (k * 4 + 3)] := by
          rw [show (k + 1) * 4 = k * 4 + 1 + 1 + 1 + 1 by omega]
          simp only [List.range_succ, List.map_append, List.map_cons, List.map_nil, List.append_assoc, List.cons_append, List.nil_append]
        rw [e1, e2]
        exact h1
    have hll := hlr len (Nat.le_refl _)
    have hfl : (R.flatE ((List.range len).map it)).length = len * 4 := by rw [R.flatE_len]; simp
    refine ⟨.psl (R.flatE ((List.range len).map it)) ((List.range len).map it).length false, (List.range len).map it, ?_, fun _ => .psl _ _⟩
    simp only [List.length_map, List.length_range]
    refine .psl _ _ _ b o cap g hl (by simp) ?_ ?_ ?_
    · intro j hj
      exact (List.all_eq_true.1 (R.flatE_all _)) _ (List.getElem_mem _)
    · intro j hj
      exact hg j (by omega)
    · intro j hj
      have := hll.2 j hj (by simp; omega)
      simpa using this

/-- a snapshot's cells -/
theorem cells5 {cs : List Value} (h : cs.length = 5) : ∃ a b c d e, cs = [a, b, c, d, e] := by
  match cs, h with
  | [a, b, c, d, e], _ => exact ⟨a, b, c, d, e, rfl⟩
theorem snap_of {fuel : Nat} {cs : List Value} {x : DataW H × List MemPlace} (h : DataW.trod enc Tryz.prog w base (fun _ => true) true fuel 35 cs = some x) : ∃ sn : R.Snp, LR ι0 (C0 w) sn.cs cs.toArray ∧ (R.intsL sn.vs).length < 2 ^ 63 ∧ (R.intsL sn.ls).length < 2 ^ 63 := by
  obtain ⟨hl, hf⟩ := field_of Tryz.underlying35 h
  obtain ⟨a, b, c, d, e, rfl⟩ := cells5 (hl.trans (by kernel_rfl))
  obtain ⟨_, _, h0⟩ := hf 0 _ rfl
  obtain ⟨_, _, h1⟩ := hf 1 _ rfl
  obtain ⟨_, _, h2⟩ := hf 2 _ rfl
  obtain ⟨_, _, h3⟩ := hf 3 _ rfl
  obtain ⟨n0, rfl⟩ := int_of h0
  obtain ⟨n1, rfl⟩ := int_of h1
  obtain ⟨_, hg⟩ := field_of Tryz.underlying32 h2
  obtain ⟨_, _, g0⟩ := hg 0 _ rfl
  obtain ⟨_, _, g1⟩ := hg 1 _ rfl
  obtain ⟨o1, ho1, hs1⟩ := ints_of g0
  obtain ⟨o2, ho2, hs2⟩ := ints_of g1
  obtain ⟨o, ho⟩ := bytes_of h3
  exact ⟨⟨n0, n1, o1, o2, o⟩, LR_cons (.int _ _) (LR_cons (.int _ _) (LR_cons ho1 (LR_cons ho2 (LR_cons ho LR_nil)))), hs1, hs2⟩

/-- what was handed in reads as it did -/
theorem stays_all {w' : World} (hold : ∀ b, b < w.heap.size → w'.heap[b]? = w.heap[b]?) : ∀ {ts : List TypeId} {vs : List Value} {ds : List (DataW H)} {p : List MemPlace}, (∀ t ∈ ts, t < Tryz.prog.types.size ∧ Tryz.prog.readableRec t = true) → DataW.TrodAll enc Tryz.prog w 0 (fun _ => true) true ts vs ds p →
    DataW.TrodAll enc Tryz.prog w' 0 (fun b => decide (b < w.heap.size)) true ts vs ds p
  | [], vs, ds, p, _, h => by
    obtain ⟨rfl, rfl, rfl⟩ := ChangeShapes.trodAll_nil h
    exact ChangeShapes.trodAll_mk0
  | t :: ts, vs, ds, p, ht, h => by
    obtain ⟨v, vs1, d, ds1, a, b, rfl, rfl, rfl, h1, h2⟩ := ChangeShapes.trodAll_cons h
    refine ⟨a, b, ?_, stays_all hold (fun t' ht' => ht t' (List.mem_cons_of_mem _ ht')) h2, rfl⟩
    obtain ⟨n, hn⟩ := h1
    have hlt := DataW.trod_lt n t v.cells.toList _ hn
    refine ⟨n, DataW.trod_stays (kids_book (by kernel_rfl) (ht t (List.mem_cons_self ..)).2) (book_sized (ht t (List.mem_cons_self ..)).2) (fun h => by cases h) ⟨(ht t (List.mem_cons_self ..)).1, book_self t⟩ hn ?_ ?_⟩
    · intro p hp
      have := hlt p hp
      cases p with
      | cell b off => simp only [World.sameAt, World.cell?, hold b this]
      | map b => exact hold b this
    · intro p hp
      simpa using hlt p hp
end

/-- the specification's end, where nothing that lay before has turned -/
theorem post_law {H : Type} {enc : TypeId × Value → H} {f : Func} {s : ChangeSpec} {W W' : World} {args : Array Value} {ds : List (DataW H)} {before : List MemPlace}
    (hW : DataW.Whole enc Tryz.prog f.params.toList s.vars false W args.toList ds [] before) (hv : s.vars = []) (hres : f.resultTypes = #[4]) (hfn : s.fn H (ds ++ []) = { results := [.lit (.bool true)], args := ds })
    (hold : ∀ b, b < W.heap.size → W'.heap[b]? = W.heap[b]?) (hos : W'.os = W.os) (hout : W'.output = W.output) (hts : ∀ t ∈ f.params.toList, t < Tryz.prog.types.size ∧ Tryz.prog.readableRec t = true) :
    s.post enc Tryz.prog f false true false false W args (.bool true) W' := by
  have hW' := hW
  obtain ⟨p, q, hA, hV, rfl, hfz, hnd⟩ := hW
  rw [hv] at hV
  obtain ⟨_, rfl⟩ := ChangeShapes.trodVars_none hV
  refine ⟨ds, [], p ++ [], [], p, [], hW', ?_, ?_, ?_, ?_, fun h => by cases h⟩
  · rw [hres, hfn]
    exact trodAll_cons_mk (shut_bool Tryz.underlying4 _) ChangeShapes.trodAll_mk0
  · rw [hfn]
    exact stays_all hold hts hA
  · rw [hfn, hv]
    exact rfl
  · refine ⟨hos, hout, fun i hi => ?_⟩
    rw [hold i hi]
    cases W.heap[i]? with
    | none => rfl
    | some o => cases o <;> first | exact ⟨rfl, rfl, rfl, fun _ _ => rfl⟩ | exact .inr ⟨rfl, rfl⟩ | rfl
end Go.Ab
