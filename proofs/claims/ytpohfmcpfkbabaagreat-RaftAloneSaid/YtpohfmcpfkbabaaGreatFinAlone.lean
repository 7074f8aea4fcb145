/- RaftAlone: for every input it returns true; the input reads as it did. Conditions: none. -/
import Derived.Test.YtpohfmcpfkbabaaGreatAbTop
import Derived.Test.YtpohfmcpfkbabaaGreatAn
import Derived.Test.YtpohfmcpfkbabaaGreatRows
import Derived.WalkKit
import Derived.ProofKit
import Derived.OpenShut
set_option linter.unusedSimpArgs false
set_option linter.unusedVariables false
set_option maxRecDepth 100000
namespace Go.Ab
open Go.Proofs Go.RowKit

section
variable {H : Type} {enc : TypeId × Value → H} {w : World} {base : Nat}

theorem bytes_of {fuel : Nat} {c : Value} {x : DataW H × List MemPlace} (h : DataW.trod enc Tryz.prog w base (fun _ => true) true fuel 33 [c] = some x) : ∃ o : Option (List UInt8), VR ι0 (C0 w) (R.dataV o) c := by
  rcases vr_slice (k := 1) Tryz.underlying33 (by kernel_rfl) (by decide) h with h1 | ⟨a, h1⟩ | ⟨b, o, len, cap, g, h1, hl, hg, hy⟩
  · simp only [List.cons.injEq, and_true] at h1; subst h1; exact ⟨none, .nils⟩
  · simp only [List.cons.injEq, and_true] at h1; subst h1; exact ⟨some [], .psl0 false a⟩
  · simp only [List.cons.injEq, and_true] at h1; subst h1
    have hb : ∀ i, i < len → ∃ q : UInt8, g i = .int .u8 q.toNat := fun i hi => by
      obtain ⟨n, y, hy⟩ := hy i hi
      simp only [List.range_succ, List.range_zero, List.nil_append, List.map_cons, List.map_nil, Nat.mul_one, Nat.add_zero] at hy
      exact u8_of hy
    let byte : Nat → UInt8 := fun i => if hi : i < len then (hb i hi).choose else 0
    have hbyte : ∀ i, i < len → g i = .int .u8 (byte i).toNat := fun i hi => by
      simp only [byte, dif_pos hi]; exact (hb i hi).choose_spec
    refine ⟨some ((List.range len).map byte), ?_⟩
    simp only [R.dataV, List.length_map, List.length_range]
    refine .psl _ _ _ b o cap g hl (by simp) ?_ ?_ ?_
    · intro j hj
      simp only [List.getElem_map, R.byteV]; rfl
    · intro j hj
      simp only [List.length_map, List.length_range] at hj
      exact hg j (by omega)
    · intro j hj
      simp only [List.length_map, List.length_range] at hj
      simp only [List.getElem_map, List.getElem_range, R.byteV]
      rw [hbyte j hj]; exact .int _ _

theorem rdB_psl (ls : List (Option (List UInt8))) (b : Bool) : R.RdB (.psl (ls.map R.dataV) ls.length b) ls := by
  refine ⟨fun M' => by simp only [R.kd22, ln_psl], fun j hj => ⟨.pptr ((ls.map R.dataV).drop j), ?_, fun M' => ?_⟩⟩
  · have : (0 : Int) ≤ (j : Int) ∧ (j : Int) < (ls.length : Int) := by omega
    simp only [R.kd22, ix_psl, this, and_self, if_true, Int.toNat_natCast, Nat.mul_one]
  · simp [ld_pptr, R.sz33, partV, hj]
theorem rdB_nil : R.RdB .nils [] := ⟨fun M' => by simp only [R.kd22, ln_nils]; rfl, fun j hj => absurd hj (by simp)⟩

theorem lists_of {fuel : Nat} {c : Value} {x : DataW H × List MemPlace} (h : DataW.trod enc Tryz.prog w base (fun _ => true) true fuel 22 [c] = some x) : ∃ v ls, VR ι0 (C0 w) v c ∧ R.RdB v ls := by
  rcases vr_slice (k := 1) Tryz.underlying22 (by kernel_rfl) (by decide) h with h1 | ⟨a, h1⟩ | ⟨b, o, len, cap, g, h1, hl, hg, hy⟩
  · simp only [List.cons.injEq, and_true] at h1; subst h1; exact ⟨_, [], .nils, rdB_nil⟩
  · simp only [List.cons.injEq, and_true] at h1; subst h1; exact ⟨_, [], .psl0 false a, rdB_psl [] false⟩
  · simp only [List.cons.injEq, and_true] at h1; subst h1
    have hb : ∀ i, i < len → ∃ q : Option (List UInt8), VR ι0 (C0 w) (R.dataV q) (g i) := fun i hi => by
      obtain ⟨n, y, hy⟩ := hy i hi
      simp only [List.range_succ, List.range_zero, List.nil_append, List.map_cons, List.map_nil, Nat.mul_one, Nat.add_zero] at hy
      exact bytes_of hy
    let it : Nat → Option (List UInt8) := fun i => if hi : i < len then (hb i hi).choose else none
    have hit : ∀ i, i < len → VR ι0 (C0 w) (R.dataV (it i)) (g i) := fun i hi => by
      simp only [it, dif_pos hi]; exact (hb i hi).choose_spec
    refine ⟨.psl (((List.range len).map it).map R.dataV) ((List.range len).map it).length false, (List.range len).map it, ?_, rdB_psl _ _⟩
    simp only [List.length_map, List.length_range]
    refine .psl _ _ _ b o cap g hl (by simp) ?_ ?_ ?_
    · intro j hj
      simp only [List.getElem_map]
      exact R.one_data _
    · intro j hj
      simp only [List.length_map, List.length_range] at hj
      exact hg j (by omega)
    · intro j hj
      simp only [List.length_map, List.length_range] at hj
      simp only [List.getElem_map, List.getElem_range]
      exact hit j hj

/-- what was handed in reads as it did -/
theorem stays_all {w' : World} (hold : ∀ b, b < w.heap.size → w'.heap[b]? = w.heap[b]?) : ∀ {ts : List TypeId} {vs : List Value} {ds : List (DataW H)} {p : List MemPlace}, (∀ t ∈ ts, t < Tryz.prog.types.size ∧ Tryz.prog.readableRec t = true) → DataW.TrodAll enc Tryz.prog w 0 (fun _ => true) true ts vs ds p →
    DataW.TrodAll enc Tryz.prog w' 0 (fun b => decide (b < w.heap.size)) true ts vs ds p
  | [], vs, ds, p, _, h => by
    obtain ⟨rfl, rfl, rfl⟩ := ChangeShapes.trodAll_nil h
    exact ChangeShapes.trodAll_mk0
  | t :: ts, vs, ds, p, ht, h => by
    obtain ⟨v, vs1, d, ds1, a, b, rfl, rfl, rfl, h1, h2⟩ := ChangeShapes.trodAll_cons h
    refine ⟨a, b, ?_, stays_all hold (fun t' ht' => ht t' (List.mem_cons_of_mem _ ht')) h2, rfl⟩
    obtain ⟨n, hn⟩ := h1
    have hlt := DataW.trod_lt n t v.cells.toList _ hn
    refine ⟨n, DataW.trod_stays (kids_book (by kernel_rfl) (ht t (List.mem_cons_self ..)).2) (book_sized (ht t (List.mem_cons_self ..)).2) (fun h => by cases h) ⟨(ht t (List.mem_cons_self ..)).1, book_self t⟩ hn ?_ ?_⟩
    · intro p hp
      have := hlt p hp
      cases p with
      | cell b off => simp only [World.sameAt, World.cell?, hold b this]
      | map b => exact hold b this
    · intro p hp
      simpa using hlt p hp
end

/-- the specification's end, where nothing that lay before has turned -/
theorem post_law {H : Type} {enc : TypeId × Value → H} {f : Func} {s : ChangeSpec} {W W' : World} {args : Array Value} {ds : List (DataW H)} {before : List MemPlace}
    (hW : DataW.Whole enc Tryz.prog f.params.toList s.vars false W args.toList ds [] before) (hv : s.vars = []) (hres : f.resultTypes = #[4]) (hfn : s.fn H (ds ++ []) = { results := [.lit (.bool true)], args := ds })
    (hold : ∀ b, b < W.heap.size → W'.heap[b]? = W.heap[b]?) (hos : W'.os = W.os) (hout : W'.output = W.output) (hts : ∀ t ∈ f.params.toList, t < Tryz.prog.types.size ∧ Tryz.prog.readableRec t = true) :
    s.post enc Tryz.prog f false true false false W args (.bool true) W' := by
  have hW' := hW
  obtain ⟨p, q, hA, hV, rfl, hfz, hnd⟩ := hW
  rw [hv] at hV
  obtain ⟨_, rfl⟩ := ChangeShapes.trodVars_none hV
  refine ⟨ds, [], p ++ [], [], p, [], hW', ?_, ?_, ?_, ?_, fun h => by cases h⟩
  · rw [hres, hfn]
    exact trodAll_cons_mk (shut_bool Tryz.underlying4 _) ChangeShapes.trodAll_mk0
  · rw [hfn]
    exact stays_all hold hts hA
  · rw [hfn, hv]
    exact rfl
  · refine ⟨hos, hout, fun i hi => ?_⟩
    rw [hold i hi]
    cases W.heap[i]? with
    | none => rfl
    | some o => cases o <;> first | exact ⟨rfl, rfl, rfl, fun _ _ => rfl⟩ | exact .inr ⟨rfl, rfl⟩ | rfl
end Go.Ab

namespace Go.Proofs.YtpohfmcpfkbabaaGreat.raftAlone
open Go.ChangeShapes Go.WideShapes Go.ChangeAt Go.RowKit Go.Ab

theorem own : ownKnob Tryz.prog.godebug = none := by kernel_rfl

theorem contract (H : Type) (enc : TypeId × Value → H) (W : World) (base : Nat) (args : Array Value) (ds gs : List (DataW H)) (before : List MemPlace)
    (hval : ∀ (j : Nat) t v, Tryz.f3.params[j]? = some t → args[j]? = some v → Value.okWide Tryz.prog W .any base t v)
    (hW : DataW.Whole enc Tryz.prog Tryz.f3.params.toList Rows.raftAloneSpec.vars false W args.toList ds gs before) :
    Calls Tryz.prog 3 args W fun e W' => ∃ v, e = .returned v ∧ Rows.raftAloneSpec.post enc Tryz.prog Tryz.f3 false true false false W args v W' := by
  have hW' := hW
  obtain ⟨p, q, hA0, hV, rfl, hfz, hnd⟩ := hW
  have hA : DataW.TrodAll enc Tryz.prog W 0 (fun _ => true) true Tryz.f3.params.toList args.toList ds p := hA0
  rw [Tryz.params3] at hA hval
  obtain ⟨v0, vs0, d0, ds0, p0, q0, hargs, rfl, rfl, h0, r0⟩ := trodAll_cons hA
  obtain ⟨v1, vs1, d1, ds1, p1, q1, rfl, rfl, rfl, h1, r1⟩ := trodAll_cons r0
  obtain ⟨rfl, rfl, rfl⟩ := trodAll_nil r1
  obtain rfl : args = #[v0, v1] := by cases args; simp_all
  obtain ⟨rfl, rfl⟩ := trodVars_none hV
  obtain ⟨t, rfl, rfl, rfl, ht⟩ := open_int Tryz.underlying3 (hval 1 3 v1 rfl rfl) h1
  obtain ⟨n, hn⟩ := h0
  have hone : v0.cells.toList = [v0] := by
    have h22 := hval 0 22 v0 rfl rfl
    simp only [Value.okWide, Tryz.underlying22, Cell.okWide, Cell.ok] at h22
    cases v0 <;> first | rfl | exact absurd h22 (by simp)
  rw [hone] at hn
  obtain ⟨V0, ls, hv0, hB⟩ := lists_of hn
  have hlaw := R.alone_law V0 ls t [] (fun _ => none) (fun _ _ => rfl) hB
  refine (law_calls hlaw (cargs := #[v0, .int .i64 t]) (w := W) ⟨rfl, fun j a b => ?_⟩).mono fun e W' ⟨he, hos, hout, hsz, hold⟩ => ?_
  · match j, a with
    | 0, _ => exact hv0
    | 1, _ => exact .int _ _
  · subst he
    exact ⟨_, rfl, post_law hW' rfl rfl rfl hold hos hout (by rw [Tryz.params3]; decide +kernel)⟩

theorem lifted (os : Os) (started : os.Started) (H : Type) (enc : TypeId × Value → H) :
    ReturnsInHanded {} Tryz.checked os 3 .any (Rows.raftAloneSpec.pre6 enc Tryz.prog Tryz.f3 Rows.raftAloneRow.domain false) (Rows.raftAloneSpec.post enc Tryz.prog Tryz.f3 false true false false) := by
  refine returnsInHanded_of_change (C := Tryz.checked) own started (by kernel_rfl) Tryz.func3
    (ChangeSpec.witness6 (enc := enc) (C := Tryz.checked) false ⟨#[], #[.slice none 0 0, .int .i64 0], []⟩ 8 (by kernel_rfl) (by kernel_rfl) (by kernel_rfl) (by kernel_rfl)) ?_
  intro W base args ds gs before hval hW _ _
  exact contract H enc W base args ds gs before hval hW

theorem over : Rows.raftAloneRow.holds Tryz.pinned (OpenSpec.ofChange Rows.raftAloneSpec) :=
  OpenClaim.holds_of_wide 3 Tryz.f3 rfl rfl rfl rfl rfl rfl rfl ⟨rfl, rfl, rfl, rfl, rfl⟩ rfl rfl rfl rfl rfl (by kernel_rfl) Tryz.func3 (by kernel_rfl)
    (of_decide_eq_true (by kernel_rfl)) (by unfold Func.isWrapper; first | (rw [if_pos (by decide +kernel)]; kernel_rfl) | (rw [if_neg (by decide +kernel)]; exact ⟨rfl, rfl⟩))
    (fun os started H enc _ => lifted os started H enc)

theorem proved : Rows.RaftAloneSaid := over
#print axioms proved
end Go.Proofs.YtpohfmcpfkbabaaGreat.raftAlone
