/- From what is handed in to the evaluator's values, and back. Conditions: none. -/
import Derived.Test.YtpohfmcpfkbabaaGreatAbSo
import Derived.ChangeArms
import Derived.ChangeStays
import Derived.ChangeBook
import Derived.DataReads
import Derived.Test.YtpohfmcpfkbabaaGreatEe
import Derived.Test.YtpohfmcpfkbabaaGreatGa
set_option linter.unusedSimpArgs false
set_option linter.unusedVariables false
set_option maxRecDepth 100000
namespace Go.Ab
open Go.Proofs Go.RowKit

def ι0 : Inj := fun _ => none
def C0 (w : World) : Fro := fun b o => w.cell? ⟨b, o, none⟩
theorem MR0 (w : World) : MR ι0 (C0 w) (fun _ => none) w :=
  ⟨fun i b o r h => (by cases h), fun i j b o r o' r' h => (by cases h), fun i pl o h => (by cases h), fun b o x h => ⟨h, fun i o' r h' => (by cases h')⟩⟩

/-- what a call of a law comes to -/
theorem law_calls {f : FuncId} {args : List V} {cargs : Array Value} {w : World} (h : (Fn R.env false f args [] (fun _ => none)).map Prod.fst = some (.bool true)) (ha : LR ι0 (C0 w) args cargs) :
    Calls Tryz.prog f cargs w fun e w' => e = .returned (.bool true) ∧ w'.os = w.os ∧ w'.output = w.output ∧ w.heap.size ≤ w'.heap.size ∧ ∀ b, b < w.heap.size → w'.heap[b]? = w.heap[b]? := by
  simp only [Option.map_eq_some_iff] at h
  obtain ⟨⟨v, M'⟩, h1, rfl⟩ := h
  refine Calls.mono (Fn_sound sound h1 ha (MR0 w) (fun _ _ => rfl) (fun _ _ => rfl)) ?_
  rintro e w' ⟨c, ι', C', rfl, hv, hm, hs⟩
  cases hv
  exact ⟨rfl, hs.os, hs.output, hs.size, fun b hb => hs.frame b hb (fun i o r q => by cases q)⟩

section
variable {H : Type} {enc : TypeId × Value → H} {w : World} {base : Nat}

/-- where a slice's elements lie, and that they read -/
theorem vr_slice {t e : TypeId} {k : Nat} (ht : Tryz.prog.underlying t = some (.slice e)) (hk : Tryz.prog.cellsOf e = k) (hk0 : 0 < k) {fuel : Nat} {cs : List Value} {x : DataW H × List MemPlace}
    (h : DataW.trod enc Tryz.prog w base (fun _ => true) true fuel t cs = some x) :
    cs = [.slice none 0 0] ∨ (∃ a, cs = [.slice (some a) 0 0]) ∨ ∃ b o len cap, ∃ g : Nat → Value, cs = [.slice (some ⟨b, o, none⟩) len cap] ∧ len ≤ cap ∧ (∀ j, j < len * k → w.cell? ⟨b, o + j, none⟩ = some (g j)) ∧
      ∀ i, i < len → ∃ n y, DataW.trod enc Tryz.prog w base (fun _ => true) true n e ((List.range k).map fun j => g (i * k + j)) = some y := by
  rcases DataW.trod_slice ht h with ⟨h1, _⟩ | ⟨a, len, cap, elems, rest, n, _, hcs, _, _, hl, _, hlen, hel, hre, _⟩
  · exact .inl h1
  rw [hk] at hel hre
  by_cases hc : cap = 0
  · have : len = 0 := by omega
    subst hc this
    exact .inr (.inl ⟨a, hcs⟩)
  refine .inr (.inr ?_)
  have hsp : a.spot = none := by
    have key : ∀ y, (w.cells? base a k).bind (DataW.trod enc Tryz.prog w base (fun _ => true) true n e) = some y → a.spot = none := by
      intro y hy
      simp only [Option.bind_eq_some_iff] at hy
      obtain ⟨c1, hc1, _⟩ := hy
      obtain ⟨_, hl1, hc2⟩ := World.cells?_some hc1
      have h0 := hc2 0 hk0
      rw [List.getElem?_eq_getElem (by omega)] at h0
      have := World.cell?_spot h0
      simpa [Addr.add] using this
    by_cases h0 : 0 < len
    · have := hel 0 h0
      rw [List.getElem?_eq_getElem (by omega), Nat.zero_mul] at this
      exact key _ (by simpa [Addr.add] using this)
    · obtain ⟨hr1, hr2⟩ := hre rfl
      have h2 := hr2 0 (by omega)
      have hl0 : len + 0 = 0 := by omega
      rw [List.getElem?_eq_getElem (by omega), hl0, Nat.zero_mul] at h2
      exact key _ (by simpa [Addr.add] using h2)
  obtain ⟨b, o, sp⟩ := a
  simp only at hsp
  subst hsp
  have hcell : ∀ i, i < len → ∃ ci y, ci.length = k ∧ (∀ j, j < k → w.cell? ⟨b, o + (i * k + j), none⟩ = ci[j]?) ∧ DataW.trod enc Tryz.prog w base (fun _ => true) true n e ci = some y := by
    intro i hi
    have := hel i hi
    rw [List.getElem?_eq_getElem (by omega)] at this
    simp only [Option.bind_eq_some_iff] at this
    obtain ⟨ci, hci, hy⟩ := this
    obtain ⟨_, hl1, hc2⟩ := World.cells?_some hci
    refine ⟨ci, _, hl1, fun j hj => ?_, hy⟩
    have := hc2 j hj
    rw [add_plain ⟨b, o, none⟩ rfl, add_plain _ rfl] at this
    simpa [Nat.add_assoc] using this
  refine ⟨b, o, len, cap, fun j => (w.cell? ⟨b, o + j, none⟩).getD undef, hcs, hl, fun j hj => ?_, fun i hi => ?_⟩
  · have hdv : j / k < len := (Nat.div_lt_iff_lt_mul hk0).2 hj
    obtain ⟨ci, y, h1, h2, _⟩ := hcell (j / k) hdv
    have h3 := h2 (j % k) (Nat.mod_lt _ hk0)
    have e1 : j / k * k + j % k = j := by rw [Nat.mul_comm]; exact Nat.div_add_mod j k
    rw [e1, List.getElem?_eq_getElem (by rw [h1]; exact Nat.mod_lt _ hk0)] at h3
    show w.cell? _ = some ((w.cell? ⟨b, o + j, none⟩).getD undef)
    rw [h3]; rfl
  · obtain ⟨ci, y, h1, h2, h3⟩ := hcell i hi
    refine ⟨n, y, ?_⟩
    have : ((List.range k).map fun j => (w.cell? ⟨b, o + (i * k + j), none⟩).getD undef) = ci := by
      apply List.ext_getElem (by simp [h1])
      intro j p q
      simp only [List.length_map, List.length_range] at p
      simp only [List.getElem_map, List.getElem_range, h2 j p]
      rw [List.getElem?_eq_getElem q]; rfl
    rw [this]; exact h3

theorem u8_of {fuel : Nat} {c : Value} {x : DataW H × List MemPlace} (h : DataW.trod enc Tryz.prog w base (fun _ => true) true fuel 5 [c] = some x) : ∃ b : UInt8, c = .int .u8 b.toNat := by
  obtain ⟨n, hc, _, hw⟩ := DataW.trod_int Tryz.underlying5 h
  simp only [List.cons.injEq, and_true] at hc
  subst hc
  simp only [Lit.wf, IntKind.min, IntKind.max, IntKind.signed, IntKind.bits, Bool.and_eq_true, decide_eq_true_eq] at hw
  refine ⟨UInt8.ofNat n.toNat, ?_⟩
  have : ((UInt8.ofNat n.toNat).toNat : Int) = n := by
    simp at hw ⊢
    omega
  rw [this]
end
end Go.Ab
