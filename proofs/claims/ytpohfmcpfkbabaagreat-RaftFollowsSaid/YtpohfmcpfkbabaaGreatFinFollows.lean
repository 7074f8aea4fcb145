/- RaftFollows: for every input it returns true; the input reads as it did. Conditions: none. -/
import Derived.Test.YtpohfmcpfkbabaaGreatAbIn
import Derived.Test.YtpohfmcpfkbabaaGreatFo
import Derived.Test.YtpohfmcpfkbabaaGreatRows
import Derived.WalkKit
import Derived.ProofKit
import Derived.OpenShut
set_option linter.unusedSimpArgs false
set_option linter.unusedVariables false
set_option maxRecDepth 100000
namespace Go.Ab
open Go.Proofs Go.RowKit

section
variable {H : Type} {enc : TypeId × Value → H} {w : World} {base : Nat}

theorem agg_cells {v : Value} {n : Nat} (h : v.cells.toList.length = n) (hn : n ≠ 1) : ∃ a : Array Value, v = .agg a ∧ v.cells.toList = a.toList := by
  cases v with
  | agg a => exact ⟨a, rfl, rfl⟩
  | _ => exact absurd h (fun e => hn (by rw [← e]; rfl))
theorem VR_agg {ι C} {l : List V} {a : Array Value} (h : LR ι C l a.toList.toArray) : VR ι C (.agg l) (.agg a) := by
  have h' : LR ι C l a := by simpa using h
  exact .agg _ _ h'.1 h'.2

theorem cells11 {cs : List Value} (h : cs.length = 11) : ∃ a b c d0 d1 d2 d3 d4 e f g, cs = [a, b, c, d0, d1, d2, d3, d4, e, f, g] := by
  match cs, h with
  | [a, b, c, d0, d1, d2, d3, d4, e, f, g], _ => exact ⟨a, b, c, d0, d1, d2, d3, d4, e, f, g, rfl⟩
theorem cells2 {cs : List Value} (h : cs.length = 2) : ∃ a b, cs = [a, b] := by
  match cs, h with
  | [a, b], _ => exact ⟨a, b, rfl⟩

theorem pair_of {fuel : Nat} {v : Value} {x : DataW H × List MemPlace} (h : DataW.trod enc Tryz.prog w base (fun _ => true) true fuel 36 v.cells.toList = some x) : ∃ a b, v = .agg #[.int .i64 a, .int .i64 b] := by
  obtain ⟨hl, hf⟩ := elem_of Tryz.underlying36 h
  have hl2 : v.cells.toList.length = 2 := hl.trans (by kernel_rfl)
  obtain ⟨arr, rfl, e⟩ := agg_cells hl2 (by decide)
  rw [e] at hl2 hf
  obtain ⟨a, b, e2⟩ := cells2 hl2
  rw [e2] at hf
  obtain ⟨_, _, h0⟩ := hf 0 (by decide)
  obtain ⟨_, _, h1⟩ := hf 1 (by decide)
  obtain ⟨n0, rfl⟩ := int_of h0
  obtain ⟨n1, rfl⟩ := int_of h1
  exact ⟨n0, n1, by congr 1; exact Array.toList_inj.1 e2⟩

theorem who_of {fuel : Nat} {v : Value} {x : DataW H × List MemPlace} (h : DataW.trod enc Tryz.prog w base (fun _ => true) true fuel 61 v.cells.toList = some x) :
    ∃ id ht hv sn wl l pat win, VR ι0 (C0 w) (R.whoV id ht hv sn wl pat win) v ∧ (∀ M, R.EntsV M wl l) ∧ (R.intsL sn.vs).length < 2 ^ 63 ∧ (R.intsL sn.ls).length < 2 ^ 63 := by
  obtain ⟨hl, hf⟩ := field_of Tryz.underlying61 h
  have hl2 : v.cells.toList.length = 11 := hl.trans (by kernel_rfl)
  obtain ⟨arr, rfl, e⟩ := agg_cells hl2 (by decide)
  rw [e] at hl2 hf
  obtain ⟨a, b, c, d0, d1, d2, d3, d4, e', f, g, e2⟩ := cells11 hl2
  rw [e2] at hf
  obtain ⟨_, _, h0⟩ := hf 0 _ rfl
  obtain ⟨_, _, h1⟩ := hf 1 _ rfl
  obtain ⟨_, _, h2⟩ := hf 2 _ rfl
  obtain ⟨_, _, h3⟩ := hf 3 _ rfl
  obtain ⟨_, _, h4⟩ := hf 4 _ rfl
  obtain ⟨n0, rfl⟩ := int_of h0
  obtain ⟨_, hg⟩ := field_of Tryz.underlying29 h1
  obtain ⟨_, _, g0⟩ := hg 0 _ rfl
  obtain ⟨_, _, g1⟩ := hg 1 _ rfl
  obtain ⟨n1, rfl⟩ := int_of g0
  obtain ⟨n2, rfl⟩ := int_of g1
  obtain ⟨sn, hsn, hs1, hs2⟩ := snap_of h2
  obtain ⟨wl, l, hwl, hent⟩ := ents_of h3
  obtain ⟨_, hk⟩ := elem_of Tryz.underlying36 h4
  obtain ⟨_, _, k0⟩ := hk 0 (by decide)
  obtain ⟨_, _, k1⟩ := hk 1 (by decide)
  obtain ⟨n3, rfl⟩ := int_of k0
  obtain ⟨n4, rfl⟩ := int_of k1
  refine ⟨n0, n1, n2, sn, wl, l, n3, n4, VR_agg ?_, hent, hs1, hs2⟩
  rw [e2]
  exact LR_cons (.int _ _) (LR_cons (.int _ _) (LR_cons (.int _ _) (LR_app hsn (LR_cons hwl (LR_cons (.int _ _) (LR_cons (.int _ _) LR_nil))))))
end
end Go.Ab

namespace Go.Proofs.YtpohfmcpfkbabaaGreat.raftFollows
open Go.ChangeShapes Go.WideShapes Go.ChangeAt Go.RowKit Go.Ab

theorem own : ownKnob Tryz.prog.godebug = none := by kernel_rfl

theorem contract (H : Type) (enc : TypeId × Value → H) (W : World) (base : Nat) (args : Array Value) (ds gs : List (DataW H)) (before : List MemPlace)
    (hval : ∀ (j : Nat) t v, Tryz.f4.params[j]? = some t → args[j]? = some v → Value.okWide Tryz.prog W .any base t v)
    (hW : DataW.Whole enc Tryz.prog Tryz.f4.params.toList Rows.raftFollowsSpec.vars false W args.toList ds gs before) :
    Calls Tryz.prog 4 args W fun e W' => ∃ v, e = .returned v ∧ Rows.raftFollowsSpec.post enc Tryz.prog Tryz.f4 false true false false W args v W' := by
  have hW' := hW
  obtain ⟨p, q, hA0, hV, rfl, hfz, hnd⟩ := hW
  have hA : DataW.TrodAll enc Tryz.prog W 0 (fun _ => true) true Tryz.f4.params.toList args.toList ds p := hA0
  rw [Tryz.params4] at hA hval
  obtain ⟨v0, vs0, d0, ds0, p0, q0, hargs, rfl, rfl, h0, r0⟩ := trodAll_cons hA
  obtain ⟨v1, vs1, d1, ds1, p1, q1, rfl, rfl, rfl, h1, r1⟩ := trodAll_cons r0
  obtain ⟨v2, vs2, d2, ds2, p2, q2, rfl, rfl, rfl, h2, r2⟩ := trodAll_cons r1
  obtain ⟨rfl, rfl, rfl⟩ := trodAll_nil r2
  obtain rfl : args = #[v0, v1, v2] := by cases args; simp_all
  obtain ⟨rfl, rfl⟩ := trodVars_none hV
  obtain ⟨n0, hn0⟩ := h0
  obtain ⟨n1, hn1⟩ := h1
  obtain ⟨n2, hn2⟩ := h2
  obtain ⟨id, ht, hv, sn, wl, l, pat, win, hw0, hwl, hs1, hs2⟩ := who_of hn0
  have hone : v1.cells.toList = [v1] := by
    have h33 := hval 1 33 v1 rfl rfl
    simp only [Value.okWide, Tryz.underlying33, Cell.okWide, Cell.ok] at h33
    cases v1 <;> first | rfl | exact absurd h33 (by simp)
  rw [hone] at hn1
  obtain ⟨data, hdata⟩ := bytes_of hn1
  obtain ⟨x0, x1, rfl⟩ := pair_of hn2
  have hlaw := R.Okk.law (R.follows_law id ht hv sn wl l pat win data x0 x1 (fun M => (hwl M).rd) hs1 hs2 [] (fun _ => none) (fun _ _ => rfl))
  refine (law_calls hlaw (cargs := #[v0, v1, .agg #[.int .i64 x0, .int .i64 x1]]) (w := W) ⟨rfl, fun j a b => ?_⟩).mono fun e W' ⟨he, hos, hout, hsz, hold⟩ => ?_
  · match j, a with
    | 0, _ => exact hw0
    | 1, _ => exact hdata
    | 2, _ => exact .agg _ _ rfl (fun j p q => by
        match j, p with
        | 0, _ => exact .int _ _
        | 1, _ => exact .int _ _)
  · subst he
    exact ⟨_, rfl, post_law hW' rfl rfl rfl hold hos hout (by rw [Tryz.params4]; decide +kernel)⟩

theorem lifted (os : Os) (started : os.Started) (H : Type) (enc : TypeId × Value → H) :
    ReturnsInHanded {} Tryz.checked os 4 .any (Rows.raftFollowsSpec.pre6 enc Tryz.prog Tryz.f4 Rows.raftFollowsRow.domain false) (Rows.raftFollowsSpec.post enc Tryz.prog Tryz.f4 false true false false) := by
  refine returnsInHanded_of_change (C := Tryz.checked) own started (by kernel_rfl) Tryz.func4
    (ChangeSpec.witness6 (enc := enc) (C := Tryz.checked) false ⟨#[], #[.agg #[.int .i64 0, .int .i64 0, .int .i64 0, .int .i64 0, .int .i64 0, .slice none 0 0, .slice none 0 0, .slice none 0 0, .slice none 0 0, .int .i64 0, .int .i64 0], .slice none 0 0, .agg #[.int .i64 0, .int .i64 0]], []⟩ 12 (by kernel_rfl) (by kernel_rfl) (by kernel_rfl) (by kernel_rfl)) ?_
  intro W base args ds gs before hval hW _ _
  exact contract H enc W base args ds gs before hval hW

theorem over : Rows.raftFollowsRow.holds Tryz.pinned (OpenSpec.ofChange Rows.raftFollowsSpec) :=
  OpenClaim.holds_of_wide 4 Tryz.f4 rfl rfl rfl rfl rfl rfl rfl ⟨rfl, rfl, rfl, rfl, rfl⟩ rfl rfl rfl rfl rfl (by kernel_rfl) Tryz.func4 (by kernel_rfl)
    (of_decide_eq_true (by kernel_rfl)) (by unfold Func.isWrapper; first | (rw [if_pos (by decide +kernel)]; kernel_rfl) | (rw [if_neg (by decide +kernel)]; exact ⟨rfl, rfl⟩))
    (fun os started H enc _ => lifted os started H enc)

theorem proved : Rows.RaftFollowsSaid := over
#print axioms proved
end Go.Proofs.YtpohfmcpfkbabaaGreat.raftFollows
