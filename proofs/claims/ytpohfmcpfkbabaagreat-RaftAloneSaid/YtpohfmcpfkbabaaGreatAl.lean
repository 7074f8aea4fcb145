/- Who is alone: one round of the law's loop. Conditions: none. -/
import Derived.Test.YtpohfmcpfkbabaaGreatAw
set_option linter.unusedSimpArgs false
set_option linter.unusedVariables false
namespace Go.Ab.R
open Go Go.Proofs
set_option maxRecDepth 100000

theorem lg1_last (T : Int) (es : List Ent) : (lg1 T es).last = es.length + 1 := by simp [Lg.last, lg1]
theorem lg1_led (T : Int) (es : List Ent) (d : Option (List UInt8)) : (lg1 T es).led ⟨(lg1 T es).last + 1, T, 1, d⟩ = lg1 T (es ++ [⟨(es.length : Int) + 2, T, 1, d⟩]) := by
  have h : (lg1 T es).last + 1 = (es.length : Int) + 2 := by rw [lg1_last]; omega
  rw [Lg.led, h]
  simp only [Lg.addL, lg1, List.cons_append, List.length_append, List.length_singleton, Lg.mk.injEq, true_and, and_true]
  omega
theorem lg1_at (T : Int) (es : List Ent) (h : ∀ e ∈ es, e.term = T) : ((lg1 T es).at_ (lg1 T es).last).term = T := by
  have hi : ((lg1 T es).last - (lg1 T es).base).toNat = es.length + 1 := by rw [lg1_last]; show ((es.length : Int) + 1 - 0).toNat = _; omega
  rw [Lg.at_, hi]
  show ((⟨1, T, 0, none⟩ :: es).getD es.length ⟨0, 0, 0, none⟩).term = T
  rw [List.getD_eq_getElem?_getD, List.getElem?_eq_getElem (by simp)]
  simp only [Option.getD_some]
  have hm := List.getElem_mem (l := (⟨1, T, 0, none⟩ :: es : List Ent)) (n := es.length) (by simp)
  rcases List.mem_cons.1 hm with q | q
  · rw [q]
  · exact h _ q
theorem lg1_get (T : Int) (es : List Ent) (x : Ent) : (lg1 T (es ++ [x])).get ((es.length : Int) + 2) 1 = [x] := by
  have h1 : ¬ ((es.length : Int) + 2 ≤ (lg1 T (es ++ [x])).base ∨ (lg1 T (es ++ [x])).has ((es.length : Int) + 2) = false ∨ (1 : Int) < 1) := by
    have : (lg1 T (es ++ [x])).has ((es.length : Int) + 2) = true := by
      rw [Lg.has_iff, lg1_last]; show (0 : Int) ≤ _ ∧ _; simp only [List.length_append, List.length_singleton]; omega
    rw [this]
    show ¬ ((es.length : Int) + 2 ≤ 0 ∨ _)
    simp; omega
  rw [Lg.get, if_neg h1]
  have h2 : ((es.length : Int) + 2 - (lg1 T (es ++ [x])).base).toNat = es.length + 2 := by show ((es.length : Int) + 2 - 0).toNat = _; omega
  rw [h2]
  show ((es ++ [x]).drop es.length).take 1 = [x]
  simp
theorem lg1_own (T : Int) (es : List Ent) (h : ∀ e ∈ es, e.term = T) (ims : Id) : ownL (lg1 T es) (lel T ims) = true := by
  have hc : (lg1 T es).com = (lg1 T es).last := by rw [lg1_last]; show 1 + (es.length : Int) = _; omega
  have hh : (lg1 T es).has (lg1 T es).last = true := by rw [Lg.has_iff, lg1_last]; show (0 : Int) ≤ _ ∧ _; omega
  rw [ownL, hc, hh, Lg.termOf, if_pos hh, lg1_at T es h]
  simp [lel]

theorem Lone.chg {M M' : Mem} {p ie il im ia : Id} {v : V} {f tt tv f' tt' tv' : Int} {rds rds' : V} {e : Elc} {g : Lg} {s : Id} (hM : FreshM s M) (h : Lone M p (lnd ie il im f tt tv rds) e ia v g im) (hf : FrM s [p] M M') (hp : M' p = some (.cells (lnd ie il im f' tt' tv' rds').cs)) (h1 : rds'.one = true) (h2 : rds'.cells = [rds']) :
    Lone M' p (lnd ie il im f' tt' tv' rds') e ia v g im := by
  have hN := h.at_
  refine ⟨⟨hp, (hf _ (Off_of hM hN.el) (by simp [Ne.symm hN.ne1])).trans hN.el, hN.lg.frame (hf _ (Off_of hM hN.lg.obj) (by simp [Ne.symm hN.ne2])) (hf _ (Off_of hM hN.lg.arr) (by simp [Ne.symm hN.ne5]))⟩,
    h.kinds, rfl, rfl, rfl, rfl, rfl, rfl, rfl, rfl, h.eid, h.evv, h.elv, h.role, rfl, (hf _ (Off_of hM h.pm) ?_).trans h.pm, ⟨rfl, rfl, rfl, rfl, rfl, rfl, h1, h2⟩⟩
  simp only [List.mem_singleton]
  intro q
  have := h.pm
  rw [q, hN.obj] at this
  cases this

theorem prop1_E {M : Mem} {p ie il im ims ia : Id} {v : V} {f tt tv : Int} {T : Int} {es : List Ent} (d : Option (List UInt8)) (s : Id) (hM : FreshM s M) (h : Lone M p (lnd ie il im f tt tv .nils) (lel T ims) ia v (lg1 T es) im) (hd : dlen d ≤ 4096)
    (hes : ∀ e ∈ es, e.term = T) (hT : 0 ≤ T) (hT2 : T ≤ 1099511627776) (hl : es.length ≤ 1000) :
    ∃ x : Mem × Id × V × Id × Int, Fn env false 11 [.ptr p 0, dataV d] s M = some (.tup [.int .i64 ((es.length : Int) + 2), .int .i64 0], x.1) ∧
      Lone x.1 p (lnd ie il x.2.2.2.1 x.2.2.2.2 tt tv .nils) (lel T ims) x.2.1 x.2.2.1 (lg1 T (es ++ [⟨(es.length : Int) + 2, T, 1, d⟩])) x.2.2.2.1 ∧ FrM s [p, ie, il, ia] M x.1 ∧ (x.2.1 = ia ∨ Un s x.2.1) := by
  have ha : (lg1 T es).addE [⟨(lg1 T es).last + 1, (lel T ims).term, 1, d⟩] = 0 := by
    refine addE_one rfl ?_ ?_ hT hT2 ?_ (show (0 : Int) ≤ 1 by decide) (show (1 : Int) ≤ 7 by decide) hd
    · show 1 ≤ (lg1 T es).last + 1; rw [lg1_last]; omega
    · show (lg1 T es).last + 1 ≤ 1099511627776; rw [lg1_last]; omega
    · rw [lg1_at T es hes]; exact Int.le_refl _
  obtain ⟨x, h1, h2, h3, h4, _⟩ := propose1_E d s hM h hd ha (by show es.length + 1 + 1 + 1 ≤ _; omega) (by rw [lg1_last]; show 1 + (es.length : Int) ≤ _; omega)
  have h5 : (lg1 T es).led ⟨(lg1 T es).last + 1, (lel T ims).term, 1, d⟩ = _ := lg1_led T es d
  rw [h5] at h2
  refine ⟨(x.1, x.2.1, x.2.2.1, x.2.2.2, if f = 0 ∨ (lg1 T es).last + 1 < f then (lg1 T es).last + 1 else f), ?_, h2, h3, h4⟩
  rw [h1, lg1_last]
  congr 1
end Go.Ab.R
