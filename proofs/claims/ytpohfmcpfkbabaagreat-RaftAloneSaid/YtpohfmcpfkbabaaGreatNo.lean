/- A leader that is alone: what it is proposed is committed. Conditions: none. -/
import Derived.Test.YtpohfmcpfkbabaaGreatNm
set_option linter.unusedSimpArgs false
set_option linter.unusedVariables false
namespace Go.Ab.R
open Go Go.Proofs
set_option maxRecDepth 100000

theorem FrM.to {s t u : Id} {X : List Id} {M M' : Mem} (h : FrM t X M M') (hM : FreshM s M) (hu : Un s u) (h1 : Off t u) (h2 : Off u t) (hx : ∀ x ∈ X, Off s x) : FreshM u M' :=
  h.fr (fresh_dn hM hu) h1 h2 (fun x hxx => Off_dn (hx x hxx) hu)
theorem FrM.wide {s t : Id} {X Y : List Id} {M M' : Mem} (h : FrM t X M M') (ht : Un s t) (hX : ∀ i, Off s i → i ∉ Y → i ∉ X) : FrM s Y M M' := fun i hi hx => h i (Off_dn hi ht) (hX i hi hx)
theorem Lone.off {M p d e ia v g im} (h : Lone M p d e ia v g im) {s : Id} (hM : FreshM s M) : ∀ x ∈ [p, d.ie, d.il, ia], Off s x := by
  intro x hx
  simp only [List.mem_cons, List.not_mem_nil, or_false] at hx
  rcases hx with rfl | rfl | rfl | rfl
  · exact Off_of hM h.at_.obj
  · exact Off_of hM h.at_.el
  · exact Off_of hM h.at_.lg.obj
  · exact Off_of hM h.at_.lg.arr

theorem addL_last (g : Lg) (x : Ent) : (g.addL [x]).last = g.last + 1 := by simp [Lg.last, Lg.addL]; omega
theorem addL_has {g : Lg} (x : Ent) : (g.addL [x]).has (g.last + 1) = true := by
  rw [Lg.has_iff, addL_last]
  simp only [Lg.addL, Lg.last]
  omega
theorem addL_at {g : Lg} (x : Ent) : (g.addL [x]).at_ (g.last + 1) = x := by
  unfold Lg.at_ Lg.addL Lg.last
  have : (g.base + (g.ents.length : Int) - 1 + 1 - g.base).toNat = g.ents.length := by omega
  simp only [this]
  simp
theorem addL_term {g : Lg} (x : Ent) : (g.addL [x]).termOf (g.last + 1) = x.term := by
  rw [Lg.termOf, if_pos (addL_has x), addL_at]

def Lg.led (g : Lg) (x : Ent) : Lg := { g.addL [x] with com := g.last + 1 }

theorem lead1_E {M : Mem} {p ia : Id} {v : V} {g : Lg} {d : Nd} {e : Elc} {im : Id} (kind : Int) (data : Option (List UInt8)) (s : Id) (hM : FreshM s M) (h : Lone M p d e ia v g im) (hk : kind ≠ 2)
    (ha : g.addE [⟨g.last + 1, e.term, kind, data⟩] = 0) (hn : g.ents.length + 1 ≤ 2 ^ 35) (hc : g.com ≤ g.last) :
    ∃ x : Mem × Id × V × Id, Fn env false 47 [.ptr p 0, .int .i64 kind, dataV data] s M = some (.tup [.int .i64 (g.last + 1), .int .i64 0], x.1) ∧
      Lone x.1 p { d with peers := .mapr x.2.2.2, from_ := if d.from_ = 0 ∨ g.last + 1 < d.from_ then g.last + 1 else d.from_ } e x.2.1 x.2.2.1 (g.led ⟨g.last + 1, e.term, kind, data⟩) x.2.2.2 ∧
      FrM s [p, d.ie, d.il, ia] M x.1 ∧ (x.2.1 = ia ∨ Un s x.2.1) ∧ Un s x.2.2.2 := by
  have hoff := h.off hM
  have u1 : Un s (3 :: 0 :: 1 :: 0 :: s) := by simp (maxDischargeDepth := 80) only [push_cast, Nat.reduceBEq, reduceIte, reduceCtorEq, Nat.reduceEqDiff, Nat.reduceAdd, Nat.reduceMul, Nat.reduceSub, Nat.reduceLeDiff, Nat.reduceLT, Nat.reducePow, Int.reduceToNat, Int.reduceLT, Int.reduceLE, Int.reduceEq, Int.reduceAdd, Int.reduceSub, Int.reduceNeg]
  have u2 : Un s (1 :: 0 :: 1 :: 1 :: 1 :: 0 :: s) := by simp (maxDischargeDepth := 80) only [push_cast, Nat.reduceBEq, reduceIte, reduceCtorEq, Nat.reduceEqDiff, Nat.reduceAdd, Nat.reduceMul, Nat.reduceSub, Nat.reduceLeDiff, Nat.reduceLT, Nat.reducePow, Int.reduceToNat, Int.reduceLT, Int.reduceLE, Int.reduceEq, Int.reduceAdd, Int.reduceSub, Int.reduceNeg]
  have u3 : Un s (1 :: 0 :: 1 :: 1 :: 1 :: 1 :: 0 :: s) := by simp (maxDischargeDepth := 80) only [push_cast, Nat.reduceBEq, reduceIte, reduceCtorEq, Nat.reduceEqDiff, Nat.reduceAdd, Nat.reduceMul, Nat.reduceSub, Nat.reduceLeDiff, Nat.reduceLT, Nat.reducePow, Int.reduceToNat, Int.reduceLT, Int.reduceLE, Int.reduceEq, Int.reduceAdd, Int.reduceSub, Int.reduceNeg]
  obtain ⟨x, k1, k2, k3, k4, k5⟩ := enter1_E kind data (3 :: 0 :: 1 :: 0 :: s) (fresh_dn hM u1) h hk ha hn
  have hF2 : FreshM (1 :: 0 :: 1 :: 1 :: 1 :: 0 :: s) x.1 := k3.to hM u2 (by simp (maxDischargeDepth := 80) only [push_cast, Nat.reduceBEq, reduceIte, reduceCtorEq, Nat.reduceEqDiff, Nat.reduceAdd, Nat.reduceMul, Nat.reduceSub, Nat.reduceLeDiff, Nat.reduceLT, Nat.reducePow, Int.reduceToNat, Int.reduceLT, Int.reduceLE, Int.reduceEq, Int.reduceAdd, Int.reduceSub, Int.reduceNeg]) (by simp (maxDischargeDepth := 80) only [push_cast, Nat.reduceBEq, reduceIte, reduceCtorEq, Nat.reduceEqDiff, Nat.reduceAdd, Nat.reduceMul, Nat.reduceSub, Nat.reduceLeDiff, Nat.reduceLT, Nat.reducePow, Int.reduceToNat, Int.reduceLT, Int.reduceLE, Int.reduceEq, Int.reduceAdd, Int.reduceSub, Int.reduceNeg]) hoff
  have hF3 : FreshM (1 :: 0 :: 1 :: 1 :: 1 :: 1 :: 0 :: s) x.1 := k3.to hM u3 (by simp (maxDischargeDepth := 80) only [push_cast, Nat.reduceBEq, reduceIte, reduceCtorEq, Nat.reduceEqDiff, Nat.reduceAdd, Nat.reduceMul, Nat.reduceSub, Nat.reduceLeDiff, Nat.reduceLT, Nat.reducePow, Int.reduceToNat, Int.reduceLT, Int.reduceLE, Int.reduceEq, Int.reduceAdd, Int.reduceSub, Int.reduceNeg]) (by simp (maxDischargeDepth := 80) only [push_cast, Nat.reduceBEq, reduceIte, reduceCtorEq, Nat.reduceEqDiff, Nat.reduceAdd, Nat.reduceMul, Nat.reduceSub, Nat.reduceLeDiff, Nat.reduceLT, Nat.reducePow, Int.reduceToNat, Int.reduceLT, Int.reduceLE, Int.reduceEq, Int.reduceAdd, Int.reduceSub, Int.reduceNeg]) hoff
  have hx0 := addL_term (g := g) ⟨g.last + 1, e.term, kind, data⟩
  obtain ⟨M3, m1, m2, m3⟩ := advance1_E (1 :: 0 :: 1 :: 1 :: 1 :: 0 :: s) hF2 k2 (by rw [addL_last]; exact hx0) (by rw [addL_last]; exact Int.lt_add_one_of_le hc) (by rw [addL_last]; exact addL_has _)
  rw [addL_last] at m2
  have hN := k2.at_
  have hoff2 : ∀ i ∈ [d.il], Off (1 :: 0 :: 1 :: 1 :: 1 :: 0 :: s) i := fun i hi => by
    simp only [List.mem_singleton] at hi; subst hi; exact Off_of hF2 hN.lg.obj
  have hF4 : FreshM (1 :: 0 :: 1 :: 1 :: 1 :: 1 :: 0 :: s) M3 := m3.fr hF3 (by simp (maxDischargeDepth := 80) only [push_cast, Nat.reduceBEq, reduceIte, reduceCtorEq, Nat.reduceEqDiff, Nat.reduceAdd, Nat.reduceMul, Nat.reduceSub, Nat.reduceLeDiff, Nat.reduceLT, Nat.reducePow, Int.reduceToNat, Int.reduceLT, Int.reduceLE, Int.reduceEq, Int.reduceAdd, Int.reduceSub, Int.reduceNeg]) (by simp (maxDischargeDepth := 80) only [push_cast, Nat.reduceBEq, reduceIte, reduceCtorEq, Nat.reduceEqDiff, Nat.reduceAdd, Nat.reduceMul, Nat.reduceSub, Nat.reduceLeDiff, Nat.reduceLT, Nat.reducePow, Int.reduceToNat, Int.reduceLT, Int.reduceLE, Int.reduceEq, Int.reduceAdd, Int.reduceSub, Int.reduceNeg]) (fun i hi => by
    simp only [List.mem_singleton] at hi; subst hi; exact Off_of hF3 hN.lg.obj)
  have q1 : M3 p = x.1 p := m3 p (Off_of hF2 hN.obj) (by simp only [List.mem_singleton]; exact hN.ne2)
  have q2 : M3 d.ie = x.1 d.ie := m3 d.ie (Off_of hF2 hN.el) (by simp only [List.mem_singleton]; exact hN.ne3)
  have q3 : M3 x.2.1 = x.1 x.2.1 := m3 _ (Off_of hF2 hN.lg.arr) (by simp only [List.mem_singleton]; exact Ne.symm hN.lg.ne)
  have q4 : M3 x.2.2.2 = x.1 x.2.2.2 := m3 _ (Off_of hF2 k2.pm) (by simp only [List.mem_singleton]; intro q; have := k2.pm; rw [q] at this; rw [hN.lg.obj] at this; cases this)
  have hL : Lone M3 p { d with peers := .mapr x.2.2.2, from_ := if d.from_ = 0 ∨ g.last + 1 < d.from_ then g.last + 1 else d.from_ } e x.2.1 x.2.2.1 (g.led ⟨g.last + 1, e.term, kind, data⟩) x.2.2.2 :=
    ⟨⟨q1.trans hN.obj, q2.trans hN.el, ⟨m2, hN.lg.shape, q3.trans hN.lg.arr, ⟨hN.lg.ok.ne, hN.lg.ok.idx, hN.lg.ok.lo, hN.lg.ok.hi, hN.lg.ok.few, hN.lg.ok.data⟩⟩⟩, k2.kinds, k2.did, k2.dgv, k2.dgl, k2.dsn, k2.dre, k2.dms, k2.dro, k2.dsw, k2.eid, k2.evv, k2.elv, k2.role, k2.peers, q4.trans k2.pm, k2.ok⟩
  have r3 := all0_E _ hF4 hL.at_.obj (.inr ⟨_, hL.peers, hL.pm⟩)
  refine ⟨(M3, x.2.1, x.2.2.1, x.2.2.2), ?_, hL, ?_, ?_, List.IsSuffix.trans u1 k5⟩
  · rw [Fn_body Tryz.func47 (by decide) rfl rfl]
    simp (maxDischargeDepth := 80) only [push_cast, Nat.reduceBEq, reduceIte, reduceCtorEq, Nat.reduceEqDiff, Nat.reduceAdd, Nat.reduceMul, Nat.reduceSub, Nat.reduceLeDiff, Nat.reduceLT, Nat.reducePow, Int.reduceToNat, Int.reduceLT, Int.reduceLE, Int.reduceEq, Int.reduceAdd, Int.reduceSub, Int.reduceNeg, k1, m1, r3, fresh_dn hM, fresh_at hM]
  · refine (k3.wide u1 (fun i _ hx => hx)).trans (m3.wide u2 (fun i _ hx => ?_))
    simp only [List.mem_cons, List.not_mem_nil, or_false, not_or] at hx ⊢
    exact hx.2.2.1
  · rcases k4 with q | q
    · exact .inl q
    · exact .inr (List.IsSuffix.trans u1 q)

theorem dlen_some (l : List UInt8) : dlen (some l) = l.length := rfl
theorem propose1_E {M : Mem} {p ia : Id} {v : V} {g : Lg} {d : Nd} {e : Elc} {im : Id} (data : Option (List UInt8)) (s : Id) (hM : FreshM s M) (h : Lone M p d e ia v g im) (hd : dlen data ≤ 4096)
    (ha : g.addE [⟨g.last + 1, e.term, 1, data⟩] = 0) (hn : g.ents.length + 1 ≤ 2 ^ 35) (hc : g.com ≤ g.last) :
    ∃ x : Mem × Id × V × Id, Fn env false 11 [.ptr p 0, dataV data] s M = some (.tup [.int .i64 (g.last + 1), .int .i64 0], x.1) ∧
      Lone x.1 p { d with peers := .mapr x.2.2.2, from_ := if d.from_ = 0 ∨ g.last + 1 < d.from_ then g.last + 1 else d.from_ } e x.2.1 x.2.2.1 (g.led ⟨g.last + 1, e.term, 1, data⟩) x.2.2.2 ∧
      FrM s [p, d.ie, d.il, ia] M x.1 ∧ (x.2.1 = ia ∨ Un s x.2.1) ∧ Un s x.2.2.2 := by
  have u1 : Un s (3 :: 0 :: 1 :: 1 :: 0 :: s) := by simp (maxDischargeDepth := 80) only [push_cast, Nat.reduceBEq, reduceIte, reduceCtorEq, Nat.reduceEqDiff, Nat.reduceAdd, Nat.reduceMul, Nat.reduceSub, Nat.reduceLeDiff, Nat.reduceLT, Nat.reducePow, Int.reduceToNat, Int.reduceLT, Int.reduceLE, Int.reduceEq, Int.reduceAdd, Int.reduceSub, Int.reduceNeg]
  obtain ⟨x, k1, k2, k3, k4, k5⟩ := lead1_E 1 data (3 :: 0 :: 1 :: 1 :: 0 :: s) (fresh_dn hM u1) h (by decide) ha hn hc
  have hobj := h.at_.obj
  have hel := h.at_.el
  have r1 := fun s' (q1 : FreshM s' M) => role_E s' q1 hel
  simp only [h.role] at r1
  have r2 := fun s' M' (q1 : FreshM s' M') => cloneB_E data (fun l q => by rw [q] at hd; have : l.length ≤ 4096 := hd; unfold mostLen; omega) s' M' q1
  have hd' : (4096 < (dlen data : Int)) = False := eq_false (by omega)
  simp only [Nd.cs_eq] at hobj
  refine ⟨x, ?_, k2, k3.wide u1 (fun i _ hx => hx), ?_, List.IsSuffix.trans u1 k5⟩
  · rw [Fn_body Tryz.func11 (by decide) rfl rfl]
    simp (maxDischargeDepth := 80) only [push_cast, Nat.reduceBEq, reduceIte, reduceCtorEq, Nat.reduceEqDiff, Nat.reduceAdd, Nat.reduceMul, Nat.reduceSub, Nat.reduceLeDiff, Nat.reduceLT, Nat.reducePow, Int.reduceToNat, Int.reduceLT, Int.reduceLE, Int.reduceEq, Int.reduceAdd, Int.reduceSub, Int.reduceNeg, hobj, Off_dn (Off_of hM hobj), Off_ne (Off_of hM hobj), Off_ne' (Off_of hM hobj), r1, r2, k1, len_data, hd', fresh_dn hM, fresh_at hM]
  · rcases k4 with q | q
    · exact .inl q
    · exact .inr (List.IsSuffix.trans u1 q)
end Go.Ab.R
