/- A leader that is alone: what it enters is committed. Conditions: none. -/
import Derived.Test.YtpohfmcpfkbabaaGreatNa
set_option linter.unusedSimpArgs false
set_option linter.unusedVariables false
namespace Go.Ab.R
open Go Go.Proofs
set_option maxRecDepth 100000

def snp1 : Snp := ⟨0, 0, some [1], none, none⟩
structure Lone (M : Mem) (p : Id) (d : Nd) (e : Elc) (ia : Id) (v : V) (g : Lg) (im : Id) : Prop where
  at_ : NodeAt M p d e ia v g
  kinds : ∀ x ∈ g.ents, x.kind ≠ 2
  did : d.id = 1
  dgv : d.gvs = some [1]
  dgl : d.gls = none
  dsn : d.sn = snp1
  dre : d.reads = .nils
  dms : d.msgs = .nils
  dro : d.round = 0
  dsw : d.snew = false
  eid : e.id = 1
  evv : e.vv = intsV (some [1])
  elv : e.lv = .nils
  role : e.role = 3
  peers : d.peers = .mapr im
  pm : M im = some (.map [])
  ok : NdOk d


theorem advance1_E {M : Mem} {p ia : Id} {v : V} {g : Lg} {d : Nd} {e : Elc} {im : Id} (s : Id) (hM : FreshM s M) (h : Lone M p d e ia v g im) (ht : g.termOf g.last = e.term) (hc : g.com < g.last) (hhas : g.has g.last = true) :
    ∃ M', Fn env false 93 [.ptr p 0] s M = some (.tup [], M') ∧ M' d.il = some (.cells [v, .int .i64 g.last, .int .i64 g.app]) ∧ FrM s [d.il] M M' := by
  have hobj := h.at_.obj
  have hel := h.at_.el
  have hlg := h.at_.lg
  have e1 := eq_false h.at_.ne2
  have e2 := eq_false (Ne.symm h.at_.ne2)
  have e3 := eq_false h.at_.ne3
  have e4 := eq_false (Ne.symm h.at_.ne3)
  have hI1 : intsV (some [1]) = .psl [.int .i64 1] 1 false := rfl
  have hI2 : intsV none = .nils := rfl
  have r1 := fun s' M' (q1 : FreshM s' M') (q2 : Sub M M') => last_E s' M' q1 (hlg.mono q2)
  have r2 := fun n s' M' (q1 : FreshM s' M') => middle1_E n s' M' q1
  have r3 := fun s' M' (q1 : FreshM s' M') (q2 : Sub M M') => term_E g.last s' M' q1 (hlg.mono q2)
  have r4 := fun s' M' (q1 : FreshM s' M') (q2 : Sub M M') => hard_E s' q1 (q2 _ _ hel)
  have r5 := fun s' M' (q1 : FreshM s' M') (q2 : Sub M M') => com_E s' M' q1 (hlg.mono q2)
  have r6 := fun s' M' (q1 : FreshM s' M') (q2 : Sub M M') => commit_E g.last s' M' q1 (hlg.mono q2)
  have hd := h.peers
  have him := h.pm
  have r7 : ∀ s' M', FreshM s' M' → M' p = M p → M' im = M im → Fn env false 52 [.ptr p 0] s' M' = some (.tup [], M') := fun s' M' q1 q2 q3 => beats0_E s' q1 (q2.trans hobj) (.inr ⟨im, hd, q3.trans him⟩)
  have c1 : ¬ (g.last < g.com ∨ g.last < g.last) := by omega
  have c2 : ¬ (g.last ≤ g.com) := by omega
  simp only [if_neg c1] at r6
  simp only [at16] at r2
  have hlo := hlg.obj
  have hdid := h.did; have hdgv := h.dgv; have hdgl := h.dgl
  have hfin : ∀ i : Id, i ∉ [d.il] → (i = d.il) = False := fun i hx => eq_false (fun e => hx (by simp [e]))
  simp only [Nd.cs_eq, hdid, hdgv, hdgl, hI1, hI2, hd] at hobj
  have e5 : (im = d.il) = False := eq_false (fun e => by rw [e, hlo] at him; cases him)
  have hk93 := run_hook93
  simp only [advCode, Tryz.f93] at hk93
  refine ⟨?_, ?a, ?b, ?c⟩
  case a =>
    rw [Fn_body Tryz.func93 (by decide) rfl rfl]
    simp (maxDischargeDepth := 80) only [push_cast, Nat.reduceBEq, reduceIte, reduceCtorEq, Nat.reduceEqDiff, Nat.reduceAdd, Nat.reduceMul, Nat.reduceSub, Nat.reduceLeDiff, Nat.reduceLT, Nat.reducePow, Int.reduceToNat, Int.reduceLT, Int.reduceLE, Int.reduceEq, Int.reduceAdd, Int.reduceSub, Int.reduceNeg, hobj, Off_dn (Off_of hM hobj), Off_ne (Off_of hM hobj), Off_ne' (Off_of hM hobj), hel, Off_dn (Off_of hM hel), Off_ne (Off_of hM hel), Off_ne' (Off_of hM hel), hlo, Off_dn (Off_of hM hlo), Off_ne (Off_of hM hlo), Off_ne' (Off_of hM hlo), him, Off_dn (Off_of hM him), Off_ne (Off_of hM him), Off_ne' (Off_of hM him), hk93, advP, r1, at16, r2, r3, r4, r5, r6, r7, e1, e2, e3, e4, e5, ht, hhas, c2, fresh_dn hM, fresh_at hM]
    rfl
  case b => simp (maxDischargeDepth := 80) only [push_cast, Nat.reduceBEq, reduceIte, reduceCtorEq, Nat.reduceEqDiff, Nat.reduceAdd, Nat.reduceMul, Nat.reduceSub, Nat.reduceLeDiff, Nat.reduceLT, Nat.reducePow, Int.reduceToNat, Int.reduceLT, Int.reduceLE, Int.reduceEq, Int.reduceAdd, Int.reduceSub, Int.reduceNeg]
  case c =>
    intro i hi hx
    simp (maxDischargeDepth := 80) only [push_cast, Nat.reduceBEq, reduceIte, reduceCtorEq, Nat.reduceEqDiff, Nat.reduceAdd, Nat.reduceMul, Nat.reduceSub, Nat.reduceLeDiff, Nat.reduceLT, Nat.reducePow, Int.reduceToNat, Int.reduceLT, Int.reduceLE, Int.reduceEq, Int.reduceAdd, Int.reduceSub, Int.reduceNeg, hfin i hx, Off_ne hi]
end Go.Ab.R
