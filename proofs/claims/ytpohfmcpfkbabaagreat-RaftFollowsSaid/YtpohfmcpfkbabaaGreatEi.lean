/- The reader of numbers: what its functions come to where nothing is amiss. Conditions: none. -/
import Derived.Test.YtpohfmcpfkbabaaGreatAbSim
import Derived.Test.YtpohfmcpfkbabaaGreatEh
import Derived.WalkSmall
set_option linter.unusedSimpArgs false
set_option linter.unusedVariables false
namespace Go.Ab.R
open Go Go.Proofs
set_option maxRecDepth 100000

/-- the environment of the reader's functions alone -/
noncomputable def E2 : Env := { P := Tryz.prog, lv := fun _ => .free, loose := fun _ _ => [], cprim := fun _ _ => none, fz := fun _ _ => false, prim := fun f => if f = 240 ∨ f = 241 ∨ f = 242 ∨ f = 253 then none else some (fun _ _ _ => none) }
theorem E2P : E2.P = Tryz.prog := rfl
theorem E2lv (f) : E2.lv f = .free := rfl
theorem E2fz (c g) : E2.fz c g = false := rfl
theorem E2cp (c d) : E2.cprim c d = none := eqOf rfl
theorem E2chk (cur id ops s f M) : Chk E2 cur id ops s f M := chk_none rfl
attribute [push_cast] E2P E2lv E2fz E2cp E2chk

theorem sound2 : Sound E2 := by
  refine ⟨⟨?_, ?_, ?_, ?_, ?_⟩, by kernel_rfl, ?_, ?_⟩
  · intro f p args s M v M' h1 h2
    simp only [E2] at h1
    split at h1
    · cases h1
    · cases h1; cases h2
  · intro cur c p f s M f' M' h1 h2; cases h1
  · intro f p args s M v M' h1 hq; cases hq
  · intro f p args s M v M' h1 hq; cases hq
  · intro f p args s M v M' ι C w cargs h1 h2
    simp only [E2] at h1
    split at h1
    · cases h1
    · cases h1; cases h2
  · intro cur c p f s M f' M' h1; cases h1
  · intro f fn c he hp
    have hf : f = 240 ∨ f = 241 ∨ f = 242 ∨ f = 253 := by
      simp only [E2] at hp
      split at hp
      · assumption
      · cases hp
    have h4 : ([240, 241, 242, 253].all fun f => match entry E2.P f with | some (fn, c) => okCode E2 f fn.ntmps c | none => true) = true := by kernel_rfl
    have := (List.all_eq_true.1 h4) f (by simp; omega)
    rw [he] at this
    exact this

def natV (b : Nat) : V := .int .u8 b

theorem must_E (s M) : Fn E2 false 242 [.bool true] s M = some (.tup [], M) := by
  rw [Fn_body (E := E2) Tryz.func242 (by decide) rfl rfl]
  simp (maxDischargeDepth := 80) only [push_cast, Nat.reduceBEq, reduceIte, reduceCtorEq, Nat.reduceEqDiff, Nat.reduceAdd, Nat.reduceMul, Nat.reduceSub, Nat.reduceLeDiff, Nat.reduceLT, Nat.reducePow, Int.reduceToNat, Int.reduceLT, Int.reduceLE, Int.reduceEq, Int.reduceAdd, Int.reduceSub, Int.reduceNeg]

theorem take_E (bs : List Nat) (cp : Bool) (l : Id) (n : Nat) (hn : n ≤ bs.length) (s : Id) (M : Mem) (hl : M l = some (.cells [.psl (bs.map natV) bs.length cp])) :
    Fn E2 false 253 [.ptr l 0, .int .i64 n] s M = some (.psl ((bs.take n).map natV) n (cp && n == bs.length), M.set l (.cells [.psl ((bs.drop n).map natV) (bs.length - n) cp])) := by
  rw [Fn_body (E := E2) Tryz.func253 (by decide) rfl rfl]
  have e1 : ((n : Int) ≤ (bs.length : Int)) = True := by simpa using hn
  have e2 : (0 ≤ (n : Int)) = True := by simp
  have e3 : List.take (bs.length - n) (List.drop n (bs.map natV)) = (bs.drop n).map natV := by rw [List.take_of_length_le (by simp), List.map_drop]
  simp (maxDischargeDepth := 80) only [push_cast, Nat.reduceBEq, reduceIte, reduceCtorEq, Nat.reduceEqDiff, Nat.reduceAdd, Nat.reduceMul, Nat.reduceSub, Nat.reduceLeDiff, Nat.reduceLT, Nat.reducePow, Int.reduceToNat, Int.reduceLT, Int.reduceLE, Int.reduceEq, Int.reduceAdd, Int.reduceSub, Int.reduceNeg, hl, e1, e2, must_E, Int.toNat_natCast, Int.le_refl, false_implies, Nat.sub_zero, e3, List.map_take]
  simp only [beq_self_eq_true, Bool.and_true, List.map_take]

theorem clear16 (f : Nat) (h : f < 256) : IntKind.wrap .u8 ((BitVec.ofInt 8 (f : Int) &&& ~~~(BitVec.ofInt 8 16)).toNat : Int) = ((f / 32 * 32 + f % 16 : Nat) : Int) := by
  have : ∀ f : Fin 256, IntKind.wrap .u8 ((BitVec.ofInt 8 ((f : Nat) : Int) &&& ~~~(BitVec.ofInt 8 16)).toNat : Int) = (((f : Nat) / 32 * 32 + (f : Nat) % 16 : Nat) : Int) := by decide
  exact this ⟨f, h⟩
theorem bin_andNot (f : Nat) (h : f < 32) : binV Tryz.prog .andNot 5 (.int .u8 f) (.int .u8 16) = some (.int .u8 (f % 16 : Nat)) := by
  have := clear16 f (by omega)
  rw [show f / 32 * 32 + f % 16 = f % 16 by omega] at this
  simp only [binV, arithV, if_true]
  rw [← this]
  rfl
theorem bin_or (t k a b) : binV Tryz.prog .or t (.int k a) (.int k b) = some (.int k (k.wrap (BitVec.ofInt k.bits a ||| BitVec.ofInt k.bits b).toNat)) := by simp [binV, arithV]
theorem wrap_small (n : Nat) (h : n < 256) : IntKind.wrap .i64 (n : Int) = n := by
  unfold IntKind.wrap
  simp [IntKind.signed, IntKind.bits]
  omega
theorem wrap_natR (n : Nat) (h : n < 2 ^ 62) : IntKind.wrap .i64 ((n : Int) + 1) = ((n + 1 : Nat) : Int) := by
  unfold IntKind.wrap
  simp [IntKind.signed, IntKind.bits]
  omega
theorem cv53 (k : Nat) (h : k < 256) (M : Mem) : convV Tryz.prog 5 3 M (.int .u8 k) = some (.int .i64 k) := by
  have := wrap_small k h
  simp only [convV, kd5, kd3, this]
theorem cv5u (k : Nat) (M : Mem) : convV Tryz.prog 5 121 M (.int .u8 k) = some (.int .u64 (IntKind.wrap .u64 k)) := by
  simp only [convV, kd5, kd121]
theorem size_E (f k : Nat) (bs : List Nat) (cp : Bool) (l : Id) (hk : f % 16 = k) (hf : f < 256) (hg : goodB f) (hn : k ≤ bs.length) (h0 : 0 < k → bs[0]? ≠ some 0) (s : Id) (M : Mem) (hM : FreshM s M) (hl : M l = some (.cells [.psl ((f :: bs).map natV) (f :: bs).length cp])) :
    Fn E2 false 241 [.ptr l 0] s M = some (.tup [.int .u64 ((bs.take k).foldl stepB 0), .bool (decide (16 ≤ f))], M.set l (.cells [.psl ((bs.drop k).map natV) (bs.length - k) cp])) := by
  rw [Fn_body (E := E2) Tryz.func241 (by decide) rfl rfl]
  obtain ⟨g1, g2, g3⟩ := hg
  have t1 : ∀ s, Fn E2 false 253 [.ptr l 0, .int .i64 1] s M = some (.psl [.int .u8 f] 1 (cp && 1 == (f :: bs).length), M.set l (.cells [.psl (bs.map natV) bs.length cp])) := fun s => by
    have := take_E (f :: bs) cp l 1 (by simp) s M hl
    simpa [natV] using this
  have t2 : ∀ s, Fn E2 false 253 [.ptr l 0, .int .i64 k] s (M.set l (.cells [.psl (bs.map natV) bs.length cp])) = some (.psl ((bs.take k).map natV) k (cp && k == bs.length), M.set l (.cells [.psl ((bs.drop k).map natV) (bs.length - k) cp])) := fun s => by
    have := take_E bs cp l k hn s (M.set l (.cells [.psl (bs.map natV) bs.length cp])) (by simp [Mem.set])
    rw [this, Mem.set_set]
  have hand := bin_andNot f g1
  rw [hk] at hand g2 g3
  have hcv := cv53 k (by omega)
  have c1 : ((f : Int) < 32) = True := by simp; omega
  have c2 : ((k : Int) ≤ 8) = True := by simp; omega
  have hfin : (decide (16 ≤ (f : Int))) = decide (16 ≤ f) := by congr 1; simp; omega
  have hlen : (bs.take k).length = k := by simp; omega
  have hdr : ∀ j (hj : j < k), (List.map natV (bs.take k)).drop j = .int .u8 ((bs.take k)[j]'(by omega) : Nat) :: (List.map natV (bs.take k)).drop (j + 1) := fun j hj => by
    rw [List.drop_eq_getElem_cons (by simp; omega)]; simp [natV]
  have h00 : ∀ (hj : 0 < k), (0 < ((bs.take k)[0]'(by omega) : Int)) = True := by
    intro hj
    have := h0 hj
    cases bs with
    | nil => simp at hn; omega
    | cons b bs => simp at this ⊢; omega
  by_cases hk0 : 0 < k
  all_goals
    first
    | (have c3 : (0 < (k : Int)) = True := by simp; omega
       simp (maxDischargeDepth := 80) only [push_cast, Nat.reduceBEq, reduceIte, reduceCtorEq, Nat.reduceEqDiff, Nat.reduceAdd, Nat.reduceMul, Nat.reduceSub, Nat.reduceLeDiff, Nat.reduceLT, Nat.reducePow, Int.reduceToNat, Int.reduceLT, Int.reduceLE, Int.reduceEq, Int.reduceAdd, Int.reduceSub, Int.reduceNeg, t1, t2, hand, hcv, c1, c2, c3, must_E])
    | (have c3 : (0 < (k : Int)) = False := by simp; omega
       have c4 : (16 ≤ (f : Int)) = False := by simp; omega
       simp (maxDischargeDepth := 80) only [push_cast, Nat.reduceBEq, reduceIte, reduceCtorEq, Nat.reduceEqDiff, Nat.reduceAdd, Nat.reduceMul, Nat.reduceSub, Nat.reduceLeDiff, Nat.reduceLT, Nat.reducePow, Int.reduceToNat, Int.reduceLT, Int.reduceLE, Int.reduceEq, Int.reduceAdd, Int.reduceSub, Int.reduceNeg, t1, t2, hand, hcv, c1, c2, c3, c4, must_E])
    try rw [hfin]
    refine lp_rule (fun s1 j g M' => g 7 = .int .u64 (((bs.take k).take j).foldl stepB 0) ∧ g 36 = .psl ((bs.take k).map natV) k (cp && k == bs.length) ∧ g 37 = .int .i64 k ∧ g 38 = .int .i64 j ∧ g 5 = .bool (decide (16 ≤ f)) ∧ M' = M.set l (.cells [.psl ((bs.drop k).map natV) (bs.length - k) cp])) k ?_ (Nat.zero_le _) ?_ ?_
  case pos.refine_1 => refine ⟨?_, ?_, ?_, ?_, ?_, rfl⟩ <;> simp (maxDischargeDepth := 80) only [push_cast, Nat.reduceBEq, reduceIte, reduceCtorEq, Nat.reduceEqDiff, Nat.reduceAdd, Nat.reduceMul, Nat.reduceSub, Nat.reduceLeDiff, Nat.reduceLT, Nat.reducePow, Int.reduceToNat, Int.reduceLT, Int.reduceLE, Int.reduceEq, Int.reduceAdd, Int.reduceSub, Int.reduceNeg, List.foldl_nil]
  case neg.refine_1 =>
    have c5 : decide (16 ≤ f) = false := by simp; omega
    refine ⟨?_, ?_, ?_, ?_, ?_, rfl⟩ <;> simp (maxDischargeDepth := 80) only [push_cast, Nat.reduceBEq, reduceIte, reduceCtorEq, Nat.reduceEqDiff, Nat.reduceAdd, Nat.reduceMul, Nat.reduceSub, Nat.reduceLeDiff, Nat.reduceLT, Nat.reducePow, Int.reduceToNat, Int.reduceLT, Int.reduceLE, Int.reduceEq, Int.reduceAdd, Int.reduceSub, Int.reduceNeg, List.foldl_nil, c5]
  case pos.refine_2 | neg.refine_2 =>
    rintro j g M' hj ⟨h7, h36, h37, h38, h5, rfl⟩ ih
    have hjk : ((j : Int) < (k : Int)) = True := by simp; omega
    have hjn : (0 ≤ (j : Int)) = True := by simp
    have hd := hdr j hj
    have hst : ((bs.take k).take (j + 1)).foldl stepB 0 = stepB (((bs.take k).take j).foldl stepB 0) ((bs.take k)[j]'(by omega)) := by
      rw [List.take_succ_eq_append_getElem (by omega), List.foldl_append]; rfl
    have hwn := wrap_natR j (by omega)
    have key : ∀ (hh : (0 < (j : Int)) = True ∨ ((0 < (j : Int)) = False ∧ (0 < (((bs.take k)[j]'(by omega) : Nat) : Int)) = True)), (0 < (j : Int)) = True ∨ ((0 < (j : Int)) = False ∧ (0 < (((bs.take k)[j]'(by omega) : Nat) : Int)) = True) := fun h => h
    have hcs : (0 < (j : Int)) = True ∨ ((0 < (j : Int)) = False ∧ (0 < (((bs.take k)[j]'(by omega) : Nat) : Int)) = True) := by
      by_cases hj0 : 0 < j
      · left; simp; omega
      · right
        obtain rfl : j = 0 := by omega
        exact ⟨by simp, h00 hj⟩
    rcases hcs with hj1 | ⟨hj1, h0'⟩
    · simp (maxDischargeDepth := 80) only [push_cast, Nat.reduceBEq, reduceIte, reduceCtorEq, Nat.reduceEqDiff, Nat.reduceAdd, Nat.reduceMul, Nat.reduceSub, Nat.reduceLeDiff, Nat.reduceLT, Nat.reducePow, Int.reduceToNat, Int.reduceLT, Int.reduceLE, Int.reduceEq, Int.reduceAdd, Int.reduceSub, Int.reduceNeg, h7, h36, h37, h38, h5, hjk, hjn, hd, hj1, must_E, bin_or, cv5u, hwn, Int.toNat_natCast]
      refine ih _ _ ⟨?_, ?_, ?_, ?_, ?_, rfl⟩
      · simp (maxDischargeDepth := 80) only [push_cast, Nat.reduceBEq, reduceIte, reduceCtorEq, Nat.reduceEqDiff, Nat.reduceAdd, Nat.reduceMul, Nat.reduceSub, Nat.reduceLeDiff, Nat.reduceLT, Nat.reducePow, Int.reduceToNat, Int.reduceLT, Int.reduceLE, Int.reduceEq, Int.reduceAdd, Int.reduceSub, Int.reduceNeg, hst, stepB]
        rfl
      all_goals simp (maxDischargeDepth := 80) only [push_cast, Nat.reduceBEq, reduceIte, reduceCtorEq, Nat.reduceEqDiff, Nat.reduceAdd, Nat.reduceMul, Nat.reduceSub, Nat.reduceLeDiff, Nat.reduceLT, Nat.reducePow, Int.reduceToNat, Int.reduceLT, Int.reduceLE, Int.reduceEq, Int.reduceAdd, Int.reduceSub, Int.reduceNeg, h36, h37, h5]
    · simp (maxDischargeDepth := 80) only [push_cast, Nat.reduceBEq, reduceIte, reduceCtorEq, Nat.reduceEqDiff, Nat.reduceAdd, Nat.reduceMul, Nat.reduceSub, Nat.reduceLeDiff, Nat.reduceLT, Nat.reducePow, Int.reduceToNat, Int.reduceLT, Int.reduceLE, Int.reduceEq, Int.reduceAdd, Int.reduceSub, Int.reduceNeg, h7, h36, h37, h38, h5, hjk, hjn, hd, hj1, h0', must_E, bin_or, cv5u, hwn, Int.toNat_natCast]
      refine ih _ _ ⟨?_, ?_, ?_, ?_, ?_, rfl⟩
      · simp (maxDischargeDepth := 80) only [push_cast, Nat.reduceBEq, reduceIte, reduceCtorEq, Nat.reduceEqDiff, Nat.reduceAdd, Nat.reduceMul, Nat.reduceSub, Nat.reduceLeDiff, Nat.reduceLT, Nat.reducePow, Int.reduceToNat, Int.reduceLT, Int.reduceLE, Int.reduceEq, Int.reduceAdd, Int.reduceSub, Int.reduceNeg, hst, stepB]
        rfl
      all_goals simp (maxDischargeDepth := 80) only [push_cast, Nat.reduceBEq, reduceIte, reduceCtorEq, Nat.reduceEqDiff, Nat.reduceAdd, Nat.reduceMul, Nat.reduceSub, Nat.reduceLeDiff, Nat.reduceLT, Nat.reducePow, Int.reduceToNat, Int.reduceLT, Int.reduceLE, Int.reduceEq, Int.reduceAdd, Int.reduceSub, Int.reduceNeg, h36, h37, h5]
  case pos.refine_3 | neg.refine_3 =>
    rintro g M' ⟨h7, h36, h37, h38, h5, rfl⟩
    simp (maxDischargeDepth := 80) only [push_cast, Nat.reduceBEq, reduceIte, reduceCtorEq, Nat.reduceEqDiff, Nat.reduceAdd, Nat.reduceMul, Nat.reduceSub, Nat.reduceLeDiff, Nat.reduceLT, Nat.reducePow, Int.reduceToNat, Int.reduceLT, Int.reduceLE, Int.reduceEq, Int.reduceAdd, Int.reduceSub, Int.reduceNeg, h7, h36, h37, h38, h5, Int.lt_irrefl]
    rw [List.take_take, Nat.min_self]

theorem number_E (f k : Nat) (bs : List Nat) (cp : Bool) (l m o : Id) (most : Int) (x : V) (hk : f % 16 = k) (hf : f < 256) (hg : goodB f) (hn : k ≤ bs.length) (h0 : 0 < k → bs[0]? ≠ some 0) (hf2 : f < 16) (hmost : (bs.take k).foldl stepB 0 ≤ most) (s : Id) (M : Mem) (hM : FreshM s M)
    (hl : M l = some (.cells [.psl ((f :: bs).map natV) (f :: bs).length cp])) (hm : M m = some (.cells [.int .u64 most])) (ho : M o = some (.cells [x])) (e1 : (m = l) = False) (e2 : (o = l) = False) :
    Fn E2 false 240 [.ptr l 0, .ptr m 0, .ptr o 0] s M = some (.tup [], (M.set l (.cells [.psl ((bs.drop k).map natV) (bs.length - k) cp])).set o (.cells [.int .u64 ((bs.take k).foldl stepB 0)])) := by
  rw [Fn_body (E := E2) Tryz.func240 (by decide) rfl rfl]
  have h1 := size_E f k bs cp l hk hf hg hn h0 (1 :: 0 :: 0 :: s) M (fresh_dn hM ⟨[1, 0, 0], rfl⟩) hl
  have c1 : decide (16 ≤ f) = false := by simp; omega
  have c2 : ((bs.take k).foldl stepB 0 ≤ most) = True := eq_true hmost
  simp (maxDischargeDepth := 80) only [push_cast, Nat.reduceBEq, reduceIte, reduceCtorEq, Nat.reduceEqDiff, Nat.reduceAdd, Nat.reduceMul, Nat.reduceSub, Nat.reduceLeDiff, Nat.reduceLT, Nat.reducePow, Int.reduceToNat, Int.reduceLT, Int.reduceLE, Int.reduceEq, Int.reduceAdd, Int.reduceSub, Int.reduceNeg, h1, c1, c2, hl, hm, ho, e1, e2, must_E]
end Go.Ab.R

/- Where code of the reader panics: rules over the evaluator. Conditions: none. -/
set_option maxRecDepth 100000
namespace Go.Ab
open Go.Proofs Go.RowKit

abbrev amissL : List PanicEntry := [{ v := .iface 251 (.agg #[]), recovered := false }]

theorem must_f (w : World) : Calls Tryz.prog 242 #[.bool false] w fun e w' => e = .panicked amissL ∧ w' = w := by
  go_enter Tryz.func242, Tryz.ntmps242
  go_wp2
  exact ⟨rfl, rfl, rfl⟩

/-- operations that the evaluator knows, and others behind them -/
theorem ops_app {E : Env} (hS : Sound E) {cur : FuncId} {all : Array Oper} {s : Id} {D : List Deferred} {l2 : List Oper} : ∀ (n : Nat) (l : List Oper) (k : Nat) (f : Tm) (M : Mem) (f' : Tm) (M' : Mem), opsN E n cur all l k s f M = some (f', M') →
    ∀ (N : Nat), (∀ o ∈ l, ∀ t, o.dst = some t → t < N) → ∀ (ι : Inj) (C : Fro) (a : Act) (w : World) (Q : Exit → Act → World → Prop), TR ι C f a.tmps → MR ι C M w → (∀ j, k ≤ j → Fresh (j :: s) ι) → (∀ j, k ≤ j → FreshM (j :: s) M) → a.defers = D → N ≤ a.tmps.size →
    (∀ a' w' ι' C', TR ι' C' f' a'.tmps → MR ι' C' M' w' → Stp s ι C M w ι' C' M' w' → (∀ j, k + l.length ≤ j → Fresh (j :: s) ι') → (∀ j, k + l.length ≤ j → FreshM (j :: s) M') → a'.defers = D → a'.tmps.size = a.tmps.size → wpList E.P all Q l2 a' w') → wpList E.P all Q (l ++ l2) a w
  | 0, l, k, f, M, f', M', h => by simp [opsN] at h
  | n + 1, [], k, f, M, f', M', h => by
    intro N _ ι C a w Q ht hm hF hFM hd hsz hQ
    simp only [opsN, Option.some.injEq, Prod.mk.injEq] at h
    obtain ⟨rfl, rfl⟩ := h
    exact hQ a w ι C ht hm (.refl _ _ _ _ _) (by simpa using hF) (by simpa using hFM) hd rfl
  | n + 1, o :: l, k, f, M, f', M', h => by
    intro N hN ι C a w Q ht hm hF hFM hd hsz hQ
    have hdst : ∀ t, o.dst = some t → t < a.tmps.size := fun t e => Nat.lt_of_lt_of_le (hN o (List.mem_cons_self ..) t e) hsz
    simp only [opsN] at h
    have hput : ∀ (c : Value), (a.put o.dst c).defers = D := fun c => by rw [← hd]; cases o.dst <;> rfl
    have hids := allIds E hS.prim
    have hlen : ∀ j, k + 1 + l.length ≤ j ↔ k + (o :: l).length ≤ j := fun j => by simp only [List.length_cons]; omega
    rw [List.cons_append]
    split at h
    · rename_i hw
      have := wanted_sound hw ht
      simp only [wpList, this, Bool.false_eq_true, if_false]
      exact ops_app hS n l (k + 1) _ M f' M' h N (fun o' ho' => hN o' (List.mem_cons_of_mem _ ho')) ι C _ w Q (ht.put undef_rel hdst) hm (fun j hj => hF j (by omega)) (fun j hj => hFM j (by omega)) (hput _) (by rw [Act.put_size]; exact hsz)
        (fun a' w' ι' C' g1 g2 g3 g6 g7 g4 g5 => hQ a' w' ι' C' g1 g2 g3 (fun j hj => g6 j ((hlen j).2 hj)) (fun j hj => g7 j ((hlen j).2 hj)) g4 (by rw [g5, Act.put_size]))
    · rename_i hw
      have := wanted_sound hw ht
      simp only [wpList, this, if_true]
      split at h
      · rename_i v M1 h1
        refine .inl ((all_sound hS n).2.2 cur o (k :: s) f M v M1 h1 ι C a w _ Q ht hm (hF k (Nat.le_refl _)) (hFM k (Nat.le_refl _)) (fun c w' ι' C' g1 g2 g3 => ?_))
        have hi := (hids n).op _ _ _ _ _ _ _ h1
        exact ops_app hS n l (k + 1) _ M1 f' M' h N (fun o' ho' => hN o' (List.mem_cons_of_mem _ ho')) ι' C' _ w' Q ((ht.mono g3.dom g3.fro).put g1 hdst) g2 (fun j hj => (hF j (by omega)).next g3 (by omega)) (fun j hj => (hFM j (by omega)).next hi (by omega)) (hput _)
          (by rw [Act.put_size]; exact hsz) (fun a' w'' ι'' C'' q1 q2 q3 q6 q7 q4 q5 => hQ a' w'' ι'' C'' q1 q2 ((g3.weaken (List.suffix_cons k s)).trans q3) (fun j hj => q6 j ((hlen j).2 hj)) (fun j hj => q7 j ((hlen j).2 hj)) q4 (by rw [q5, Act.put_size]))
      · cases h
    · cases h

/-- a call panics, and leaves such a memory -/
def PF (E : Env) (g : FuncId) (args : List V) (s : Id) (M : Mem) (S : Mem → Prop) : Prop :=
  ∀ (ι : Inj) (C : Fro) (w : World) (cargs : Array Value), LR ι C args cargs → MR ι C M w → Fresh s ι → FreshM s M →
    Calls E.P g cargs w fun e w' => e = .panicked amissL ∧ ∃ ι' C' M', S M' ∧ MR ι' C' M' w' ∧ Stp s ι C M w ι' C' M' w'
/-- code panics -/
def PC (E : Env) (N : Nat) (c : Code) (s : Id) (f : Tm) (M : Mem) (S : Mem → Prop) : Prop :=
  ∀ (ι : Inj) (C : Fro) (a : Act) (w : World) (Q : Exit → Act → World → Prop), TR ι C f a.tmps → MR ι C M w → Fresh s ι → FreshM s M → a.defers = [] → N ≤ a.tmps.size →
    (∀ a' w' ι' C' M', S M' → MR ι' C' M' w' → Stp s ι C M w ι' C' M' w' → a'.defers = [] → Q (.panic amissL) a' w') → c.wp E.P Q a w

theorem PF_of_PC {E : Env} {g : FuncId} {fn : Func} {c : Code} {args : List V} {s : Id} {M : Mem} {S : Mem → Prop} (hf : E.P.funcs[g]? = some fn) (hb : fn.body = some c) (h : PC E fn.ntmps c (0 :: s) (argsTm args) M S) : PF E g args s M S := by
  intro ι C w cargs ha hm hF hFM
  refine calls_of_wp hf hb ?_
  refine h ι C _ w _ (argsTm_rel ha _) hm (hF.tail 0) (hFM.tail 0) rfl (by simp; omega) (fun a' w' ι' C' M' q0 q1 q2 q3 => ?_)
  exact ⟨q3, rfl, ι', C', M', q0, q1, q2.weaken (List.suffix_cons 0 s)⟩

theorem PC_co {E : Env} (hS : Sound E) {cur : FuncId} {N : Nat} {x y : Code} {s : Id} {f f1 : Tm} {M M1 : Mem} {S : Mem → Prop} (h1 : Co E cur x (0 :: s) f M = some (.normal, f1, M1)) (hok : okCode E cur N x = true) (h : PC E N y (1 :: s) f1 M1 S) : PC E N (.seq x y) s f M S := by
  intro ι C a w Q ht hm hF hFM hd hsz hQ
  obtain ⟨n, hn⟩ := (lim_some (co_mono E _ _ _ _ _)).1 h1
  refine wp_seq ?_
  refine (all_sound hS n).1 cur x (0 :: s) f M _ _ _ hn N hok ι C a w _ ht hm (hF.tail 0) (hFM.tail 0) hd hsz (fun a1 w1 ι1 C1 q1 q2 q3 q4 q5 => ?_)
  have hi := ((allIds E hS.prim) n).code _ _ _ _ _ _ _ _ hn
  exact h ι1 C1 a1 w1 Q q1 q2 ((hF.tail 1).next q3 (by omega)) ((hFM.tail 1).next hi (by omega)) q4 (by omega)
    (fun a2 w2 ι2 C2 M2 p0 p1 p2 p3 => hQ a2 w2 ι2 C2 M2 p0 p1 ((q3.weaken (List.suffix_cons 0 s)).trans (p2.weaken (List.suffix_cons 1 s))) p3)
theorem PC_fst {E : Env} {N : Nat} {x y : Code} {s : Id} {f : Tm} {M : Mem} {S : Mem → Prop} (h : PC E N x (0 :: s) f M S) : PC E N (.seq x y) s f M S := by
  intro ι C a w Q ht hm hF hFM hd hsz hQ
  refine wp_seq ?_
  exact h ι C a w _ ht hm (hF.tail 0) (hFM.tail 0) hd hsz (fun a' w' ι' C' M' q0 q1 q2 q3 => hQ a' w' ι' C' M' q0 q1 (q2.weaken (List.suffix_cons 0 s)) q3)
theorem PC_block {E : Env} {N : Nat} {id : Nat} {x : Code} {s : Id} {f : Tm} {M : Mem} {S : Mem → Prop} (h : PC E N x (0 :: s) f M S) : PC E N (.block id x) s f M S := by
  intro ι C a w Q ht hm hF hFM hd hsz hQ
  refine wp_block ?_
  exact h ι C a w _ ht hm (hF.tail 0) (hFM.tail 0) hd hsz (fun a' w' ι' C' M' q0 q1 q2 q3 => hQ a' w' ι' C' M' q0 q1 (q2.weaken (List.suffix_cons 0 s)) q3)
theorem PC_loop {E : Env} {N : Nat} {x : Code} {s : Id} {f : Tm} {M : Mem} {S : Mem → Prop} (h : PC E N x (0 :: s) f M S) : PC E N (.loop x) s f M S := by
  intro ι C a w Q ht hm hF hFM hd hsz hQ
  refine wp_loop_once ?_
  exact h ι C a w _ ht hm (hF.tail 0) (hFM.tail 0) hd hsz (fun a' w' ι' C' M' q0 q1 q2 q3 => hQ a' w' ι' C' M' q0 q1 (q2.weaken (List.suffix_cons 0 s)) q3)

theorem Co_reg {E : Env} {cur r d s f M} {l : List Oper} (hc : Chk E cur r (List.toArray l) s f M) : Co E cur (.region r (List.toArray l) d) s f M = (run E cur [.ops (List.toArray l) l 0 s] f M).map fun x => (.normal, x.1, x.2) := by
  rw [Co_region _ _ _ _ _ _ _ hc, run_ops']
  cases Os E cur (List.toArray l) l 0 s f M <;> rfl

/-- a region that runs through, and what is behind it -/
theorem PC_reg {E : Env} (hS : Sound E) {cur : FuncId} {N r : Nat} {l : List Oper} {y : Code} {s : Id} {f : Tm} {M : Mem} {S : Mem → Prop} (hc : ∀ s f M, Chk E cur r (List.toArray l) s f M) (hok : okCode E cur N (.region r (List.toArray l) false) = true)
    (h : (run E cur [.ops (List.toArray l) l 0 (0 :: s)] f M).elim False (fun x => PC E N y (1 :: s) x.1 x.2 S)) : PC E N (.seq (.region r (List.toArray l) false) y) s f M S := by
  cases hr : run E cur [.ops (List.toArray l) l 0 (0 :: s)] f M with
  | none => rw [hr] at h; exact h.elim
  | some x =>
    rw [hr] at h
    exact PC_co hS (cur := cur) (by rw [Co_reg (hc _ _ _), hr]; rfl) hok h

theorem entry_of {P : Program} {g : FuncId} {fn : Func} {c : Code} (hf : P.funcs[g]? = some fn) (hn : fn.name ≠ "runtime.NumGoroutine") (hb : fn.body = some c) : entry P g = some (fn, c) := by
  simp only [entry, hf, hn, if_false, hb, Option.map_some]

/-- a call that panics, whatever is deferred -/
theorem wp_callD {E : Env} (hS : Sound E) {cur : FuncId} {N r : Nat} {l : List Oper} (k : Nat) {o : Oper} {c : Call} {x : Operand} {g : FuncId} {s : Id} {f : Tm} {M : Mem} {S : Mem → Prop} {D : List Deferred} (ho : l[k]? = some o) (hop : o.op = .call c) (hce : c.callee = .value x) (hg : o.guard = none)
    (hok : okCode E cur N (.region r (List.toArray l) false) = true) (hent : ∃ z, entry E.P g = some z)
    (h : (run E cur [.ops (List.toArray l) (l.take k) 0 s] f M).elim False (fun y => ∃ args, callOf (ev y.1) c = some (g, args) ∧ PF E g args (k :: s) y.2 S))
    {ι : Inj} {C : Fro} {a : Act} {w : World} {Q : Exit → Act → World → Prop} (ht : TR ι C f a.tmps) (hm : MR ι C M w) (hF : Fresh s ι) (hFM : FreshM s M) (hd : a.defers = D) (hsz : N ≤ a.tmps.size)
    (hQ : ∀ a' w' ι' C' M', S M' → MR ι' C' M' w' → Stp s ι C M w ι' C' M' w' → a'.defers = D → Q (.panic amissL) a' w') : (Code.region r (List.toArray l) false).wp E.P Q a w := by
  cases hr : run E cur [.ops (List.toArray l) (l.take k) 0 s] f M with
  | none => rw [hr] at h; exact h.elim
  | some y =>
    rw [hr] at h
    obtain ⟨args, hcall, hp⟩ := h
    have hos : Os E cur (List.toArray l) (l.take k) 0 s f M = some (y.1, y.2) := by
      rw [run_ops'] at hr
      cases hq : Os E cur (List.toArray l) (l.take k) 0 s f M with
      | none => rw [hq] at hr; cases hr
      | some z => rw [hq] at hr; simpa [run_nil] using hr
    obtain ⟨n, hn⟩ := (lim_some (os_mono E _ _ _ _ _ _ _)).1 hos
    have hk : k < l.length := (List.getElem?_eq_some_iff.1 ho).1
    have hsplit : l = l.take k ++ o :: l.drop (k + 1) := by
      have : o = l[k] := by rw [List.getElem?_eq_getElem hk] at ho; exact (Option.some.inj ho).symm
      rw [this, ← List.drop_eq_getElem_cons hk, List.take_append_drop]
    refine wp_region_list ?_
    show wpList E.P (List.toArray l) Q l a w
    have hN : ∀ o ∈ l, ∀ t, o.dst = some t → t < N := by
      simp only [okCode, Bool.and_eq_true] at hok
      intro o ho t ht'
      have := (List.all_eq_true.1 hok.1) o ho
      rw [ht'] at this
      simpa using this
    have hgoal : wpList E.P (List.toArray l) Q (l.take k ++ o :: l.drop (k + 1)) a w := by
      refine ops_app hS (D := D) n (l.take k) 0 f M y.1 y.2 hn N (fun o' ho' => hN o' (List.mem_of_mem_take ho')) ι C a w Q ht hm (fun j _ => hF.tail j) (fun j _ => hFM.tail j) hd hsz (fun a' w' ι' C' g1 g2 g3 g6 g7 g4 g5 => ?_)
      have hkk : 0 + (l.take k).length ≤ k := by simp; omega
      have hw : Region.wanted o (yielded (List.toArray l) a'.tmps) = true := by simp [Region.wanted, hg]
      simp only [wpList, hw, if_true]
      refine .inl ?_
      unfold callOf at hcall
      simp only [hce] at hcall
      split at hcall
      · rename_i g' l1 l2 hx
        simp only [Option.some.injEq, Prod.mk.injEq] at hcall
        obtain ⟨rfl, rfl⟩ := hcall
        have hxv := g1.ev x
        rw [hx] at hxv
        generalize hcx : a'.eval x = cx at hxv
        cases hxv with
        | fn _ _ _ a1 a2 e1 e2 r1 r2 =>
          have hargs : LR ι' C' (l1 ++ c.args.toList.map (ev y.1) ++ l2) (a1 ++ c.args.map a'.eval ++ a2) :=
            (LR.append (LR.append ⟨e1, r1⟩ (args_rel (fun x => g1.ev x) c.args)) ⟨e2, r2⟩)
          have hcalls := hp ι' C' w' _ hargs g2 (g6 k hkk) (g7 k hkk)
          unfold Oper.wp
          have hrun : (execOp a'.eval o).run E.P w' = .ok (.enter g' (a1 ++ c.args.map a'.eval ++ a2)) w' := by
            obtain ⟨dst, op, typ, pos, aft, grd⟩ := o
            simp only at hop; subst hop
            simp only [execOp, resolve, hce, hcx, Deferred.ofValue, Sem.run_bind, Sem.run_pure, Result.andThen_ok, invoke]
            obtain ⟨⟨fn, cc⟩, hent⟩ := hent
            exact run_callFunc hent _ w'
          rw [hrun]
          simp only [Oper.upon]
          refine hcalls.mono (fun e w'' hq => ?_)
          obtain ⟨rfl, ι2, C2, M2, q0, q1, q2⟩ := hq
          exact hQ a' w'' ι2 C2 M2 q0 q1 (g3.trans (q2.weaken (List.suffix_cons k s))) g4
      · cases hcall
    rw [← hsplit] at hgoal
    exact hgoal

theorem PC_call {E : Env} (hS : Sound E) {cur : FuncId} {N r : Nat} {l : List Oper} (k : Nat) {o : Oper} {c : Call} {x : Operand} {g : FuncId} {s : Id} {f : Tm} {M : Mem} {S : Mem → Prop} (ho : l[k]? = some o) (hop : o.op = .call c) (hce : c.callee = .value x) (hg : o.guard = none)
    (hok : okCode E cur N (.region r (List.toArray l) false) = true) (hent : ∃ z, entry E.P g = some z)
    (h : (run E cur [.ops (List.toArray l) (l.take k) 0 s] f M).elim False (fun y => ∃ args, callOf (ev y.1) c = some (g, args) ∧ PF E g args (k :: s) y.2 S)) : PC E N (.region r (List.toArray l) false) s f M S :=
  fun _ _ _ _ _ ht hm hF hFM hd hsz hQ => wp_callD hS k ho hop hce hg hok hent h ht hm hF hFM hd hsz hQ

/-- a region that runs through, whatever is deferred -/
theorem wp_regD {E : Env} (hS : Sound E) {cur : FuncId} {N r : Nat} {l : List Oper} {s : Id} {f : Tm} {M : Mem} {D : List Deferred} (hok : okCode E cur N (.region r (List.toArray l) false) = true)
    {ι : Inj} {C : Fro} {a : Act} {w : World} {Q : Exit → Act → World → Prop} (ht : TR ι C f a.tmps) (hm : MR ι C M w) (hF : Fresh s ι) (hFM : FreshM s M) (hd : a.defers = D) (hsz : N ≤ a.tmps.size)
    (h : (run E cur [.ops (List.toArray l) l 0 s] f M).elim False (fun y => ∀ a' w' ι' C', TR ι' C' y.1 a'.tmps → MR ι' C' y.2 w' → Stp s ι C M w ι' C' y.2 w' → Ids s M y.2 → a'.defers = D → a'.tmps.size = a.tmps.size → Q .normal a' w')) : (Code.region r (List.toArray l) false).wp E.P Q a w := by
  cases hr : run E cur [.ops (List.toArray l) l 0 s] f M with
  | none => rw [hr] at h; exact h.elim
  | some y =>
    rw [hr] at h
    have hos : Os E cur (List.toArray l) l 0 s f M = some (y.1, y.2) := by
      rw [run_ops'] at hr
      cases hq : Os E cur (List.toArray l) l 0 s f M with
      | none => rw [hq] at hr; cases hr
      | some z => rw [hq] at hr; simpa [run_nil] using hr
    obtain ⟨n, hn⟩ := (lim_some (os_mono E _ _ _ _ _ _ _)).1 hos
    have hi : Ids s M y.2 := ((allIds E hS.prim) n).ops _ _ _ _ _ _ _ _ _ hn
    have hN : ∀ o ∈ l, ∀ t, o.dst = some t → t < N := by
      simp only [okCode, Bool.and_eq_true] at hok
      intro o ho t ht'
      have := (List.all_eq_true.1 hok.1) o ho
      rw [ht'] at this
      simpa using this
    refine wp_region_list ?_
    show wpList E.P (List.toArray l) Q l a w
    have hgoal : wpList E.P (List.toArray l) Q (l ++ []) a w :=
      ops_app hS (D := D) n l 0 f M y.1 y.2 hn N hN ι C a w Q ht hm (fun j _ => hF.tail j) (fun j _ => hFM.tail j) hd hsz (fun a' w' ι' C' g1 g2 g3 g6 g7 g4 g5 => h a' w' ι' C' g1 g2 g3 hi g4 g5)
    rw [List.append_nil] at hgoal
    exact hgoal
end Go.Ab

/- Where the reader's functions panic. Conditions: none. -/
set_option maxRecDepth 100000
namespace Go.Ab.R
open Go Go.Proofs

theorem ent242 : ∃ z, entry E2.P 242 = some z := ⟨_, entry_of Tryz.func242 (by decide) rfl⟩
theorem ent253 : ∃ z, entry E2.P 253 = some z := ⟨_, entry_of Tryz.func253 (by decide) rfl⟩
theorem ent241 : ∃ z, entry E2.P 241 = some z := ⟨_, entry_of Tryz.func241 (by decide) rfl⟩

theorem must_P (s : Id) (M : Mem) : PF E2 242 [.bool false] s M (fun M' => M' = M) := by
  intro ι C w cargs ha hm hF hFM
  obtain ⟨c, rfl, hv⟩ := LR_one ha
  cases hv
  refine Calls.mono (must_f w) ?_
  rintro e w' ⟨rfl, rfl⟩
  exact ⟨rfl, ι, C, M, rfl, hm, .refl _ _ _ _ _⟩

theorem take_P (bs : List Nat) (cp : Bool) (l : Id) (n : Nat) (hn : bs.length < n) (s : Id) (M : Mem) (hl : M l = some (.cells [.psl (bs.map natV) bs.length cp])) : PF E2 253 [.ptr l 0, .int .i64 n] s M (fun M' => M' = M) := by
  have c1 : ((n : Int) ≤ (bs.length : Int)) = False := by simp; omega
  refine PF_of_PC (E := E2) Tryz.func253 rfl ?_
  refine PC_reg sound2 (cur := 253) (fun _ _ _ => E2chk _ _ _ _ _ _) (by decide) ?_
  simp (maxDischargeDepth := 80) only [push_cast, Nat.reduceBEq, reduceIte, reduceCtorEq, Nat.reduceEqDiff, Nat.reduceAdd, Nat.reduceMul, Nat.reduceSub, Nat.reduceLeDiff, Nat.reduceLT, Nat.reducePow, Int.reduceToNat, Int.reduceLT, Int.reduceLE, Int.reduceEq, Int.reduceAdd, Int.reduceSub, Int.reduceNeg, Option.elim_some]
  refine PC_fst ?_
  refine PC_call sound2 (cur := 253) 6 rfl rfl rfl rfl (by decide) ent242 ?_
  simp (maxDischargeDepth := 80) only [push_cast, Nat.reduceBEq, reduceIte, reduceCtorEq, Nat.reduceEqDiff, Nat.reduceAdd, Nat.reduceMul, Nat.reduceSub, Nat.reduceLeDiff, Nat.reduceLT, Nat.reducePow, Int.reduceToNat, Int.reduceLT, Int.reduceLE, Int.reduceEq, Int.reduceAdd, Int.reduceSub, Int.reduceNeg, Option.elim_some, hl, c1]
  exact ⟨_, rfl, must_P _ _⟩

theorem take_Pn (l : Id) (s : Id) (M : Mem) (hl : M l = some (.cells [.nils])) : PF E2 253 [.ptr l 0, .int .i64 1] s M (fun M' => M' = M) := by
  refine PF_of_PC (E := E2) Tryz.func253 rfl ?_
  refine PC_reg sound2 (cur := 253) (fun _ _ _ => E2chk _ _ _ _ _ _) (by decide) ?_
  simp (maxDischargeDepth := 80) only [push_cast, Nat.reduceBEq, reduceIte, reduceCtorEq, Nat.reduceEqDiff, Nat.reduceAdd, Nat.reduceMul, Nat.reduceSub, Nat.reduceLeDiff, Nat.reduceLT, Nat.reducePow, Int.reduceToNat, Int.reduceLT, Int.reduceLE, Int.reduceEq, Int.reduceAdd, Int.reduceSub, Int.reduceNeg, Option.elim_some]
  refine PC_fst ?_
  refine PC_call sound2 (cur := 253) 6 rfl rfl rfl rfl (by decide) ent242 ?_
  simp (maxDischargeDepth := 80) only [push_cast, Nat.reduceBEq, reduceIte, reduceCtorEq, Nat.reduceEqDiff, Nat.reduceAdd, Nat.reduceMul, Nat.reduceSub, Nat.reduceLeDiff, Nat.reduceLT, Nat.reducePow, Int.reduceToNat, Int.reduceLT, Int.reduceLE, Int.reduceEq, Int.reduceAdd, Int.reduceSub, Int.reduceNeg, Option.elim_some, hl]
  exact ⟨_, rfl, must_P _ _⟩

theorem pfm {E : Env} {g : FuncId} {args : List V} {s : Id} {M : Mem} {S S' : Mem → Prop} (h : PF E g args s M S) (hs : ∀ M', S M' → S' M') : PF E g args s M S' := fun ι C w cargs ha hm hF hFM =>
  (h ι C w cargs ha hm hF hFM).mono fun e w' ⟨h1, ι', C', M', h2, h3, h4⟩ => ⟨h1, ι', C', M', hs _ h2, h3, h4⟩
/-- all is as it was but for one object -/
def But (l : Id) (M M' : Mem) : Prop := ∀ i, i ≠ l → M' i = M i
theorem But_set (l : Id) (M : Mem) (o : AObj) : But l M (M.set l o) := fun i hi => by simp [Mem.set, hi]

theorem size_P1 (v : V) (hv : v = .nils ∨ ∃ cp, v = .psl [] 0 cp) (l : Id) (s : Id) (M : Mem) (hl : M l = some (.cells [v])) : PF E2 241 [.ptr l 0] s M (But l M) := by
  have ht : ∀ s, PF E2 253 [.ptr l 0, .int .i64 1] s M (fun M' => M' = M) := by
    intro s
    rcases hv with rfl | ⟨cp, rfl⟩
    · exact take_Pn l s M hl
    · exact take_P [] cp l 1 (by simp) s M hl
  refine PF_of_PC (E := E2) Tryz.func241 rfl ?_
  refine PC_reg sound2 (cur := 241) (fun _ _ _ => E2chk _ _ _ _ _ _) (by decide) ?_
  simp (maxDischargeDepth := 80) only [push_cast, Nat.reduceBEq, reduceIte, reduceCtorEq, Nat.reduceEqDiff, Nat.reduceAdd, Nat.reduceMul, Nat.reduceSub, Nat.reduceLeDiff, Nat.reduceLT, Nat.reducePow, Int.reduceToNat, Int.reduceLT, Int.reduceLE, Int.reduceEq, Int.reduceAdd, Int.reduceSub, Int.reduceNeg, Option.elim_some]
  refine PC_fst ?_
  refine PC_call sound2 (cur := 241) 1 rfl rfl rfl rfl (by decide) ent253 ?_
  simp (maxDischargeDepth := 80) only [push_cast, Nat.reduceBEq, reduceIte, reduceCtorEq, Nat.reduceEqDiff, Nat.reduceAdd, Nat.reduceMul, Nat.reduceSub, Nat.reduceLeDiff, Nat.reduceLT, Nat.reducePow, Int.reduceToNat, Int.reduceLT, Int.reduceLE, Int.reduceEq, Int.reduceAdd, Int.reduceSub, Int.reduceNeg, Option.elim_some]
  exact ⟨_, rfl, pfm (ht _) (by rintro _ rfl; exact fun _ _ => rfl)⟩

theorem size_P2 (f : Nat) (bs : List Nat) (cp : Bool) (l : Id) (hf : f < 256) (hbad : ¬ (goodB f ∧ f % 16 ≤ bs.length ∧ (0 < f % 16 → bs[0]? ≠ some 0))) (s : Id) (M : Mem) (hl : M l = some (.cells [.psl ((f :: bs).map natV) (f :: bs).length cp])) :
    PF E2 241 [.ptr l 0] s M (But l M) := by
  have t1 : ∀ s, Fn E2 false 253 [.ptr l 0, .int .i64 1] s M = some (.psl [.int .u8 f] 1 (cp && 1 == (f :: bs).length), M.set l (.cells [.psl (bs.map natV) bs.length cp])) := fun s => by
    have := take_E (f :: bs) cp l 1 (by simp) s M hl
    simpa [natV] using this
  obtain ⟨g, hg⟩ : ∃ g, f / 32 * 32 + f % 16 = g := ⟨_, rfl⟩
  have hand : binV Tryz.prog .andNot 5 (.int .u8 f) (.int .u8 16) = some (.int .u8 g) := by
    have := clear16 f hf
    rw [hg] at this
    simp only [binV, arithV, if_true]
    rw [← this]
    rfl
  have hcv := cv53 g (by omega)
  refine PF_of_PC (E := E2) Tryz.func241 rfl ?_
  refine PC_reg sound2 (cur := 241) (fun _ _ _ => E2chk _ _ _ _ _ _) (by decide) ?_
  simp (maxDischargeDepth := 80) only [push_cast, Nat.reduceBEq, reduceIte, reduceCtorEq, Nat.reduceEqDiff, Nat.reduceAdd, Nat.reduceMul, Nat.reduceSub, Nat.reduceLeDiff, Nat.reduceLT, Nat.reducePow, Int.reduceToNat, Int.reduceLT, Int.reduceLE, Int.reduceEq, Int.reduceAdd, Int.reduceSub, Int.reduceNeg, Option.elim_some]
  refine PC_reg sound2 (cur := 241) (fun _ _ _ => E2chk _ _ _ _ _ _) (by decide) ?_
  simp (maxDischargeDepth := 80) only [push_cast, Nat.reduceBEq, reduceIte, reduceCtorEq, Nat.reduceEqDiff, Nat.reduceAdd, Nat.reduceMul, Nat.reduceSub, Nat.reduceLeDiff, Nat.reduceLT, Nat.reducePow, Int.reduceToNat, Int.reduceLT, Int.reduceLE, Int.reduceEq, Int.reduceAdd, Int.reduceSub, Int.reduceNeg, Option.elim_some, t1]
  refine PC_reg sound2 (cur := 241) (fun _ _ _ => E2chk _ _ _ _ _ _) (by decide) ?_
  simp (maxDischargeDepth := 80) only [push_cast, Nat.reduceBEq, reduceIte, reduceCtorEq, Nat.reduceEqDiff, Nat.reduceAdd, Nat.reduceMul, Nat.reduceSub, Nat.reduceLeDiff, Nat.reduceLT, Nat.reducePow, Int.reduceToNat, Int.reduceLT, Int.reduceLE, Int.reduceEq, Int.reduceAdd, Int.reduceSub, Int.reduceNeg, Option.elim_some]
  refine PC_reg sound2 (cur := 241) (fun _ _ _ => E2chk _ _ _ _ _ _) (by decide) ?_
  simp (maxDischargeDepth := 80) only [push_cast, Nat.reduceBEq, reduceIte, reduceCtorEq, Nat.reduceEqDiff, Nat.reduceAdd, Nat.reduceMul, Nat.reduceSub, Nat.reduceLeDiff, Nat.reduceLT, Nat.reducePow, Int.reduceToNat, Int.reduceLT, Int.reduceLE, Int.reduceEq, Int.reduceAdd, Int.reduceSub, Int.reduceNeg, Option.elim_some, hand, hcv]
  by_cases h32 : f < 32
  rotate_left
  · have c1 : ((f : Int) < 32) = False := by simp; omega
    refine PC_fst ?_
    refine PC_call sound2 (cur := 241) 14 rfl rfl rfl rfl (by decide) ent242 ?_
    simp (maxDischargeDepth := 80) only [push_cast, Nat.reduceBEq, reduceIte, reduceCtorEq, Nat.reduceEqDiff, Nat.reduceAdd, Nat.reduceMul, Nat.reduceSub, Nat.reduceLeDiff, Nat.reduceLT, Nat.reducePow, Int.reduceToNat, Int.reduceLT, Int.reduceLE, Int.reduceEq, Int.reduceAdd, Int.reduceSub, Int.reduceNeg, Option.elim_some, c1]
    exact ⟨_, rfl, pfm (must_P _ _) (by rintro _ rfl; exact But_set _ _ _)⟩
  have c1 : ((f : Int) < 32) = True := by simp; omega
  have hgk : f % 16 = g := by omega
  rw [hgk] at hbad
  by_cases h8 : g ≤ 8
  rotate_left
  · have c2 : ((g : Int) ≤ 8) = False := by simp; omega
    refine PC_fst ?_
    refine PC_call sound2 (cur := 241) 14 rfl rfl rfl rfl (by decide) ent242 ?_
    simp (maxDischargeDepth := 80) only [push_cast, Nat.reduceBEq, reduceIte, reduceCtorEq, Nat.reduceEqDiff, Nat.reduceAdd, Nat.reduceMul, Nat.reduceSub, Nat.reduceLeDiff, Nat.reduceLT, Nat.reducePow, Int.reduceToNat, Int.reduceLT, Int.reduceLE, Int.reduceEq, Int.reduceAdd, Int.reduceSub, Int.reduceNeg, Option.elim_some, c1, c2]
    exact ⟨_, rfl, pfm (must_P _ _) (by rintro _ rfl; exact But_set _ _ _)⟩
  have c2 : ((g : Int) ≤ 8) = True := by simp; omega
  by_cases hgood : 0 < g ∨ f < 16
  rotate_left
  · have c3 : (0 < (g : Int)) = False := by simp; omega
    have c4 : (16 ≤ (f : Int)) = True := by simp; omega
    refine PC_fst ?_
    refine PC_call sound2 (cur := 241) 14 rfl rfl rfl rfl (by decide) ent242 ?_
    simp (maxDischargeDepth := 80) only [push_cast, Nat.reduceBEq, reduceIte, reduceCtorEq, Nat.reduceEqDiff, Nat.reduceAdd, Nat.reduceMul, Nat.reduceSub, Nat.reduceLeDiff, Nat.reduceLT, Nat.reducePow, Int.reduceToNat, Int.reduceLT, Int.reduceLE, Int.reduceEq, Int.reduceAdd, Int.reduceSub, Int.reduceNeg, Option.elim_some, c1, c2, c3, c4]
    exact ⟨_, rfl, pfm (must_P _ _) (by rintro _ rfl; exact But_set _ _ _)⟩
  refine PC_reg sound2 (cur := 241) (fun _ _ _ => E2chk _ _ _ _ _ _) (by decide) ?_
  have hR4 : ∀ (S : Prop), S → S := fun _ h => h
  have h4 : (0 < (g : Int)) = True ∨ ((0 < (g : Int)) = False ∧ (16 ≤ (f : Int)) = False) := by
    by_cases h0 : 0 < g
    · left; simp; omega
    · right; constructor <;> (simp; omega)
  have tail : ∀ f1 : Tm, f1 0 = .ptr l 0 → f1 6 = .int .i64 g → PC E2 58 (match Tryz.f241.body with | some (.seq _ (.seq _ (.seq _ (.seq _ (.seq _ y))))) => y | _ => .skip) (1 :: 1 :: 1 :: 1 :: 1 :: 0 :: s) f1 (M.set l (.cells [.psl (bs.map natV) bs.length cp])) (But l M) := by
    intro f1 e0 e6
    simp only [Tryz.f241]
    refine PC_reg sound2 (cur := 241) (fun _ _ _ => E2chk _ _ _ _ _ _) (by decide) ?_
    simp (maxDischargeDepth := 80) only [push_cast, Nat.reduceBEq, reduceIte, reduceCtorEq, Nat.reduceEqDiff, Nat.reduceAdd, Nat.reduceMul, Nat.reduceSub, Nat.reduceLeDiff, Nat.reduceLT, Nat.reducePow, Int.reduceToNat, Int.reduceLT, Int.reduceLE, Int.reduceEq, Int.reduceAdd, Int.reduceSub, Int.reduceNeg, Option.elim_some]
    refine PC_fst ?_
    by_cases hlen : bs.length < g
    · refine PC_fst ?_
      refine PC_call sound2 (cur := 241) 2 rfl rfl rfl rfl (by decide) ent253 ?_
      simp (maxDischargeDepth := 80) only [push_cast, Nat.reduceBEq, reduceIte, reduceCtorEq, Nat.reduceEqDiff, Nat.reduceAdd, Nat.reduceMul, Nat.reduceSub, Nat.reduceLeDiff, Nat.reduceLT, Nat.reducePow, Int.reduceToNat, Int.reduceLT, Int.reduceLE, Int.reduceEq, Int.reduceAdd, Int.reduceSub, Int.reduceNeg, Option.elim_some, e0, e6]
      exact ⟨_, rfl, pfm (take_P bs cp l g hlen _ _ (by simp [Mem.set])) (by rintro _ rfl; exact But_set _ _ _)⟩
    have t2 : ∀ s, Fn E2 false 253 [.ptr l 0, .int .i64 g] s (M.set l (.cells [.psl (bs.map natV) bs.length cp])) = some (.psl ((bs.take g).map natV) g (cp && g == bs.length), M.set l (.cells [.psl ((bs.drop g).map natV) (bs.length - g) cp])) := fun s => by
      have := take_E bs cp l g (by omega) s (M.set l (.cells [.psl (bs.map natV) bs.length cp])) (by simp [Mem.set])
      rw [this, Mem.set_set]
    have hz : 0 < g ∧ bs[0]? = some 0 := by
      refine Classical.byContradiction fun hc => hbad ⟨⟨h32, by omega, by omega⟩, by omega, fun h0 h1 => hc ⟨h0, h1⟩⟩
    obtain ⟨hz1, hz2⟩ := hz
    have hb0 : bs = 0 :: bs.tail := by
      cases bs with
      | nil => simp at hz2
      | cons b bs => simp at hz2; simp [hz2]
    have hcs : (List.map natV (bs.take g)) = .int .u8 0 :: (List.map natV (bs.take g)).tail := by
      rw [hb0]
      obtain ⟨g', rfl⟩ : ∃ g', g = g' + 1 := ⟨g - 1, by omega⟩
      simp [natV]
    generalize (List.map natV (bs.take g)).tail = tl at hcs
    rw [hcs] at t2
    refine PC_reg sound2 (cur := 241) (fun _ _ _ => E2chk _ _ _ _ _ _) (by decide) ?_
    simp (maxDischargeDepth := 80) only [push_cast, Nat.reduceBEq, reduceIte, reduceCtorEq, Nat.reduceEqDiff, Nat.reduceAdd, Nat.reduceMul, Nat.reduceSub, Nat.reduceLeDiff, Nat.reduceLT, Nat.reducePow, Int.reduceToNat, Int.reduceLT, Int.reduceLE, Int.reduceEq, Int.reduceAdd, Int.reduceSub, Int.reduceNeg, Option.elim_some, e0, e6, t2]
    refine PC_block ?_
    refine PC_loop ?_
    have c5 : (0 < (g : Int)) = True := by simp; omega
    refine PC_reg sound2 (cur := 241) (fun _ _ _ => E2chk _ _ _ _ _ _) (by decide) ?_
    simp (maxDischargeDepth := 80) only [push_cast, Nat.reduceBEq, reduceIte, reduceCtorEq, Nat.reduceEqDiff, Nat.reduceAdd, Nat.reduceMul, Nat.reduceSub, Nat.reduceLeDiff, Nat.reduceLT, Nat.reducePow, Int.reduceToNat, Int.reduceLT, Int.reduceLE, Int.reduceEq, Int.reduceAdd, Int.reduceSub, Int.reduceNeg, Option.elim_some, c5]
    refine PC_co sound2 (cur := 241) (by rw [Co_cond]; simp (maxDischargeDepth := 80) only [push_cast, Nat.reduceBEq, reduceIte, reduceCtorEq, Nat.reduceEqDiff, Nat.reduceAdd, Nat.reduceMul, Nat.reduceSub, Nat.reduceLeDiff, Nat.reduceLT, Nat.reducePow, Int.reduceToNat, Int.reduceLT, Int.reduceLE, Int.reduceEq, Int.reduceAdd, Int.reduceSub, Int.reduceNeg]; rw [Co_skip]) (by decide) ?_
    refine PC_fst ?_
    refine PC_block ?_
    refine PC_reg sound2 (cur := 241) (fun _ _ _ => E2chk _ _ _ _ _ _) (by decide) ?_
    simp (maxDischargeDepth := 80) only [push_cast, Nat.reduceBEq, reduceIte, reduceCtorEq, Nat.reduceEqDiff, Nat.reduceAdd, Nat.reduceMul, Nat.reduceSub, Nat.reduceLeDiff, Nat.reduceLT, Nat.reducePow, Int.reduceToNat, Int.reduceLT, Int.reduceLE, Int.reduceEq, Int.reduceAdd, Int.reduceSub, Int.reduceNeg, Option.elim_some, c5]
    refine PC_fst ?_
    refine PC_call sound2 (cur := 241) 6 rfl rfl rfl rfl (by decide) ent242 ?_
    simp (maxDischargeDepth := 80) only [push_cast, Nat.reduceBEq, reduceIte, reduceCtorEq, Nat.reduceEqDiff, Nat.reduceAdd, Nat.reduceMul, Nat.reduceSub, Nat.reduceLeDiff, Nat.reduceLT, Nat.reducePow, Int.reduceToNat, Int.reduceLT, Int.reduceLE, Int.reduceEq, Int.reduceAdd, Int.reduceSub, Int.reduceNeg, Option.elim_some, Int.lt_irrefl]
    exact ⟨_, rfl, pfm (must_P _ _) (by rintro _ rfl; exact But_set _ _ _)⟩
  rcases h4 with c3 | ⟨c3, c4⟩
  · simp (maxDischargeDepth := 80) only [push_cast, Nat.reduceBEq, reduceIte, reduceCtorEq, Nat.reduceEqDiff, Nat.reduceAdd, Nat.reduceMul, Nat.reduceSub, Nat.reduceLeDiff, Nat.reduceLT, Nat.reducePow, Int.reduceToNat, Int.reduceLT, Int.reduceLE, Int.reduceEq, Int.reduceAdd, Int.reduceSub, Int.reduceNeg, Option.elim_some, c1, c2, c3, must_E]
    refine tail _ ?_ ?_ <;> simp (maxDischargeDepth := 80) only [push_cast, Nat.reduceBEq, reduceIte, reduceCtorEq, Nat.reduceEqDiff, Nat.reduceAdd, Nat.reduceMul, Nat.reduceSub, Nat.reduceLeDiff, Nat.reduceLT, Nat.reducePow, Int.reduceToNat, Int.reduceLT, Int.reduceLE, Int.reduceEq, Int.reduceAdd, Int.reduceSub, Int.reduceNeg]
  · simp (maxDischargeDepth := 80) only [push_cast, Nat.reduceBEq, reduceIte, reduceCtorEq, Nat.reduceEqDiff, Nat.reduceAdd, Nat.reduceMul, Nat.reduceSub, Nat.reduceLeDiff, Nat.reduceLT, Nat.reducePow, Int.reduceToNat, Int.reduceLT, Int.reduceLE, Int.reduceEq, Int.reduceAdd, Int.reduceSub, Int.reduceNeg, Option.elim_some, c1, c2, c3, c4, must_E]
    refine tail _ ?_ ?_ <;> simp (maxDischargeDepth := 80) only [push_cast, Nat.reduceBEq, reduceIte, reduceCtorEq, Nat.reduceEqDiff, Nat.reduceAdd, Nat.reduceMul, Nat.reduceSub, Nat.reduceLeDiff, Nat.reduceLT, Nat.reducePow, Int.reduceToNat, Int.reduceLT, Int.reduceLE, Int.reduceEq, Int.reduceAdd, Int.reduceSub, Int.reduceNeg]

theorem num_P1 {g : List V} (l m o : Id) (s : Id) (M : Mem) (h : ∀ s, PF E2 241 [.ptr l 0] s M (But l M)) : PF E2 240 [.ptr l 0, .ptr m 0, .ptr o 0] s M (But l M) := by
  refine PF_of_PC (E := E2) Tryz.func240 rfl ?_
  refine PC_fst ?_
  refine PC_call sound2 (cur := 240) 1 rfl rfl rfl rfl (by decide) ent241 ?_
  simp (maxDischargeDepth := 80) only [push_cast, Nat.reduceBEq, reduceIte, reduceCtorEq, Nat.reduceEqDiff, Nat.reduceAdd, Nat.reduceMul, Nat.reduceSub, Nat.reduceLeDiff, Nat.reduceLT, Nat.reducePow, Int.reduceToNat, Int.reduceLT, Int.reduceLE, Int.reduceEq, Int.reduceAdd, Int.reduceSub, Int.reduceNeg, Option.elim_some]
  exact ⟨_, rfl, h _⟩

theorem number_P (bs : List Nat) (hbs : ∀ b ∈ bs, b < 256) (cp : Bool) (l m o : Id) (most : Int) (hn : decB most bs = none) (s : Id) (M : Mem) (hM : FreshM s M) (hl : M l = some (.cells [.psl (bs.map natV) bs.length cp])) (hm : M m = some (.cells [.int .u64 most])) (e1 : (m = l) = False) :
    PF E2 240 [.ptr l 0, .ptr m 0, .ptr o 0] s M (But l M) := by
  cases bs with
  | nil => exact num_P1 (g := []) l m o s M (fun s => size_P1 _ (.inr ⟨cp, rfl⟩) l s M hl)
  | cons f r =>
    have hf : f < 256 := hbs f (by simp)
    by_cases hgood : goodB f ∧ f % 16 ≤ r.length ∧ (0 < f % 16 → r[0]? ≠ some 0)
    rotate_left
    · exact num_P1 (g := []) l m o s M (fun s => size_P2 f r cp l hf hgood s M hl)
    obtain ⟨g1, g2, g3⟩ := hgood
    have hno : ¬ (f < 16 ∧ (r.take (f % 16)).foldl stepB 0 ≤ most) := by
      intro ⟨h1, h2⟩
      simp only [decB] at hn
      rw [if_pos ⟨g1, g2, g3, h1, h2⟩] at hn
      cases hn
    have h1 := size_E f (f % 16) r cp l rfl hf g1 g2 g3 (1 :: 0 :: 0 :: s) M (fresh_dn hM ⟨[1, 0, 0], rfl⟩) hl
    generalize hk : f % 16 = k at *
    refine PF_of_PC (E := E2) Tryz.func240 rfl ?_
    refine PC_reg sound2 (cur := 240) (fun _ _ _ => E2chk _ _ _ _ _ _) (by decide) ?_
    simp (maxDischargeDepth := 80) only [push_cast, Nat.reduceBEq, reduceIte, reduceCtorEq, Nat.reduceEqDiff, Nat.reduceAdd, Nat.reduceMul, Nat.reduceSub, Nat.reduceLeDiff, Nat.reduceLT, Nat.reducePow, Int.reduceToNat, Int.reduceLT, Int.reduceLE, Int.reduceEq, Int.reduceAdd, Int.reduceSub, Int.reduceNeg, Option.elim_some, h1]
    by_cases h16 : f < 16
    · have c1 : decide (16 ≤ f) = false := by simp; omega
      have c2 : ((r.take k).foldl stepB 0 ≤ most) = False := eq_false (fun h => hno ⟨h16, h⟩)
      refine PC_fst ?_
      refine PC_call sound2 (cur := 240) 7 rfl rfl rfl rfl (by decide) ent242 ?_
      simp (maxDischargeDepth := 80) only [push_cast, Nat.reduceBEq, reduceIte, reduceCtorEq, Nat.reduceEqDiff, Nat.reduceAdd, Nat.reduceMul, Nat.reduceSub, Nat.reduceLeDiff, Nat.reduceLT, Nat.reducePow, Int.reduceToNat, Int.reduceLT, Int.reduceLE, Int.reduceEq, Int.reduceAdd, Int.reduceSub, Int.reduceNeg, Option.elim_some, c1, c2, hm, e1]
      exact ⟨_, rfl, pfm (must_P _ _) (by rintro _ rfl; exact But_set _ _ _)⟩
    · have c1 : decide (16 ≤ f) = true := by simp; omega
      refine PC_fst ?_
      refine PC_call sound2 (cur := 240) 7 rfl rfl rfl rfl (by decide) ent242 ?_
      simp (maxDischargeDepth := 80) only [push_cast, Nat.reduceBEq, reduceIte, reduceCtorEq, Nat.reduceEqDiff, Nat.reduceAdd, Nat.reduceMul, Nat.reduceSub, Nat.reduceLeDiff, Nat.reduceLT, Nat.reducePow, Int.reduceToNat, Int.reduceLT, Int.reduceLE, Int.reduceEq, Int.reduceAdd, Int.reduceSub, Int.reduceNeg, Option.elim_some, c1]
      exact ⟨_, rfl, pfm (must_P _ _) (by rintro _ rfl; exact But_set _ _ _)⟩
end Go.Ab.R

/- The reader's number: what defers and recovers. Conditions: none. -/
set_option maxRecDepth 100000
namespace Go.Ab.R
open Go Go.Proofs Go.RowKit

theorem catch_P (p : Addr) (b o : Nat) (v0 : Value) (w : World) (hc : w.cell? p = some (.pointer (some ⟨b, o, none⟩))) (hv : w.cell? ⟨b, o + 1, none⟩ = some v0) (hz : w.frozen? ⟨b, o + 1, none⟩ = false) :
    CallsD Tryz.prog 252 #[.pointer (some p)] (.panicking amissL) w fun e u' w' =>
      e = .returned (.tuple #[]) ∧ u' = .panicking [{ v := .iface 251 (.agg #[]), recovered := true }] ∧ w' = w.setCell ⟨b, o + 1, none⟩ (.bool true) := by
  refine callsD_of_wpS Tryz.func252 rfl fun c₀ cs hu => ?_
  apply wpS_seq
  apply wpS_region
  simp [wpOpsS, go_sem, recoverD, hu, Tryz.ntmps252, Exit.thenS]
  apply wpS_seq
  apply wpS_region
  simp [wpOpsS, go_sem, recoverD, hu, Tryz.ntmps252, Exit.thenS]
  refine wpS_cond (t := true) (by simp [Act.eval, Array.replicate]) ?_
  simp only [if_true]
  apply wpS_region
  simp [wpOpsS, go_sem, hc, hv, hz, bodyPostS, results]

theorem catch_I (p : Addr) (w : World) :
    CallsD Tryz.prog 252 #[.pointer (some p)] .returning w fun e u' w' => e = .returned (.tuple #[]) ∧ u' = .returning ∧ w' = w := by
  refine callsD_of_wpS Tryz.func252 rfl fun c₀ cs hu => ?_
  apply wpS_seq
  apply wpS_region
  simp [wpOpsS, go_sem, recoverD, hu, Tryz.ntmps252, Exit.thenS]
  apply wpS_seq
  apply wpS_region
  simp [wpOpsS, go_sem, recoverD, hu, Tryz.ntmps252, Exit.thenS]
  refine wpS_cond (t := false) (by simp [Act.eval, Array.replicate]) ?_
  simp only [Bool.false_eq_true, if_false]
  refine wpS_of_wp (wp_skip ?_)
  cases c₀
  simp_all [bodyPostS, results]


theorem wpl_defer {P : Program} {all : Array Oper} {Q : Exit → Act → World → Prop} {l : List Oper} {o : Oper} {a : Act} {w w' : World} {d : Deferred} (hg : o.guard = none) (h : (execOp a.eval o).run P w = .ok (.defer d) w') (hK : wpList P all Q l ({ a with defers := d :: a.defers }.put o.dst undef) w') : wpList P all Q (o :: l) a w := by
  have hw : Region.wanted o (yielded all a.tmps) = true := by simp [Region.wanted, hg]
  simp only [wpList, hw, if_true]
  refine .inl ?_
  unfold Oper.wp
  rw [h]
  exact hK

theorem close_P {box r : Id} {ι C M w} {bb oo rr : Nat} {l9 : V} {b9 : Bool} (hm : MR ι C M w) (hbox : ι box = some (.at bb oo rr)) (hB : M box = some (.cells [.ptr r 0])) (hR : M r = some (.cells [l9, .bool b9])) (s : Id) :
    CallsD Tryz.prog 252 #[.pointer (some ⟨bb, oo, none⟩)] (.panicking amissL) w fun e u' w' =>
      e = .returned (.tuple #[]) ∧ u' = .panicking [{ v := .iface 251 (.agg #[]), recovered := true }] ∧ MR ι C (M.set r (.cells [l9, .bool true])) w' ∧ Stp s ι C M w ι C (M.set r (.cells [l9, .bool true])) w' := by
  obtain ⟨b1, o1, r1, he, hO⟩ := hm.obj box _ _ hbox hB
  cases he
  cases hO with
  | cells _ _ _ _ arr el hbk hr hl hone hval =>
    have hv := hval 0 (by simp) (by simp at hl; omega)
    simp only [List.getElem_cons_zero, Nat.add_zero] at hv
    have hcell : w.cell? ⟨bb, oo, none⟩ = some (arr[oo]'(by simp at hl; omega)) := by
      rw [cell_some hbk, Array.getElem?_eq_getElem (by simp at hl; omega)]
    generalize arr[oo]'(by simp at hl; omega) = cv at hv hcell
    cases hv with
    | ptr _ _ pl a hij h2 =>
      obtain ⟨b2, o2, r2, rfl, hO2⟩ := hm.obj r pl _ hij hR
      obtain rfl := h2 b2 o2 r2 rfl
      cases hO2 with
      | cells _ _ _ _ arr2 el2 hbk2 hr2 hl2 hone2 hval2 =>
        simp only [List.length_cons, List.length_nil] at hl2
        have hlt : o2 + 1 < arr2.size := by omega
        have hc2 : w.cell? ⟨b2, o2 + 1, none⟩ = some (arr2[o2 + 1]) := by rw [cell_some hbk2, Array.getElem?_eq_getElem hlt]
        refine (catch_P ⟨bb, oo, none⟩ b2 o2 _ w (by simpa using hcell) hc2 (by simp [World.frozen?, hbk2])).mono ?_
        rintro e u' w' ⟨rfl, rfl, rfl⟩
        have hbk3 : (w.setCell ⟨b2, o2 + 1, none⟩ (.bool true)).heap[b2]? = some (.cells (arr2.setIfInBounds (o2 + 1) (.bool true)) el2 (0, 0)) := by
          simp [World.setCell, Array.getElem?_modify, hbk2]
        have hO3 : ObjR ι C (w.setCell ⟨b2, o2 + 1, none⟩ (.bool true)) (.cells [l9, .bool true]) b2 o2 r2 := by
          refine .cells _ b2 o2 r2 _ el2 hbk3 (by simpa using hr2) (by simpa using hl2) ?_ ?_
          · intro j hj
            match j, hj with
            | 0, _ => exact hone2 0 (by simp)
            | 1, _ => rfl
          · intro j hj hc
            match j, hj with
            | 0, _ =>
              have := hval2 0 (by simp) (by omega)
              simp only [List.getElem_cons_zero] at this ⊢
              have e : (arr2.setIfInBounds (o2 + 1) (.bool true))[o2 + 0]'hc = arr2[o2 + 0]'(by omega) := by
                rw [Array.getElem_setIfInBounds_ne]; omega
              rw [e]
              exact this
            | 1, _ =>
              simp only [List.getElem_cons_succ, List.getElem_cons_zero, Array.getElem_setIfInBounds_self]
              exact .bool true
        obtain ⟨g1, g2⟩ := hm.change r b2 o2 r2 hij (by rw [hR]; simp) (.cells [l9, .bool true]) (w.setCell ⟨b2, o2 + 1, none⟩ (.bool true))
          (by simp [World.setCell]) (fun b' hb' => by simp [World.setCell, Array.getElem?_modify, Ne.symm hb']) rfl rfl rfl hO3 s
        exact ⟨rfl, rfl, g1, g2⟩

theorem keep_at {ι C M w ι' C' M' w'} {s : Id} {i : Id} {b o r : Nat} {ob : AObj} (h : Stp s ι C M w ι' C' M' w') (hm : MR ι' C' M' w') (hi : ι i = some (.at b o r)) (hM : M' i = some ob) : ι' i = some (.at b o r) := by
  rcases h.dom i _ hi with q | q
  · exact q
  · obtain ⟨b', o', r', e, _⟩ := hm.obj i _ _ q hM
    cases e

/-- behind the reader's body, where it panics -/
theorem door_P {box r : Id} {ι C M w} {bb oo rr : Nat} {l9 : V} {b9 : Bool} {a : Act} {R : Ending → World → Prop} (hm : MR ι C M w) (hbox : ι box = some (.at bb oo rr)) (hB : M box = some (.cells [.ptr r 0])) (hR : M r = some (.cells [l9, .bool b9])) (s : Id)
    (hd : a.defers = [{ target := .fn (.func 252) #[.pointer (some ⟨bb, oo, none⟩)], args := #[] }])
    (hK : ∀ w', MR ι C (M.set r (.cells [l9, .bool true])) w' → Stp s ι C M w ι C (M.set r (.cells [l9, .bool true])) w' → R (.returned (.tuple #[])) w') : bodyPostD Tryz.prog Tryz.f239 R (.panic amissL) a w := by
  simp only [bodyPostD]
  rw [hd]
  refine leaves_cons (f := 252) (args := #[.pointer (some ⟨bb, oo, none⟩)]) (by simp) (by simp [go_sem]) ?_
  refine (close_P hm hbox hB hR s).mono ?_
  rintro e u' w' ⟨rfl, rfl, g1, g2⟩
  simp [Leaves, settle, results, Tryz.results239, go_sem]
  exact hK w' g1 g2
/-- where it does not -/
theorem door_I {w} {bb oo : Nat} {a : Act} {R : Ending → World → Prop}
    (hd : a.defers = [{ target := .fn (.func 252) #[.pointer (some ⟨bb, oo, none⟩)], args := #[] }])
    (hK : R (.returned (.tuple #[])) w) : bodyPostD Tryz.prog Tryz.f239 R .normal a w := by
  simp only [bodyPostD]
  rw [hd]
  refine leaves_cons (f := 252) (args := #[.pointer (some ⟨bb, oo, none⟩)]) (by simp) (by simp [go_sem]) ?_
  refine (catch_I _ _).mono ?_
  rintro e u' w' ⟨rfl, rfl, rfl⟩
  simp [Leaves, settle, results, Tryz.results239, go_sem]
  exact hK

noncomputable def readCode : Code := match Tryz.f239.body with
  | some (.seq _ (.seq _ y)) => y
  | _ => .skip
/-- the reader's 239 up to where its closure is deferred -/
theorem read_0 {r m o : Id} {R : Ending → World → Prop} {s : Id} {M : Mem} {ι : Inj} {C : Fro} {w : World} {cargs : Array Value} (ha : LR ι C [.ptr r 0, .fn (.func 240) [] [.ptr m 0, .ptr o 0]] cargs) (hm : MR ι C M w) (hF : Fresh s ι) (hFM : FreshM s M)
    (h : ∀ a w' ι' C' (bb oo rr : Nat) f, f 1 = .fn (.func 240) [] [.ptr m 0, .ptr o 0] → f 2 = .ptr (0 :: 0 :: 0 :: s) 0 → TR ι' C' f a.tmps → MR ι' C' (M.set (0 :: 0 :: 0 :: s) (.cells [.ptr r 0])) w' → Stp s ι C M w ι' C' (M.set (0 :: 0 :: 0 :: s) (.cells [.ptr r 0])) w' →
      Fresh (1 :: 1 :: 0 :: s) ι' → ι' (0 :: 0 :: 0 :: s) = some (.at bb oo rr) → a.defers = [{ target := .fn (.func 252) #[.pointer (some ⟨bb, oo, none⟩)], args := #[] }] → 22 ≤ a.tmps.size → readCode.wp Tryz.prog (bodyPostD Tryz.prog Tryz.f239 R) a w') :
    Calls Tryz.prog 239 cargs w R := by
  refine calls_of_wp_defers Tryz.func239 rfl ?_
  refine wp_seq ?_
  refine wp_regD sound2 (cur := 239) (N := 22) (s := 0 :: 0 :: s) (D := []) (by decide) (argsTm_rel ha _) hm ((hF.tail 0).tail 0) ((hFM.tail 0).tail 0) rfl (by simp [Tryz.ntmps239]; omega) ?_
  simp (maxDischargeDepth := 80) only [push_cast, Nat.reduceBEq, reduceIte, reduceCtorEq, Nat.reduceEqDiff, Nat.reduceAdd, Nat.reduceMul, Nat.reduceSub, Nat.reduceLeDiff, Nat.reduceLT, Nat.reducePow, Int.reduceToNat, Int.reduceLT, Int.reduceLE, Int.reduceEq, Int.reduceAdd, Int.reduceSub, Int.reduceNeg, Option.elim_some]
  intro a1 w1 ι1 C1 t1 m1 s1 i1 d1 z1
  show Code.wp _ _ _ a1 w1
  have hz1 : 22 ≤ a1.tmps.size := by rw [z1]; simp [Tryz.ntmps239]; omega
  refine wp_seq ?_
  refine wp_region_list ?_
  have F1 : Fresh (1 :: 0 :: s) ι1 := ((hF.tail 0).tail 1).next s1 (by decide)
  refine wpl_V (f := upd (argsTm [V.ptr r 0, V.fn (Fn.func 240) [] [V.ptr m 0, V.ptr o 0]]) 2 (V.ptr (0 :: 0 :: 0 :: s) 0)) (id := 0 :: 0 :: 1 :: 0 :: s) (M := M.set (0 :: 0 :: 0 :: s) (AObj.cells [V.ptr r 0])) (v := .fn (.func 252) [] [.ptr (0 :: 0 :: 0 :: s) 0]) (C := C1) (ι := ι1) rfl (by simp [opV, ev, upd]) t1 m1 (F1 _ ⟨[0, 0], rfl⟩) (fun t e => by cases e; exact Nat.lt_of_lt_of_le (by decide) hz1) ?_
  intro c2 w2 ι2 C2 v2 t2 m2 s2
  cases v2 with
  | fn _ _ _ b1 b2 e1 e2 r1 r2 =>
    have hb1 : b1 = #[] := Array.eq_empty_of_size_eq_zero (by simpa using e1.symm)
    subst hb1
    obtain ⟨c3, rfl, hv3⟩ := LR_one ⟨e2, r2⟩
    cases hv3 with
    | ptr _ _ pl ad hij h2 =>
      obtain ⟨bb, oo, rr, rfl, hO⟩ := m2.obj _ pl (.cells [.ptr r 0]) hij (by simp [Mem.set])
      obtain rfl := h2 bb oo rr rfl
      have hs2 : Stp s ι C M w ι2 C2 (M.set (0 :: 0 :: 0 :: s) (AObj.cells [V.ptr r 0])) w2 := (s1.weaken ⟨[0, 0], rfl⟩).trans (s2.weaken ⟨[0, 0, 1, 0], rfl⟩)
      refine wpl_defer (d := { target := .fn (.func 252) #[.pointer (some ⟨bb, oo, none⟩)], args := #[] }) (w' := w2) rfl ?_ ?_
      · have h5 : (a1.put (some 5) (Value.func (Fn.func 252) #[] #[Value.pointer (some ⟨bb, oo, none⟩)])).eval (Operand.tmp 5) = Value.func (Fn.func 252) #[] #[Value.pointer (some ⟨bb, oo, none⟩)] := by
          show (a1.put (some 5) _).tmps.getD 5 undef = _
          rw [get_put _ _ _ _ (by omega), if_pos rfl]
        simp [execOp, resolve, h5, Deferred.ofValue, Sem.run_bind, Sem.run_pure, Result.andThen_ok]
      · show Code.wp Tryz.prog readCode _ _ _
        have F2 : Fresh (1 :: 1 :: 0 :: s) ι2 := (F1.tail 1).next (s2.weaken ⟨[0], rfl⟩) (by decide)
        refine h _ _ ι2 C2 bb oo rr _ ?_ ?_ t2 m2 hs2 F2 hij ?_ ?_
        · rfl
        · rfl
        · show _ :: _ = _
          rw [show (a1.put (some 5) _).defers = a1.defers from rfl, d1]
        · rw [Act.put_size]
          show 22 ≤ (a1.put (some 5) _).tmps.size
          rw [Act.put_size]; exact hz1
end Go.Ab.R

/- The reader's number: its two outcomes. Conditions: none. -/
set_option maxRecDepth 100000
namespace Go.Ab.R
open Go Go.Proofs Go.RowKit

theorem ent240 : ∃ z, entry E2.P 240 = some z := ⟨_, entry_of Tryz.func240 (by decide) rfl⟩

theorem read_F (r m o : Id) (left : V) (bad : Bool) (most : Int) (s : Id) (M : Mem) (hr : M r = some (.cells [left, .bool bad])) (hm0 : M m = some (.cells [.int .u64 most])) (e1 : (r = m) = False) (e2 : (m = r) = False) (hone : left.one = true) (hlc : left.cells = [left])
    (hfail : bad = true ∨ (∀ l s' M', FreshM s' M' → M' l = some (.cells [left]) → M' m = some (.cells [.int .u64 most]) → (m = l) = False → PF E2 240 [.ptr l 0, .ptr m 0, .ptr o 0] s' M' (But l M')))
    {ι : Inj} {C : Fro} {w : World} {cargs : Array Value} (ha : LR ι C [.ptr r 0, .fn (.func 240) [] [.ptr m 0, .ptr o 0]] cargs) (hm : MR ι C M w) (hF : Fresh s ι) (hFM : FreshM s M) :
    Calls Tryz.prog 239 cargs w fun e w' => e = .returned (.tuple #[]) ∧ ∃ ι' C' M', MR ι' C' M' w' ∧ Stp s ι C M w ι' C' M' w' ∧ Ids s M M' ∧ M' r = some (.cells [left, .bool true]) ∧ ∀ i, M i ≠ none → i ≠ r → M' i = M i := by
  have hoff : ∀ i, M i ≠ none → ∀ t, Un s t → i ≠ t := fun i hi t ht e => hi (e ▸ hFM t ht)
  refine read_0 ha hm hF hFM ?_
  intro a w1 ι1 C1 bb oo rr f f1 f2 t1 m1 s1 F1 hbox hd hz
  have FM1 : FreshM (1 :: 1 :: 0 :: s) (M.set (0 :: 0 :: 0 :: s) (.cells [.ptr r 0])) := by simp (maxDischargeDepth := 80) only [push_cast, Nat.reduceBEq, reduceIte, reduceCtorEq, Nat.reduceEqDiff, Nat.reduceAdd, Nat.reduceMul, Nat.reduceSub, Nat.reduceLeDiff, Nat.reduceLT, Nat.reducePow, Int.reduceToNat, Int.reduceLT, Int.reduceLE, Int.reduceEq, Int.reduceAdd, Int.reduceSub, Int.reduceNeg, fresh_dn hFM, fresh_at hFM]
  simp only [readCode, Tryz.f239]
  refine wp_seq ?_
  cases hb : bad with
  | true =>
    subst hb
    refine wp_callD sound2 (cur := 239) (N := 22) (s := 0 :: 1 :: 1 :: 0 :: s) (f := f) (S := fun M' => M' = M.set (0 :: 0 :: 0 :: s) (.cells [.ptr r 0])) 5 rfl rfl rfl rfl (by decide) ent242 ?_ t1 m1 (F1.tail 0) (FM1.tail 0) hd hz ?_
    · simp (maxDischargeDepth := 80) only [push_cast, Nat.reduceBEq, reduceIte, reduceCtorEq, Nat.reduceEqDiff, Nat.reduceAdd, Nat.reduceMul, Nat.reduceSub, Nat.reduceLeDiff, Nat.reduceLT, Nat.reducePow, Int.reduceToNat, Int.reduceLT, Int.reduceLE, Int.reduceEq, Int.reduceAdd, Int.reduceSub, Int.reduceNeg, Option.elim_some, f2, hr, Off_dn (Off_of hFM hr), Off_ne (Off_of hFM hr), Off_ne' (Off_of hFM hr)]
      exact ⟨_, rfl, must_P _ _⟩
    · rintro a2 w2 ι2 C2 M2 rfl m2 s2 d2
      have hB : (M.set (0 :: 0 :: 0 :: s) (.cells [.ptr r 0])) (0 :: 0 :: 0 :: s) = some (.cells [.ptr r 0]) := by simp [Mem.set]
      have hR : (M.set (0 :: 0 :: 0 :: s) (.cells [.ptr r 0])) r = some (.cells [left, .bool true]) := by simp (maxDischargeDepth := 80) only [push_cast, Nat.reduceBEq, reduceIte, reduceCtorEq, Nat.reduceEqDiff, Nat.reduceAdd, Nat.reduceMul, Nat.reduceSub, Nat.reduceLeDiff, Nat.reduceLT, Nat.reducePow, Int.reduceToNat, Int.reduceLT, Int.reduceLE, Int.reduceEq, Int.reduceAdd, Int.reduceSub, Int.reduceNeg, hr, Off_dn (Off_of hFM hr), Off_ne (Off_of hFM hr), Off_ne' (Off_of hFM hr)]
      refine door_P m2 (keep_at s2 m2 hbox hB) hB hR s d2 (fun w3 g1 g2 => ⟨rfl, ι2, C2, _, g1, (s1.trans (s2.weaken ⟨[0, 1, 1, 0], rfl⟩)).trans g2, (Ids.weaken (Ids.set_new (0 :: 0 :: 0 :: s) M (.cells [.ptr r 0])) (t := s) ⟨[0, 0, 0], rfl⟩).trans (Ids.set_old (by rw [hR]; simp) _), by simp [Mem.set], fun i hi hir => ?_⟩)
      have := hoff i hi (0 :: 0 :: 0 :: s) ⟨[0, 0, 0], rfl⟩
      simp [Mem.set, hir, this]
  | false =>
    subst hb
    have hpf := hfail.resolve_left (by simp)
    refine wp_regD sound2 (cur := 239) (N := 22) (s := 0 :: 1 :: 1 :: 0 :: s) (f := f) (by decide) t1 m1 (F1.tail 0) (FM1.tail 0) hd hz ?_
    simp (maxDischargeDepth := 80) only [push_cast, Nat.reduceBEq, reduceIte, reduceCtorEq, Nat.reduceEqDiff, Nat.reduceAdd, Nat.reduceMul, Nat.reduceSub, Nat.reduceLeDiff, Nat.reduceLT, Nat.reducePow, Int.reduceToNat, Int.reduceLT, Int.reduceLE, Int.reduceEq, Int.reduceAdd, Int.reduceSub, Int.reduceNeg, Option.elim_some, f2, hr, Off_dn (Off_of hFM hr), Off_ne (Off_of hFM hr), Off_ne' (Off_of hFM hr), must_E]
    intro a2 w2 ι2 C2 t2 m2 s2 i2 d2 z2
    have F2 : Fresh (1 :: 1 :: 1 :: 0 :: s) ι2 := (F1.tail 1).next s2 (by decide)
    have FM2 : FreshM (1 :: 1 :: 1 :: 0 :: s) (M.set (0 :: 0 :: 0 :: s) (.cells [.ptr r 0])) := FM1.tail 1
    show Code.wp _ _ _ a2 w2
    refine wp_seq ?_
    refine wp_regD sound2 (cur := 239) (N := 22) (s := 0 :: 1 :: 1 :: 1 :: 0 :: s) (by decide) t2 m2 (F2.tail 0) (FM2.tail 0) d2 (by omega) ?_
    simp (maxDischargeDepth := 80) only [push_cast, Nat.reduceBEq, reduceIte, reduceCtorEq, Nat.reduceEqDiff, Nat.reduceAdd, Nat.reduceMul, Nat.reduceSub, Nat.reduceLeDiff, Nat.reduceLT, Nat.reducePow, Int.reduceToNat, Int.reduceLT, Int.reduceLE, Int.reduceEq, Int.reduceAdd, Int.reduceSub, Int.reduceNeg, Option.elim_some, f2, hr, Off_dn (Off_of hFM hr), Off_ne (Off_of hFM hr), Off_ne' (Off_of hFM hr), hone, hlc]
    intro a3 w3 ι3 C3 t3 m3 s3 i3 d3 z3
    have F3 : Fresh (1 :: 1 :: 1 :: 1 :: 0 :: s) ι3 := (F2.tail 1).next s3 (by decide)
    have FM3 := (FM2.tail 1).next i3 (by decide)
    show Code.wp _ _ _ a3 w3
    refine wp_seq ?_
    have hml : (m = 4 :: 0 :: 1 :: 1 :: 1 :: 0 :: s) = False := eq_false (hoff m (by rw [hm0]; simp) _ ⟨[4, 0, 1, 1, 1, 0], rfl⟩)
    have hmb : (m = 0 :: 0 :: 0 :: s) = False := eq_false (hoff m (by rw [hm0]; simp) _ ⟨[0, 0, 0], rfl⟩)
    have hrl : (r = 4 :: 0 :: 1 :: 1 :: 1 :: 0 :: s) = False := eq_false (hoff r (by rw [hr]; simp) _ ⟨[4, 0, 1, 1, 1, 0], rfl⟩)
    have hrb : (r = 0 :: 0 :: 0 :: s) = False := eq_false (hoff r (by rw [hr]; simp) _ ⟨[0, 0, 0], rfl⟩)
    refine wp_callD sound2 (cur := 239) (N := 22) (s := 0 :: 1 :: 1 :: 1 :: 1 :: 0 :: s) (S := But (4 :: 0 :: 1 :: 1 :: 1 :: 0 :: s) ((M.set (0 :: 0 :: 0 :: s) (.cells [.ptr r 0])).set (4 :: 0 :: 1 :: 1 :: 1 :: 0 :: s) (.cells [left]))) 1 rfl rfl rfl rfl (by decide) ent240 ?_ t3 m3 (F3.tail 0) (FM3.tail 0) d3 (by omega) ?_
    · simp (maxDischargeDepth := 80) only [push_cast, Nat.reduceBEq, reduceIte, reduceCtorEq, Nat.reduceEqDiff, Nat.reduceAdd, Nat.reduceMul, Nat.reduceSub, Nat.reduceLeDiff, Nat.reduceLT, Nat.reducePow, Int.reduceToNat, Int.reduceLT, Int.reduceLE, Int.reduceEq, Int.reduceAdd, Int.reduceSub, Int.reduceNeg, Option.elim_some]
      refine ⟨[.ptr (4 :: 0 :: 1 :: 1 :: 1 :: 0 :: s) 0, .ptr m 0, .ptr o 0], ?_, ?_⟩
      · simp [callOf, ev, upd, f1]
      · refine hpf _ _ _ ?_ (by simp [Mem.set]) (by simp (maxDischargeDepth := 80) only [push_cast, Nat.reduceBEq, reduceIte, reduceCtorEq, Nat.reduceEqDiff, Nat.reduceAdd, Nat.reduceMul, Nat.reduceSub, Nat.reduceLeDiff, Nat.reduceLT, Nat.reducePow, Int.reduceToNat, Int.reduceLT, Int.reduceLE, Int.reduceEq, Int.reduceAdd, Int.reduceSub, Int.reduceNeg, hm0, hml, hmb]) hml
        exact (FM3.tail 0).tail 1
    · rintro a4 w4 ι4 C4 M4 hM4 m4 s4 d4
      have hB : M4 (0 :: 0 :: 0 :: s) = some (.cells [.ptr r 0]) := by rw [hM4 _ (by simp)]; simp [Mem.set]
      have hR : M4 r = some (.cells [left, .bool false]) := by rw [hM4 _ (by rw [Ne, hrl]; simp)]; simp (maxDischargeDepth := 80) only [push_cast, Nat.reduceBEq, reduceIte, reduceCtorEq, Nat.reduceEqDiff, Nat.reduceAdd, Nat.reduceMul, Nat.reduceSub, Nat.reduceLeDiff, Nat.reduceLT, Nat.reducePow, Int.reduceToNat, Int.reduceLT, Int.reduceLE, Int.reduceEq, Int.reduceAdd, Int.reduceSub, Int.reduceNeg, hr, hrl, hrb]
      have hkeep : ι4 (0 :: 0 :: 0 :: s) = some (.at bb oo rr) := keep_at ((s2.weaken (t := s) ⟨[0, 1, 1, 0], rfl⟩).trans ((s3.weaken ⟨[0, 1, 1, 1, 0], rfl⟩).trans (s4.weaken ⟨[0, 1, 1, 1, 1, 0], rfl⟩))) m4 hbox hB
      refine door_P m4 hkeep hB hR s d4 (fun w5 g1 g2 => ⟨rfl, ι4, C4, _, g1, (s1.trans ((s2.weaken ⟨[0, 1, 1, 0], rfl⟩).trans ((s3.weaken ⟨[0, 1, 1, 1, 0], rfl⟩).trans (s4.weaken ⟨[0, 1, 1, 1, 1, 0], rfl⟩)))).trans g2, (Ids.weaken (Ids.set_new (0 :: 0 :: 0 :: s) M (.cells [.ptr r 0])) (t := s) ⟨[0, 0, 0], rfl⟩).trans ((i3.weaken ⟨[0, 1, 1, 1, 0], rfl⟩).trans (Ids.trans (fun i hi => if e : i = 4 :: 0 :: 1 :: 1 :: 1 :: 0 :: s then .inr (e ▸ ⟨[4, 0, 1, 1, 1, 0], rfl⟩) else .inl (by rw [← hM4 i e]; exact hi)) (Ids.set_old (by rw [hR]; simp) _))), by simp [Mem.set], fun i hi hir => ?_⟩)
      have h1 := hoff i hi (0 :: 0 :: 0 :: s) ⟨[0, 0, 0], rfl⟩
      have h2 := hoff i hi (4 :: 0 :: 1 :: 1 :: 1 :: 0 :: s) ⟨[4, 0, 1, 1, 1, 0], rfl⟩
      have := hM4 i h2
      simp [Mem.set, hir, h1, h2] at this ⊢
      exact this

theorem read_S (r m o : Id) (left left' : V) (n' : Int) (x : V) (s : Id) (M : Mem) (hr : M r = some (.cells [left, .bool false])) (hm0 : M m ≠ none) (ho : M o = some (.cells [x])) (e1 : (r = m) = False) (e2 : (m = r) = False) (e3 : (r = o) = False) (hone : left.one = true) (hlc : left.cells = [left]) (hone' : left'.one = true) (hlc' : left'.cells = [left'])
    (hgo : ∀ l s' M', FreshM s' M' → M' l = some (.cells [left]) → M' m = M m → M' o = some (.cells [x]) → (m = l) = False → (o = l) = False → Fn E2 false 240 [.ptr l 0, .ptr m 0, .ptr o 0] s' M' = some (.tup [], (M'.set l (.cells [left'])).set o (.cells [.int .u64 n'])))
    {ι : Inj} {C : Fro} {w : World} {cargs : Array Value} (ha : LR ι C [.ptr r 0, .fn (.func 240) [] [.ptr m 0, .ptr o 0]] cargs) (hm : MR ι C M w) (hF : Fresh s ι) (hFM : FreshM s M) :
    Calls Tryz.prog 239 cargs w fun e w' => e = .returned (.tuple #[]) ∧ ∃ ι' C' M', MR ι' C' M' w' ∧ Stp s ι C M w ι' C' M' w' ∧ Ids s M M' ∧ M' r = some (.cells [left', .bool false]) ∧ M' o = some (.cells [.int .u64 n']) ∧ ∀ i, M i ≠ none → i ≠ r → i ≠ o → M' i = M i := by
  have hoff : ∀ i, M i ≠ none → ∀ t, Un s t → i ≠ t := fun i hi t ht e => hi (e ▸ hFM t ht)
  refine read_0 ha hm hF hFM ?_
  intro a w1 ι1 C1 bb oo rr f f1 f2 t1 m1 s1 F1 hbox hd hz
  have FM1 : FreshM (1 :: 1 :: 0 :: s) (M.set (0 :: 0 :: 0 :: s) (.cells [.ptr r 0])) := by simp (maxDischargeDepth := 80) only [push_cast, Nat.reduceBEq, reduceIte, reduceCtorEq, Nat.reduceEqDiff, Nat.reduceAdd, Nat.reduceMul, Nat.reduceSub, Nat.reduceLeDiff, Nat.reduceLT, Nat.reducePow, Int.reduceToNat, Int.reduceLT, Int.reduceLE, Int.reduceEq, Int.reduceAdd, Int.reduceSub, Int.reduceNeg, fresh_dn hFM, fresh_at hFM]
  simp only [readCode, Tryz.f239]
  refine wp_seq ?_
  refine wp_regD sound2 (cur := 239) (N := 22) (s := 0 :: 1 :: 1 :: 0 :: s) (f := f) (by decide) t1 m1 (F1.tail 0) (FM1.tail 0) hd hz ?_
  simp (maxDischargeDepth := 80) only [push_cast, Nat.reduceBEq, reduceIte, reduceCtorEq, Nat.reduceEqDiff, Nat.reduceAdd, Nat.reduceMul, Nat.reduceSub, Nat.reduceLeDiff, Nat.reduceLT, Nat.reducePow, Int.reduceToNat, Int.reduceLT, Int.reduceLE, Int.reduceEq, Int.reduceAdd, Int.reduceSub, Int.reduceNeg, Option.elim_some, f2, hr, Off_dn (Off_of hFM hr), Off_ne (Off_of hFM hr), Off_ne' (Off_of hFM hr), must_E]
  intro a2 w2 ι2 C2 t2 m2 s2 i2 d2 z2
  have F2 : Fresh (1 :: 1 :: 1 :: 0 :: s) ι2 := (F1.tail 1).next s2 (by decide)
  have FM2 : FreshM (1 :: 1 :: 1 :: 0 :: s) (M.set (0 :: 0 :: 0 :: s) (.cells [.ptr r 0])) := FM1.tail 1
  show Code.wp _ _ _ a2 w2
  refine wp_seq ?_
  refine wp_regD sound2 (cur := 239) (N := 22) (s := 0 :: 1 :: 1 :: 1 :: 0 :: s) (by decide) t2 m2 (F2.tail 0) (FM2.tail 0) d2 (by omega) ?_
  simp (maxDischargeDepth := 80) only [push_cast, Nat.reduceBEq, reduceIte, reduceCtorEq, Nat.reduceEqDiff, Nat.reduceAdd, Nat.reduceMul, Nat.reduceSub, Nat.reduceLeDiff, Nat.reduceLT, Nat.reducePow, Int.reduceToNat, Int.reduceLT, Int.reduceLE, Int.reduceEq, Int.reduceAdd, Int.reduceSub, Int.reduceNeg, Option.elim_some, f2, hr, Off_dn (Off_of hFM hr), Off_ne (Off_of hFM hr), Off_ne' (Off_of hFM hr), hone, hlc]
  intro a3 w3 ι3 C3 t3 m3 s3 i3 d3 z3
  have F3 : Fresh (1 :: 1 :: 1 :: 1 :: 0 :: s) ι3 := (F2.tail 1).next s3 (by decide)
  have FM3 := (FM2.tail 1).next i3 (by decide)
  show Code.wp _ _ _ a3 w3
  refine wp_seq ?_
  have hml : (m = 4 :: 0 :: 1 :: 1 :: 1 :: 0 :: s) = False := eq_false (hoff m hm0 _ ⟨[4, 0, 1, 1, 1, 0], rfl⟩)
  have hmb : (m = 0 :: 0 :: 0 :: s) = False := eq_false (hoff m hm0 _ ⟨[0, 0, 0], rfl⟩)
  have hol : (o = 4 :: 0 :: 1 :: 1 :: 1 :: 0 :: s) = False := eq_false (hoff o (by rw [ho]; simp) _ ⟨[4, 0, 1, 1, 1, 0], rfl⟩)
  have hob : (o = 0 :: 0 :: 0 :: s) = False := eq_false (hoff o (by rw [ho]; simp) _ ⟨[0, 0, 0], rfl⟩)
  have hlo : (4 :: 0 :: 1 :: 1 :: 1 :: 0 :: s = o) = False := eq_false fun e => by rw [← e] at hol; simp at hol
  have hbo : (0 :: 0 :: 0 :: s = o) = False := eq_false fun e => by rw [← e] at hob; simp at hob
  have hrl : (r = 4 :: 0 :: 1 :: 1 :: 1 :: 0 :: s) = False := eq_false (hoff r (by rw [hr]; simp) _ ⟨[4, 0, 1, 1, 1, 0], rfl⟩)
  have hrb : (r = 0 :: 0 :: 0 :: s) = False := eq_false (hoff r (by rw [hr]; simp) _ ⟨[0, 0, 0], rfl⟩)
  have hcl := hgo (4 :: 0 :: 1 :: 1 :: 1 :: 0 :: s) (1 :: 0 :: 1 :: 1 :: 1 :: 1 :: 0 :: s) _ ((FM3.tail 0).tail 1) (by simp [Mem.set]) (by simp (maxDischargeDepth := 80) only [push_cast, Nat.reduceBEq, reduceIte, reduceCtorEq, Nat.reduceEqDiff, Nat.reduceAdd, Nat.reduceMul, Nat.reduceSub, Nat.reduceLeDiff, Nat.reduceLT, Nat.reducePow, Int.reduceToNat, Int.reduceLT, Int.reduceLE, Int.reduceEq, Int.reduceAdd, Int.reduceSub, Int.reduceNeg, hml, hmb]) (by simp (maxDischargeDepth := 80) only [push_cast, Nat.reduceBEq, reduceIte, reduceCtorEq, Nat.reduceEqDiff, Nat.reduceAdd, Nat.reduceMul, Nat.reduceSub, Nat.reduceLeDiff, Nat.reduceLT, Nat.reducePow, Int.reduceToNat, Int.reduceLT, Int.reduceLE, Int.reduceEq, Int.reduceAdd, Int.reduceSub, Int.reduceNeg, ho, hol, hob]) hml hol
  refine wp_regD sound2 (cur := 239) (N := 22) (s := 0 :: 1 :: 1 :: 1 :: 1 :: 0 :: s) (by decide) t3 m3 (F3.tail 0) (FM3.tail 0) d3 (by omega) ?_
  simp (maxDischargeDepth := 80) only [push_cast, Nat.reduceBEq, reduceIte, reduceCtorEq, Nat.reduceEqDiff, Nat.reduceAdd, Nat.reduceMul, Nat.reduceSub, Nat.reduceLeDiff, Nat.reduceLT, Nat.reducePow, Int.reduceToNat, Int.reduceLT, Int.reduceLE, Int.reduceEq, Int.reduceAdd, Int.reduceSub, Int.reduceNeg, Option.elim_some, f1]
  rw [Mem.set_set] at hcl
  rw [hcl]
  simp only [Option.bind_some, Option.elim_some]
  intro a4 w4 ι4 C4 t4 m4 s4 i4 d4 z4
  have F4 : Fresh (1 :: 1 :: 1 :: 1 :: 1 :: 0 :: s) ι4 := (F3.tail 1).next s4 (by decide)
  have FM4 := (FM3.tail 1).next i4 (by decide)
  show Code.wp _ _ _ a4 w4
  refine wp_regD sound2 (cur := 239) (N := 22) (s := 1 :: 1 :: 1 :: 1 :: 1 :: 0 :: s) (by decide) t4 m4 F4 FM4 d4 (by omega) ?_
  simp (maxDischargeDepth := 80) only [push_cast, Nat.reduceBEq, reduceIte, reduceCtorEq, Nat.reduceEqDiff, Nat.reduceAdd, Nat.reduceMul, Nat.reduceSub, Nat.reduceLeDiff, Nat.reduceLT, Nat.reducePow, Int.reduceToNat, Int.reduceLT, Int.reduceLE, Int.reduceEq, Int.reduceAdd, Int.reduceSub, Int.reduceNeg, Option.elim_some, f2, hol, hob, hlo, hbo, hrl, hrb, e3, hr, hone', hlc']
  intro a5 w5 ι5 C5 t5 m5 s5 i5 d5 z5
  refine door_I d5 ⟨rfl, ι5, C5, _, m5, ?_, (Ids.weaken (Ids.set_new (0 :: 0 :: 0 :: s) M (.cells [.ptr r 0])) (t := s) ⟨[0, 0, 0], rfl⟩).trans ((i2.weaken ⟨[0, 1, 1, 0], rfl⟩).trans ((i3.weaken ⟨[0, 1, 1, 1, 0], rfl⟩).trans ((i4.weaken ⟨[0, 1, 1, 1, 1, 0], rfl⟩).trans (i5.weaken ⟨[1, 1, 1, 1, 1, 0], rfl⟩)))), ?_, ?_, ?_⟩
  · exact s1.trans ((s2.weaken ⟨[0, 1, 1, 0], rfl⟩).trans ((s3.weaken ⟨[0, 1, 1, 1, 0], rfl⟩).trans ((s4.weaken ⟨[0, 1, 1, 1, 1, 0], rfl⟩).trans (s5.weaken ⟨[1, 1, 1, 1, 1, 0], rfl⟩))))
  · simp [Mem.set]
  · have : (o = r) = False := eq_false fun e => by rw [e] at e3; simp at e3
    simp [Mem.set, this]
  · intro i hi hir hio
    have h1 := hoff i hi (0 :: 0 :: 0 :: s) ⟨[0, 0, 0], rfl⟩
    have h2 := hoff i hi (4 :: 0 :: 1 :: 1 :: 1 :: 0 :: s) ⟨[4, 0, 1, 1, 1, 0], rfl⟩
    simp [Mem.set, hir, hio, h1, h2]
end Go.Ab.R

/- The reader's number is sound. Conditions: none. -/
set_option maxRecDepth 100000
namespace Go.Ab.R
open Go Go.Proofs Go.RowKit

/-- a region that ends with a call of which a contract is known -/
theorem wp_callR {E : Env} (hS : Sound E) {cur : FuncId} {N r : Nat} {l : List Oper} (k : Nat) {o : Oper} {c : Call} {x : Operand} {g : FuncId} {s : Id} {f : Tm} {M : Mem} {T : Mem → Prop} (ho : l[k]? = some o) (hlast : l.length = k + 1) (hop : o.op = .call c) (hce : c.callee = .value x) (hg : o.guard = none)
    (hok : okCode E cur N (.region r (List.toArray l) false) = true) (hent : ∃ z, entry E.P g = some z)
    {ι : Inj} {C : Fro} {a : Act} {w : World} {Q : Exit → Act → World → Prop} (ht : TR ι C f a.tmps) (hm : MR ι C M w) (hF : Fresh s ι) (hFM : FreshM s M) (hd : a.defers = []) (hsz : N ≤ a.tmps.size)
    (h : (run E cur [.ops (List.toArray l) (l.take k) 0 s] f M).elim False (fun y => ∃ args, callOf (ev y.1) c = some (g, args) ∧ (∀ ι C w cargs, LR ι C args cargs → MR ι C y.2 w → Fresh (k :: s) ι → FreshM (k :: s) y.2 →
        Calls E.P g cargs w fun e w' => e = .returned (.tuple #[]) ∧ ∃ ι' C' M', MR ι' C' M' w' ∧ Stp (k :: s) ι C y.2 w ι' C' M' w' ∧ Ids (k :: s) y.2 M' ∧ T M') ∧
      ∀ a' w' ι' C' M', TR ι' C' (put y.1 o.dst (.tup [])) a'.tmps → MR ι' C' M' w' → Stp s ι C M w ι' C' M' w' → Ids s M M' → T M' → a'.defers = [] → a'.tmps.size = a.tmps.size → Q .normal a' w')) : (Code.region r (List.toArray l) false).wp E.P Q a w := by
  cases hr : run E cur [.ops (List.toArray l) (l.take k) 0 s] f M with
  | none => rw [hr] at h; exact h.elim
  | some y =>
    rw [hr] at h
    obtain ⟨args, hcall, hp, hQ⟩ := h
    have hos : Os E cur (List.toArray l) (l.take k) 0 s f M = some (y.1, y.2) := by
      rw [run_ops'] at hr
      cases hq : Os E cur (List.toArray l) (l.take k) 0 s f M with
      | none => rw [hq] at hr; cases hr
      | some z => rw [hq] at hr; simpa [run_nil] using hr
    obtain ⟨n, hn⟩ := (lim_some (os_mono E _ _ _ _ _ _ _)).1 hos
    have hi1 : Ids s M y.2 := ((allIds E hS.prim) n).ops _ _ _ _ _ _ _ _ _ hn
    have hk : k < l.length := by omega
    have hsplit : l = l.take k ++ o :: [] := by
      have e : o = l[k] := by rw [List.getElem?_eq_getElem hk] at ho; exact (Option.some.inj ho).symm
      have : l.drop (k + 1) = [] := List.drop_eq_nil_of_le (by omega)
      rw [e, ← this, ← List.drop_eq_getElem_cons hk, List.take_append_drop]
    refine wp_region_list ?_
    show wpList E.P (List.toArray l) Q l a w
    have hN : ∀ o ∈ l, ∀ t, o.dst = some t → t < N := by
      simp only [okCode, Bool.and_eq_true] at hok
      intro o ho t ht'
      have := (List.all_eq_true.1 hok.1) o ho
      rw [ht'] at this
      simpa using this
    have hgoal : wpList E.P (List.toArray l) Q (l.take k ++ o :: []) a w := by
      refine ops_app hS (D := []) n (l.take k) 0 f M y.1 y.2 hn N (fun o' ho' => hN o' (List.mem_of_mem_take ho')) ι C a w Q ht hm (fun j _ => hF.tail j) (fun j _ => hFM.tail j) hd hsz (fun a' w' ι' C' g1 g2 g3 g6 g7 g4 g5 => ?_)
      have hkk : 0 + (l.take k).length ≤ k := by simp; omega
      have hw : Region.wanted o (yielded (List.toArray l) a'.tmps) = true := by simp [Region.wanted, hg]
      simp only [wpList, hw, if_true]
      refine .inl ?_
      unfold callOf at hcall
      simp only [hce] at hcall
      split at hcall
      · rename_i g' l1 l2 hx
        simp only [Option.some.injEq, Prod.mk.injEq] at hcall
        obtain ⟨rfl, rfl⟩ := hcall
        have hxv := g1.ev x
        rw [hx] at hxv
        generalize hcx : a'.eval x = cx at hxv
        cases hxv with
        | fn _ _ _ a1 a2 e1 e2 r1 r2 =>
          have hargs : LR ι' C' (l1 ++ c.args.toList.map (ev y.1) ++ l2) (a1 ++ c.args.map a'.eval ++ a2) :=
            (LR.append (LR.append ⟨e1, r1⟩ (args_rel (fun x => g1.ev x) c.args)) ⟨e2, r2⟩)
          have hcalls := hp ι' C' w' _ hargs g2 (g6 k hkk) (g7 k hkk)
          unfold Oper.wp
          have hrun : (execOp a'.eval o).run E.P w' = .ok (.enter g' (a1 ++ c.args.map a'.eval ++ a2)) w' := by
            obtain ⟨dst, op, typ, pos, aft, grd⟩ := o
            simp only at hop; subst hop
            simp only [execOp, resolve, hce, hcx, Deferred.ofValue, Sem.run_bind, Sem.run_pure, Result.andThen_ok, invoke]
            obtain ⟨⟨fn, cc⟩, hent⟩ := hent
            exact run_callFunc hent _ w'
          rw [hrun]
          simp only [Oper.upon]
          refine hcalls.mono (fun e w'' hq => ?_)
          obtain ⟨rfl, ι2, C2, M2, q1, q2, q4, q3⟩ := hq
          have hdst : ∀ t, o.dst = some t → t < a'.tmps.size := fun t e => Nat.lt_of_lt_of_le (hN o (List.mem_of_getElem? ho) t e) (by omega)
          refine hQ (a'.put o.dst (.tuple #[])) w'' ι2 C2 M2 ((g1.mono q2.dom q2.fro).put (.tup _ _ rfl (fun j p => absurd p (by simp))) hdst) q1 (g3.trans (q2.weaken (List.suffix_cons k s))) (hi1.trans (q4.weaken (List.suffix_cons k s))) q3 ?_ (by rw [Act.put_size, g5])
          rw [← g4]; cases o.dst <;> rfl
      · cases hcall
    rw [← hsplit] at hgoal
    exact hgoal

theorem ent239 : ∃ z, entry E2.P 239 = some z := ⟨_, entry_of Tryz.func239 (by decide) rfl⟩

/-- the reader's 212, where its 239 is known: x is what the number becomes, y what the reader becomes -/
theorem num_W (r : Id) (most n' : Int) (rc : List V) (s : Id) (M : Mem) (hr : M r ≠ none)
    (hread : ∀ m o s' M', FreshM s' M' → M' m = some (.cells [.int .u64 most]) → M' o = some (.cells [.int .u64 0]) → M' r = M r → (r = m) = False → (m = r) = False → (r = o) = False → (m = o) = False → (o = m) = False → ∀ ι C w cargs, LR ι C [.ptr r 0, .fn (.func 240) [] [.ptr m 0, .ptr o 0]] cargs → MR ι C M' w → Fresh s' ι →
      Calls Tryz.prog 239 cargs w fun e w' => e = .returned (.tuple #[]) ∧ ∃ ι' C' M'', MR ι' C' M'' w' ∧ Stp s' ι C M' w ι' C' M'' w' ∧ Ids s' M' M'' ∧ M'' r = some (.cells rc) ∧ M'' o = some (.cells [.int .u64 n']) ∧ ∀ i, M' i ≠ none → i ≠ r → i ≠ o → M'' i = M' i)
    {ι : Inj} {C : Fro} {w : World} {cargs : Array Value} (ha : LR ι C [.ptr r 0, .int .u64 most] cargs) (hm : MR ι C M w) (hF : Fresh s ι) (hFM : FreshM s M) :
    Calls Tryz.prog 212 cargs w fun e w' => ∃ c ι' C', e = .returned c ∧ VR ι' C' (.int .u64 n') c ∧ MR ι' C' (M.set r (.cells rc)) w' ∧ Stp s ι C M w ι' C' (M.set r (.cells rc)) w' := by
  have hoff : ∀ i, M i ≠ none → ∀ t, Un s t → i ≠ t := fun i hi t ht e => hi (e ▸ hFM t ht)
  refine calls_of_wp Tryz.func212 rfl ?_
  refine wp_seq ?_
  refine wp_regD sound2 (cur := 212) (N := 10) (s := 0 :: 0 :: s) (D := []) (by decide) (argsTm_rel ha _) hm ((hF.tail 0).tail 0) ((hFM.tail 0).tail 0) rfl (by simp [Tryz.ntmps212]; omega) ?_
  simp (maxDischargeDepth := 80) only [push_cast, Nat.reduceBEq, reduceIte, reduceCtorEq, Nat.reduceEqDiff, Nat.reduceAdd, Nat.reduceMul, Nat.reduceSub, Nat.reduceLeDiff, Nat.reduceLT, Nat.reducePow, Int.reduceToNat, Int.reduceLT, Int.reduceLE, Int.reduceEq, Int.reduceAdd, Int.reduceSub, Int.reduceNeg, Option.elim_some]
  intro a1 w1 ι1 C1 t1 m1 s1 i1 d1 z1
  have hz1 : 10 ≤ a1.tmps.size := by rw [z1]; simp [Tryz.ntmps212]; omega
  have F1 : Fresh (1 :: 0 :: s) ι1 := ((hF.tail 0).tail 1).next s1 (by decide)
  have FM1 := ((hFM.tail 0).tail 1).next i1 (by decide)
  show Code.wp _ _ _ a1 w1
  refine wp_seq ?_
  refine wp_regD sound2 (cur := 212) (N := 10) (s := 0 :: 1 :: 0 :: s) (by decide) t1 m1 (F1.tail 0) (FM1.tail 0) d1 hz1 ?_
  simp (maxDischargeDepth := 80) only [push_cast, Nat.reduceBEq, reduceIte, reduceCtorEq, Nat.reduceEqDiff, Nat.reduceAdd, Nat.reduceMul, Nat.reduceSub, Nat.reduceLeDiff, Nat.reduceLT, Nat.reducePow, Int.reduceToNat, Int.reduceLT, Int.reduceLE, Int.reduceEq, Int.reduceAdd, Int.reduceSub, Int.reduceNeg, Option.elim_some]
  intro a2 w2 ι2 C2 t2 m2 s2 i2 d2 z2
  have F2 : Fresh (1 :: 1 :: 0 :: s) ι2 := (F1.tail 1).next s2 (by decide)
  have FM2 := (FM1.tail 1).next i2 (by decide)
  show Code.wp _ _ _ a2 w2
  refine wp_seq ?_
  obtain ⟨A, hA⟩ : ∃ A, 0 :: 0 :: 0 :: s = A := ⟨_, rfl⟩
  obtain ⟨O, hO⟩ : ∃ O, 0 :: 0 :: 1 :: 0 :: s = O := ⟨_, rfl⟩
  have hrA : (r = A) = False := eq_false (hA ▸ hoff r hr _ ⟨[0, 0, 0], rfl⟩)
  have hrO : (r = O) = False := eq_false (hO ▸ hoff r hr _ ⟨[0, 0, 1, 0], rfl⟩)
  have hAr : (A = r) = False := eq_false fun e => by rw [e] at hrA; simp at hrA
  have hAO : (A = O) = False := by rw [← hA, ← hO]; simp
  have hOA : (O = A) = False := by rw [← hA, ← hO]; simp
  have hb : ∀ i, M i ≠ none → i ≠ A ∧ i ≠ O := fun i hi => ⟨hA ▸ hoff i hi _ ⟨[0, 0, 0], rfl⟩, hO ▸ hoff i hi _ ⟨[0, 0, 1, 0], rfl⟩⟩
  rw [hA] at s1 i1 FM1 s2 i2 FM2 m2 t2
  rw [hO] at s2 i2 FM2 m2 t2
  refine wp_callR sound2 (cur := 212) (N := 10) (s := 0 :: 1 :: 1 :: 0 :: s) (T := fun M'' => M'' r = some (.cells rc) ∧ M'' O = some (.cells [.int .u64 n']) ∧ ∀ i, ((M.set A (.cells [.int .u64 most])).set O (.cells [.int .u64 0])) i ≠ none → i ≠ r → i ≠ O → M'' i = ((M.set A (.cells [.int .u64 most])).set O (.cells [.int .u64 0])) i) 2 rfl rfl rfl rfl rfl (by decide) ent239 t2 m2 (F2.tail 0) (FM2.tail 0) d2 (by omega) ?_
  simp (maxDischargeDepth := 80) only [push_cast, Nat.reduceBEq, reduceIte, reduceCtorEq, Nat.reduceEqDiff, Nat.reduceAdd, Nat.reduceMul, Nat.reduceSub, Nat.reduceLeDiff, Nat.reduceLT, Nat.reducePow, Int.reduceToNat, Int.reduceLT, Int.reduceLE, Int.reduceEq, Int.reduceAdd, Int.reduceSub, Int.reduceNeg, Option.elim_some]
  refine ⟨[.ptr r 0, .fn (.func 240) [] [.ptr A 0, .ptr O 0]], ?_, ?_, ?_⟩
  · simp [callOf, ev, upd, argsTm]
  · intro ι' C' w' cargs' ha' hm' hF' hFM'
    refine (hread A O _ _ hFM' (by simp [Mem.set, hAO]) (by simp [Mem.set]) (by simp [Mem.set, hrA, hrO]) hrA hAr hrO hAO hOA ι' C' w' cargs' ha' hm' hF').mono ?_
    rintro e w'' ⟨rfl, ι3, C3, M3, q1, q2, q3, q4, q5, q6⟩
    exact ⟨rfl, ι3, C3, M3, q1, q2, q3, q4, q5, q6⟩
  · rintro a3 w3 ι3 C3 M3 t3 m3 s3 i3 ⟨q4, q5, q6⟩ d3 z3
    have F3 : Fresh (1 :: 1 :: 1 :: 0 :: s) ι3 := (F2.tail 1).next s3 (by decide)
    have FM3 := (FM2.tail 1).next i3 (by decide)
    show Code.wp _ _ _ a3 w3
    refine wp_seq ?_
    refine wp_regD sound2 (cur := 212) (N := 10) (s := 0 :: 1 :: 1 :: 1 :: 0 :: s) (by decide) t3 m3 (F3.tail 0) (FM3.tail 0) d3 (by omega) ?_
    simp (maxDischargeDepth := 80) only [push_cast, Nat.reduceBEq, reduceIte, reduceCtorEq, Nat.reduceEqDiff, Nat.reduceAdd, Nat.reduceMul, Nat.reduceSub, Nat.reduceLeDiff, Nat.reduceLT, Nat.reducePow, Int.reduceToNat, Int.reduceLT, Int.reduceLE, Int.reduceEq, Int.reduceAdd, Int.reduceSub, Int.reduceNeg, Option.elim_some, q5]
    intro a4 w4 ι4 C4 t4 m4 s4 i4 d4 z4
    show Code.wp _ _ _ a4 w4
    refine wp_ret ?_
    obtain ⟨cv, g1, g2⟩ := resultsV_sound (P := Tryz.prog) (fn := Tryz.f212) (v := .int .u64 n') (by rw [r212]; simp (maxDischargeDepth := 80) only [push_cast, Nat.reduceBEq, reduceIte, reduceCtorEq, Nat.reduceEqDiff, Nat.reduceAdd, Nat.reduceMul, Nat.reduceSub, Nat.reduceLeDiff, Nat.reduceLT, Nat.reducePow, Int.reduceToNat, Int.reduceLT, Int.reduceLE, Int.reduceEq, Int.reduceAdd, Int.reduceSub, Int.reduceNeg]) t4 m4
    refine ⟨d4, cv, g1, cv, ι4, C4, rfl, g2, ?_, ?_⟩
    · refine m4.less (fun i ob _ hi => ?_)
      by_cases hir : i = r
      · subst hir
        simp only [Mem.set, if_true] at hi
        rw [q4]; exact hi
      · simp only [Mem.set, if_neg hir] at hi
        have hbi := hb i (by rw [hi]; simp)
        rw [q6 i (by simp [Mem.set, hbi.1, hbi.2, hi]) hir hbi.2]
        simp [Mem.set, hbi.1, hbi.2, hi]
    · have hst : Stp s ι C M w ι4 C4 M3 w4 := (s1.weaken ⟨[0, 0], rfl⟩).trans ((s2.weaken ⟨[0, 1, 0], rfl⟩).trans ((s3.weaken ⟨[0, 1, 1, 0], rfl⟩).trans (s4.weaken ⟨[0, 1, 1, 1, 0], rfl⟩)))
      refine { hst with nores := fun i _ hi => ?_ }
      have hir : i ≠ r := fun e => hr (e ▸ hi)
      simp only [Mem.set, if_neg hir]
      exact hi


/-- numbers of bytes -/
theorem natsOf_spec : ∀ {l : List V} {ns : List Nat}, natsOf l = some ns → l = ns.map natV ∧ ∀ b ∈ ns, b < 256
  | [], ns, h => by simp only [natsOf, Option.some.injEq] at h; subst h; simp
  | v :: l, ns, h => by
    simp only [natsOf] at h
    split at h
    · rename_i n ns' h1 h2
      simp only [Option.some.injEq] at h; subst h
      obtain ⟨q1, q2⟩ := natsOf_spec h2
      cases v <;> simp only [natOf] at h1 <;> try (cases h1; done)
      rename_i k m
      cases k <;> simp only [Option.ite_none_right_eq_some, Option.some.injEq, reduceCtorEq] at h1
      obtain ⟨⟨g1, g2⟩, rfl⟩ := h1
      refine ⟨?_, ?_⟩
      · rw [q1, List.map_cons]
        congr 1
        show V.int .u8 m = .int .u8 (m.toNat : Int)
        rw [Int.toNat_of_nonneg g1]
      · intro b hb
        rcases List.mem_cons.1 hb with rfl | hb
        · omega
        · exact q2 b hb
    · cases h

theorem number_sound {M : Mem} {args : List V} {s : Id} {v : V} {M' : Mem} {ι : Inj} {C : Fro} {w : World} {cargs : Array Value} (h : numP args s M = some (v, M')) (ha : LR ι C args cargs) (hm : MR ι C M w) (hF : Fresh s ι) (hFM : FreshM s M) :
    Calls Tryz.prog 212 cargs w fun e w' => ∃ c ι' C', e = .returned c ∧ VR ι' C' v c ∧ MR ι' C' M' w' ∧ Stp s ι C M w ι' C' M' w' := by
  unfold numP at h
  split at h
  rotate_left
  · cases h
  rename_i r most
  split at h
  rotate_left
  · cases h
  rename_i left bad hr
  have hrn : M r ≠ none := by rw [hr]; simp
  -- what fails
  have hfail : ∀ (hone : left.one = true) (hlc : left.cells = [left]) (hf : bad = true ∨ (∀ m o l s' M', FreshM s' M' → M' l = some (.cells [left]) → M' m = some (.cells [.int .u64 most]) → (m = l) = False → PF E2 240 [.ptr l 0, .ptr m 0, .ptr o 0] s' M' (But l M'))),
      Calls Tryz.prog 212 cargs w fun e w' => ∃ c ι' C', e = .returned c ∧ VR ι' C' (.int .u64 0) c ∧ MR ι' C' (M.set r (.cells [left, .bool true])) w' ∧ Stp s ι C M w ι' C' (M.set r (.cells [left, .bool true])) w' := by
    intro hone hlc hf
    refine num_W r most 0 [left, .bool true] s M hrn ?_ ha hm hF hFM
    intro m o s' M' hFM' hm' ho' hr' e1 e2 e3 e4 e5 ι C w cargs ha hm hF
    refine (read_F r m o left bad most s' M' (hr'.trans hr) hm' e1 e2 hone hlc (hf.imp id (fun q l s'' M'' => q m o l s'' M'')) ha hm hF hFM').mono ?_
    rintro e w' ⟨rfl, ι', C', M'', q1, q2, q3, q4, q5⟩
    refine ⟨rfl, ι', C', M'', q1, q2, q3, q4, ?_, fun i hi hir _ => q5 i hi hir⟩
    rw [q5 o (by rw [ho']; simp) (fun e => by rw [e] at e3; simp at e3), ho']
  split at h
  · rename_i hb
    split at h
    · rename_i hone
      simp only [Option.some.injEq, Prod.mk.injEq] at h
      obtain ⟨rfl, rfl⟩ := h
      refine hfail hone ?_ (.inl hb)
      cases left <;> first | rfl | (simp [V.one] at hone)
    · cases h
  · rename_i hb
    have hb0 : bad = false := by simpa using hb
    subst hb0
    split at h
    · simp only [Option.some.injEq, Prod.mk.injEq] at h
      obtain ⟨rfl, rfl⟩ := h
      exact hfail rfl rfl (.inr fun m o l s' M' _ hl _ _ => num_P1 (g := []) l m o s' M' (fun s => size_P1 _ (.inl rfl) l s M' hl))
    · rename_i cs len cp
      split at h
      · rename_i bs hns
        obtain ⟨rfl, hbs⟩ := natsOf_spec hns
        split at h
        · rename_i hlen
          subst hlen
          split at h
          · rename_i n k hdec
            simp only [Option.some.injEq, Prod.mk.injEq] at h
            obtain ⟨rfl, rfl⟩ := h
            refine num_W r most n _ s M hrn ?_ ha hm hF hFM
            intro m o s' M' hFM' hm' ho' hr' e1 e2 e3 e4 e5 ι C w cargs ha hm hF
            refine read_S r m o _ _ n _ s' M' (hr'.trans hr) (by rw [hm']; simp) ho' e1 e2 e3 rfl rfl rfl rfl ?_ ha hm hF hFM'
            intro l s2 M2 hF2 hl2 hm2 ho2 e6 e7
            cases bs with
            | nil => cases hdec
            | cons f r =>
              simp only [decB] at hdec
              split at hdec
              · rename_i hg
                simp only [Option.some.injEq, Prod.mk.injEq] at hdec
                obtain ⟨rfl, rfl⟩ := hdec
                obtain ⟨g1, g2, g3, g4, g5⟩ := hg
                have := number_E f (f % 16) r cp l m o most _ rfl (hbs f (by simp)) g1 g2 g3 g4 g5 s2 M2 hF2 hl2 (hm2.trans hm') ho2 e6 e7
                rw [this]
                simp [List.map_drop]
              · cases hdec
          · rename_i hdec
            simp only [Option.some.injEq, Prod.mk.injEq] at h
            obtain ⟨rfl, rfl⟩ := h
            exact hfail rfl rfl (.inr fun m o l s' M' hF' hl hm' e => number_P bs hbs cp l m o most hdec s' M' hF' hl hm' e)
        · cases h
      · cases h
    · cases h

theorem num_ids {args : List V} {s : Id} {M M' : Mem} {v : V} (h : numP args s M = some (v, M')) : Ids s M M' := by
  unfold numP at h
  repeat' split at h
  all_goals first
    | (cases h; done)
    | (simp only [Option.some.injEq, Prod.mk.injEq] at h
       rw [← h.2]
       rename_i hM
       exact .set_old (by simp_all) _)
    | (simp only [Option.some.injEq, Prod.mk.injEq] at h
       rw [← h.2]
       exact .set_old (by simp_all) _)
end Go.Ab.R
