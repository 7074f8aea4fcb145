/- The evaluator's equations as one set of rules. Conditions: none. -/
import Derived.Test.YtpohfmcpfkbabaaGreatAbEnv
set_option linter.unusedSimpArgs false
set_option linter.unusedVariables false
set_option maxRecDepth 100000
namespace Go.Ab

/-- where an object made under a place may lie -/
def Un (s t : Id) : Prop := s <:+ t
theorem Un_self (s : Id) : Un s s = True := by simp [Un]
theorem Un_cons {s t : Id} {a : Nat} (h : Un s t) : Un s (a :: t) := List.IsSuffix.trans h (List.suffix_cons a t)
/-- an object does not lie under a place -/
def Off (s g : Id) : Prop := ¬ s <:+ g
theorem Off_cons {s g : Id} {a : Nat} (h : Off s g) : Off (a :: s) g := fun h' => h (suffix_tail h')
theorem Off_ne {s g : Id} (h : Off s g) {t : Id} (hu : Un s t) : (g = t) = False := eq_false (fun e => h (e ▸ hu))
theorem Off_ne' {s g : Id} (h : Off s g) {t : Id} (hu : Un s t) : (t = g) = False := eq_false (fun e => h (e ▸ hu))
theorem Off_of {s g : Id} {M : Mem} {o : AObj} (hf : FreshM s M) (h : M g = some o) : Off s g := fun hs => by rw [hf g hs] at h; cases h
theorem FreshM_cons {s : Id} {M : Mem} {a : Nat} (h : FreshM s M) : FreshM (a :: s) M := fun i hi => h i (suffix_tail hi)
theorem fresh_dn {s t : Id} {M : Mem} (h : FreshM s M) (hu : Un s t) : FreshM t M := fun i hi => h i (List.IsSuffix.trans hu hi)
theorem Off_dn {s t g : Id} (h : Off s g) (hu : Un s t) : Off t g := fun h' => h (List.IsSuffix.trans hu h')
theorem bind_cong {α β : Type} {x x' : Option α} (h : x = x') (f : α → Option β) : x.bind f = x'.bind f := by rw [h]
theorem bin_add (P : Program) (t k a b) : binV P .add t (.int k a) (.int k b) = some (.int k (k.wrap (a + b))) := by simp [binV, arithV]
theorem bin_sub (P : Program) (t k a b) : binV P .sub t (.int k a) (.int k b) = some (.int k (k.wrap (a - b))) := by simp [binV, arithV]
theorem bin_mul (P : Program) (t k a b) : binV P .mul t (.int k a) (.int k b) = some (.int k (k.wrap (a * b))) := by simp [binV, arithV]
theorem bin_quo (P : Program) (t k a b) : binV P .quo t (.int k a) (.int k b) = if b = 0 then none else some (.int k (k.wrap (a.tdiv b))) := by simp [binV, arithV]
theorem bin_rem (P : Program) (t k a b) : binV P .rem t (.int k a) (.int k b) = if b = 0 then none else some (.int k (a.tmod b)) := by simp [binV, arithV]
theorem bin_eql (P : Program) (t k a b) : binV P .eql t (.int k a) (.int k b) = some (.bool (decide (a = b))) := by simp [binV, arithV]; rfl
theorem bin_neq (P : Program) (t k a b) : binV P .neq t (.int k a) (.int k b) = some (.bool (!decide (a = b))) := by simp [binV, arithV]; rfl
theorem bin_lss (P : Program) (t k a b) : binV P .lss t (.int k a) (.int k b) = some (.bool (decide (a < b))) := by simp [binV, arithV]
theorem bin_leq (P : Program) (t k a b) : binV P .leq t (.int k a) (.int k b) = some (.bool (decide (a ≤ b))) := by simp [binV, arithV]
theorem bin_gtr (P : Program) (t k a b) : binV P .gtr t (.int k a) (.int k b) = some (.bool (decide (b < a))) := by simp [binV, arithV]
theorem bin_geq (P : Program) (t k a b) : binV P .geq t (.int k a) (.int k b) = some (.bool (decide (b ≤ a))) := by simp [binV, arithV]
theorem bin_shl (P : Program) (t k a k' b) : binV P .shl t (.int k a) (.int k' b) = if b < 0 then none else some (.int k (k.wrap (a * 2 ^ (min b.toNat k.bits)))) := rfl
theorem bin_shr (P : Program) (t k a k' b) : binV P .shr t (.int k a) (.int k' b) = if b < 0 then none else some (.int k (a.fdiv (2 ^ (min b.toNat k.bits)))) := rfl
theorem bin_eql_bool (P : Program) (t a y) : binV P .eql t (.bool a) y = (eqV P t (.bool a) y).map .bool := by cases y <;> rfl
theorem bin_eql_str (P : Program) (t a y) : binV P .eql t (.str a) y = (eqV P t (.str a) y).map .bool := by cases y <;> rfl
theorem bin_eql_nilp (P : Program) (t y) : binV P .eql t .nilp y = (eqV P t .nilp y).map .bool := by cases y <;> rfl
theorem bin_eql_ptr (P : Program) (t a b y) : binV P .eql t (.ptr a b) y = (eqV P t (.ptr a b) y).map .bool := by cases y <;> rfl
theorem bin_eql_pptr (P : Program) (t a y) : binV P .eql t (.pptr a) y = (eqV P t (.pptr a) y).map .bool := by cases y <;> rfl
theorem bin_eql_nils (P : Program) (t y) : binV P .eql t .nils y = (eqV P t .nils y).map .bool := by cases y <;> rfl
theorem bin_eql_sl (P : Program) (t a b c d e y) : binV P .eql t (.sl a b c d e) y = (eqV P t (.sl a b c d e) y).map .bool := by cases y <;> rfl
theorem bin_eql_psl (P : Program) (t a b c y) : binV P .eql t (.psl a b c) y = (eqV P t (.psl a b c) y).map .bool := by cases y <;> rfl
theorem bin_eql_agg (P : Program) (t a y) : binV P .eql t (.agg a) y = (eqV P t (.agg a) y).map .bool := by cases y <;> rfl
theorem bin_neq_bool (P : Program) (t a y) : binV P .neq t (.bool a) y = (eqV P t (.bool a) y).map fun b => .bool (!b) := by cases y <;> rfl
theorem bin_neq_str (P : Program) (t a y) : binV P .neq t (.str a) y = (eqV P t (.str a) y).map fun b => .bool (!b) := by cases y <;> rfl
theorem bin_neq_nilp (P : Program) (t y) : binV P .neq t .nilp y = (eqV P t .nilp y).map fun b => .bool (!b) := by cases y <;> rfl
theorem bin_neq_ptr (P : Program) (t a b y) : binV P .neq t (.ptr a b) y = (eqV P t (.ptr a b) y).map fun b => .bool (!b) := by cases y <;> rfl
theorem bin_neq_pptr (P : Program) (t a y) : binV P .neq t (.pptr a) y = (eqV P t (.pptr a) y).map fun b => .bool (!b) := by cases y <;> rfl
theorem bin_neq_nils (P : Program) (t y) : binV P .neq t .nils y = (eqV P t .nils y).map fun b => .bool (!b) := by cases y <;> rfl
theorem bin_neq_sl (P : Program) (t a b c d e y) : binV P .neq t (.sl a b c d e) y = (eqV P t (.sl a b c d e) y).map fun b => .bool (!b) := by cases y <;> rfl
theorem bin_neq_psl (P : Program) (t a b c y) : binV P .neq t (.psl a b c) y = (eqV P t (.psl a b c) y).map fun b => .bool (!b) := by cases y <;> rfl
theorem bin_neq_agg (P : Program) (t a y) : binV P .neq t (.agg a) y = (eqV P t (.agg a) y).map fun b => .bool (!b) := by cases y <;> rfl
theorem unwind_hit (id k) : unwind id (.blk id :: k) = some k := by simp [unwind]
/-- a loop of so many rounds, and what stands between them -/
theorem lp_rule {E : Env} {cur : FuncId} {a : Code} {s : Id} {k : List It} {β : Type} {K : Tm × Mem → Option β} {R : Option β} (I : Id → Nat → Tm → Mem → Prop) (n : Nat) {j : Nat} {f : Tm} {M : Mem} (h0 : I s j f M) (hj : j ≤ n)
    (step : ∀ j f M, j < n → I s j f M → (∀ f' M', I s (j + 1) f' M' → (run E cur (.lp a (j + 1) s :: k) f' M').bind K = R) → (run E cur (.code a (j :: s) :: .lp a (j + 1) s :: k) f M).bind K = R)
    (done : ∀ f M, I s n f M → (run E cur (.code a (n :: s) :: .lp a (n + 1) s :: k) f M).bind K = R) : (run E cur (.lp a j s :: k) f M).bind K = R := by
  obtain ⟨d, hd⟩ : ∃ d, n = j + d := ⟨n - j, by omega⟩
  induction d generalizing j f M with
  | zero => rw [run_lp]; subst hd; exact done f M h0
  | succ d ih =>
    rw [run_lp]
    exact step j f M (by omega) h0 (fun f' M' h => ih h (by omega) (by omega))
theorem run_reg {E : Env} {cur id l d s k f M} (hc : Chk E cur id (List.toArray l) s f M) : run E cur (.code (.region id (List.toArray l) d) s :: k) f M = run E cur (.ops (List.toArray l) l 0 s :: k) f M := by
  rw [run_region _ _ _ _ _ _ _ _ hc]
theorem run_cong {E : Env} {cur : FuncId} {its : List It} {f f' : Tm} {M M' : Mem} (hf : f = f') (hM : M = M') : run E cur its f M = run E cur its f' M' := by rw [hf, hM]
theorem Oo_cong {E : Env} {cur : FuncId} {o : Oper} {s s' : Id} {f f' : Tm} {M M' : Mem} (hs : s = s') (hf : f = f') (hM : M = M') : Oo E cur o s f M = Oo E cur o s' f' M' := by rw [hs, hf, hM]
/-- the two ways of a guard, and of a test: no rule goes into them ahead of the choice -/
structure Hid {α : Type} (a : α) : Type where
def gsel {β : Type} (w : Option Bool) (a b : Option β) (_ : Hid (a, b)) : Option β := match w with
  | some false => a
  | some true => b
  | none => none
theorem gsel_f {β : Type} (a b : Option β) (h) : gsel (some false) a b h = a := rfl
theorem gsel_t {β : Type} (a b : Option β) (h) : gsel (some true) a b h = b := rfl
def csel {β : Type} (v : V) (a b : Option β) (_ : Hid (a, b)) : Option β := match v with
  | .bool t => if t then a else b
  | _ => none
theorem csel_f {β : Type} (a b : Option β) (h) : csel (.bool false) a b h = b := rfl
theorem csel_t {β : Type} (a b : Option β) (h) : csel (.bool true) a b h = a := rfl
theorem run_gd {E : Env} {cur d op ty ps af f M} (all k i l j w s) : run E cur (.ops all (⟨d, op, ty, ps, af, some (j, w)⟩ :: l) i s :: k) f M = gsel (wantedV f all ⟨d, op, ty, ps, af, some (j, w)⟩) (run E cur (.ops all l (i + 1) s :: k) (put f d undefV) M)
    ((Oo E cur ⟨d, op, ty, ps, af, some (j, w)⟩ (i :: s) f M).bind fun x => run E cur (.ops all l (i + 1) s :: k) (put f d x.1) x.2) ⟨⟩ := by
  rw [run_op_guard]; unfold gsel; rfl
theorem run_cd {E : Env} {cur : FuncId} (x a b s k f M) : run E cur (.code (.cond x a b) s :: k) f M = csel (ev f x) (run E cur (.code a (0 :: s) :: k) f M) (run E cur (.code b (1 :: s) :: k) f M) ⟨⟩ := by
  rw [run_cond]; unfold csel; rfl
theorem Off_deep {k j : Nat} {s t : Id} (hkj : k ≠ j) (h : Un (j :: s) t) : Off (k :: s) t := fun h' => hkj (suffix_cons_eq h' h)
theorem Off_self (s : Id) (a : Nat) : Off (a :: s) s = True := eq_true fun h => by have := h.length_le; simp at this; omega
theorem Off_self2 (s : Id) (a0 a1 : Nat) : Off (a0 :: a1 :: s) s = True := eq_true fun h => by have := h.length_le; simp at this; omega
theorem Off_self3 (s : Id) (a0 a1 a2 : Nat) : Off (a0 :: a1 :: a2 :: s) s = True := eq_true fun h => by have := h.length_le; simp at this; omega
theorem Off_self4 (s : Id) (a0 a1 a2 a3 : Nat) : Off (a0 :: a1 :: a2 :: a3 :: s) s = True := eq_true fun h => by have := h.length_le; simp at this; omega
theorem Off_self5 (s : Id) (a0 a1 a2 a3 a4 : Nat) : Off (a0 :: a1 :: a2 :: a3 :: a4 :: s) s = True := eq_true fun h => by have := h.length_le; simp at this; omega
theorem Off_self6 (s : Id) (a0 a1 a2 a3 a4 a5 : Nat) : Off (a0 :: a1 :: a2 :: a3 :: a4 :: a5 :: s) s = True := eq_true fun h => by have := h.length_le; simp at this; omega
theorem Off_self7 (s : Id) (a0 a1 a2 a3 a4 a5 a6 : Nat) : Off (a0 :: a1 :: a2 :: a3 :: a4 :: a5 :: a6 :: s) s = True := eq_true fun h => by have := h.length_le; simp at this; omega
theorem Off_self8 (s : Id) (a0 a1 a2 a3 a4 a5 a6 a7 : Nat) : Off (a0 :: a1 :: a2 :: a3 :: a4 :: a5 :: a6 :: a7 :: s) s = True := eq_true fun h => by have := h.length_le; simp at this; omega
theorem Off_self9 (s : Id) (a0 a1 a2 a3 a4 a5 a6 a7 a8 : Nat) : Off (a0 :: a1 :: a2 :: a3 :: a4 :: a5 :: a6 :: a7 :: a8 :: s) s = True := eq_true fun h => by have := h.length_le; simp at this; omega
theorem Off_self10 (s : Id) (a0 a1 a2 a3 a4 a5 a6 a7 a8 a9 : Nat) : Off (a0 :: a1 :: a2 :: a3 :: a4 :: a5 :: a6 :: a7 :: a8 :: a9 :: s) s = True := eq_true fun h => by have := h.length_le; simp at this; omega
theorem Off_self11 (s : Id) (a0 a1 a2 a3 a4 a5 a6 a7 a8 a9 a10 : Nat) : Off (a0 :: a1 :: a2 :: a3 :: a4 :: a5 :: a6 :: a7 :: a8 :: a9 :: a10 :: s) s = True := eq_true fun h => by have := h.length_le; simp at this; omega
theorem Off_self12 (s : Id) (a0 a1 a2 a3 a4 a5 a6 a7 a8 a9 a10 a11 : Nat) : Off (a0 :: a1 :: a2 :: a3 :: a4 :: a5 :: a6 :: a7 :: a8 :: a9 :: a10 :: a11 :: s) s = True := eq_true fun h => by have := h.length_le; simp at this; omega
theorem Off_self13 (s : Id) (a0 a1 a2 a3 a4 a5 a6 a7 a8 a9 a10 a11 a12 : Nat) : Off (a0 :: a1 :: a2 :: a3 :: a4 :: a5 :: a6 :: a7 :: a8 :: a9 :: a10 :: a11 :: a12 :: s) s = True := eq_true fun h => by have := h.length_le; simp at this; omega
theorem Off_self14 (s : Id) (a0 a1 a2 a3 a4 a5 a6 a7 a8 a9 a10 a11 a12 a13 : Nat) : Off (a0 :: a1 :: a2 :: a3 :: a4 :: a5 :: a6 :: a7 :: a8 :: a9 :: a10 :: a11 :: a12 :: a13 :: s) s = True := eq_true fun h => by have := h.length_le; simp at this; omega
theorem Off_self15 (s : Id) (a0 a1 a2 a3 a4 a5 a6 a7 a8 a9 a10 a11 a12 a13 a14 : Nat) : Off (a0 :: a1 :: a2 :: a3 :: a4 :: a5 :: a6 :: a7 :: a8 :: a9 :: a10 :: a11 :: a12 :: a13 :: a14 :: s) s = True := eq_true fun h => by have := h.length_le; simp at this; omega
theorem Off_cc (s t : Id) (a b : Nat) : Off (a :: s) (b :: t) = (¬ (a = b ∧ s = t) ∧ Off (a :: s) t) := by
  simp only [Off, List.suffix_cons_iff, List.cons.injEq, not_or]
theorem FreshM_set {s i : Id} {M : Mem} {o : AObj} (h : FreshM s M) (hn : Off s i) : FreshM s (M.set i o) := fun j hj => by
  unfold Mem.set
  split
  · rename_i e; subst e; exact absurd hj hn
  · exact h j hj
theorem FreshM_del {s i : Id} {M : Mem} (h : FreshM s M) : FreshM s (M.del i) := fun j hj => by
  unfold Mem.del
  split
  · rfl
  · exact h j hj
theorem cons_ne1 (a0 : Nat) (s : Id) : (a0 :: s = s) = False := eq_false fun h => by have := congrArg List.length h; simp at this
theorem cons_ne2 (a0 : Nat) (s : Id) : (s = a0 :: s) = False := eq_false fun h => by have := congrArg List.length h; simp at this
theorem cons_ne3 (a0 a1 : Nat) (s : Id) : (a0 :: a1 :: s = s) = False := eq_false fun h => by have := congrArg List.length h; simp at this; omega
theorem cons_ne4 (a0 a1 : Nat) (s : Id) : (s = a0 :: a1 :: s) = False := eq_false fun h => by have := congrArg List.length h; simp at this; omega
theorem cons_ne5 (a0 a1 a2 : Nat) (s : Id) : (a0 :: a1 :: a2 :: s = s) = False := eq_false fun h => by have := congrArg List.length h; simp at this; omega
theorem cons_ne6 (a0 a1 a2 : Nat) (s : Id) : (s = a0 :: a1 :: a2 :: s) = False := eq_false fun h => by have := congrArg List.length h; simp at this; omega
theorem cons_ne7 (a0 a1 a2 a3 : Nat) (s : Id) : (a0 :: a1 :: a2 :: a3 :: s = s) = False := eq_false fun h => by have := congrArg List.length h; simp at this; omega
theorem cons_ne8 (a0 a1 a2 a3 : Nat) (s : Id) : (s = a0 :: a1 :: a2 :: a3 :: s) = False := eq_false fun h => by have := congrArg List.length h; simp at this; omega
theorem cons_ne9 (a0 a1 a2 a3 a4 : Nat) (s : Id) : (a0 :: a1 :: a2 :: a3 :: a4 :: s = s) = False := eq_false fun h => by have := congrArg List.length h; simp at this; omega
theorem cons_ne10 (a0 a1 a2 a3 a4 : Nat) (s : Id) : (s = a0 :: a1 :: a2 :: a3 :: a4 :: s) = False := eq_false fun h => by have := congrArg List.length h; simp at this; omega
theorem cons_ne11 (a0 a1 a2 a3 a4 a5 : Nat) (s : Id) : (a0 :: a1 :: a2 :: a3 :: a4 :: a5 :: s = s) = False := eq_false fun h => by have := congrArg List.length h; simp at this; omega
theorem cons_ne12 (a0 a1 a2 a3 a4 a5 : Nat) (s : Id) : (s = a0 :: a1 :: a2 :: a3 :: a4 :: a5 :: s) = False := eq_false fun h => by have := congrArg List.length h; simp at this; omega
theorem cons_ne13 (a0 a1 a2 a3 a4 a5 a6 : Nat) (s : Id) : (a0 :: a1 :: a2 :: a3 :: a4 :: a5 :: a6 :: s = s) = False := eq_false fun h => by have := congrArg List.length h; simp at this; omega
theorem cons_ne14 (a0 a1 a2 a3 a4 a5 a6 : Nat) (s : Id) : (s = a0 :: a1 :: a2 :: a3 :: a4 :: a5 :: a6 :: s) = False := eq_false fun h => by have := congrArg List.length h; simp at this; omega
theorem cons_ne15 (a0 a1 a2 a3 a4 a5 a6 a7 : Nat) (s : Id) : (a0 :: a1 :: a2 :: a3 :: a4 :: a5 :: a6 :: a7 :: s = s) = False := eq_false fun h => by have := congrArg List.length h; simp at this; omega
theorem cons_ne16 (a0 a1 a2 a3 a4 a5 a6 a7 : Nat) (s : Id) : (s = a0 :: a1 :: a2 :: a3 :: a4 :: a5 :: a6 :: a7 :: s) = False := eq_false fun h => by have := congrArg List.length h; simp at this; omega
theorem cons_ne17 (a0 a1 a2 a3 a4 a5 a6 a7 a8 : Nat) (s : Id) : (a0 :: a1 :: a2 :: a3 :: a4 :: a5 :: a6 :: a7 :: a8 :: s = s) = False := eq_false fun h => by have := congrArg List.length h; simp at this; omega
theorem cons_ne18 (a0 a1 a2 a3 a4 a5 a6 a7 a8 : Nat) (s : Id) : (s = a0 :: a1 :: a2 :: a3 :: a4 :: a5 :: a6 :: a7 :: a8 :: s) = False := eq_false fun h => by have := congrArg List.length h; simp at this; omega
theorem cons_ne19 (a0 a1 a2 a3 a4 a5 a6 a7 a8 a9 : Nat) (s : Id) : (a0 :: a1 :: a2 :: a3 :: a4 :: a5 :: a6 :: a7 :: a8 :: a9 :: s = s) = False := eq_false fun h => by have := congrArg List.length h; simp at this; omega
theorem cons_ne20 (a0 a1 a2 a3 a4 a5 a6 a7 a8 a9 : Nat) (s : Id) : (s = a0 :: a1 :: a2 :: a3 :: a4 :: a5 :: a6 :: a7 :: a8 :: a9 :: s) = False := eq_false fun h => by have := congrArg List.length h; simp at this; omega
theorem cons_ne21 (a0 a1 a2 a3 a4 a5 a6 a7 a8 a9 a10 : Nat) (s : Id) : (a0 :: a1 :: a2 :: a3 :: a4 :: a5 :: a6 :: a7 :: a8 :: a9 :: a10 :: s = s) = False := eq_false fun h => by have := congrArg List.length h; simp at this; omega
theorem cons_ne22 (a0 a1 a2 a3 a4 a5 a6 a7 a8 a9 a10 : Nat) (s : Id) : (s = a0 :: a1 :: a2 :: a3 :: a4 :: a5 :: a6 :: a7 :: a8 :: a9 :: a10 :: s) = False := eq_false fun h => by have := congrArg List.length h; simp at this; omega
theorem cons_ne23 (a0 a1 a2 a3 a4 a5 a6 a7 a8 a9 a10 a11 : Nat) (s : Id) : (a0 :: a1 :: a2 :: a3 :: a4 :: a5 :: a6 :: a7 :: a8 :: a9 :: a10 :: a11 :: s = s) = False := eq_false fun h => by have := congrArg List.length h; simp at this; omega
theorem cons_ne24 (a0 a1 a2 a3 a4 a5 a6 a7 a8 a9 a10 a11 : Nat) (s : Id) : (s = a0 :: a1 :: a2 :: a3 :: a4 :: a5 :: a6 :: a7 :: a8 :: a9 :: a10 :: a11 :: s) = False := eq_false fun h => by have := congrArg List.length h; simp at this; omega
/-- a memory holds all that another one holds -/
def Sub (M M' : Mem) : Prop := ∀ i o, M i = some o → M' i = some o
theorem Sub_refl (M : Mem) : Sub M M = True := eq_true fun _ _ h => h
theorem Sub_set {M M' : Mem} {t : Id} {o : AObj} (h : Sub M M') (hn : M t = none) : Sub M (M'.set t o) := by
  intro i o' e
  unfold Mem.set
  split
  · rename_i hq; subst hq; rw [hn] at e; cases e
  · exact h i o' e
theorem Sub_del {M M' : Mem} {t : Id} (h : Sub M M') (hn : M t = none) : Sub M (M'.del t) := by
  intro i o' e
  unfold Mem.del
  split
  · rename_i hq; subst hq; rw [hn] at e; cases e
  · exact h i o' e
theorem fresh_at {s t : Id} {M : Mem} (hf : FreshM s M) (hu : Un s t) : M t = none := hf t hu
theorem leave_free (M v M1) : leave .free false M v M1 = some (v, M1) := by simp [leave]
theorem leave_freeF (M v M1) : leave .free true M v M1 = freezeV M1 v := by
  unfold leave
  cases h : freezeV M1 v with
  | none => simp [h]
  | some x => simp [h]
theorem leave_quietF {M M1 : Mem} {v : V} (h : Sub M M1) : leave .quiet false M v M1 = some (v, M) := by
  unfold leave
  simp only [Bool.false_eq_true, if_false]
  exact if_pos h
theorem leave_quietT {M M1 M2 : Mem} {v v' : V} (hz : freezeV M1 v = some (v', M2)) (h : Sub M M2) : leave .quiet true M v M1 = some (v', M) := by
  unfold leave
  simp only [if_true, hz]
  exact if_pos h
theorem leave_addsF {M M1 : Mem} {v : V} (h : Sub M M1) : leave .adds false M v M1 = some (v, M1) := by
  unfold leave
  simp only [Bool.false_eq_true, if_false]
  exact if_pos h
theorem Mem.set_at (M : Mem) (i : Id) (o : AObj) (j : Id) : (M.set i o) j = if j = i then some o else M j := rfl
theorem Mem.set_set (M : Mem) (i : Id) (o o' : AObj) : (M.set i o).set i o' = M.set i o' := by
  funext j; unfold Mem.set; split <;> rfl
theorem Mem.del_at (M : Mem) (i j : Id) : (M.del i) j = if j = i then none else M j := rfl
theorem leave_quietT' (M v M1) : leave .quiet true M v M1 = (freezeV M1 v).bind fun x => leave .quiet false M x.1 x.2 := by
  unfold leave
  cases h : freezeV M1 v with
  | none => simp [h]
  | some x => simp [h]
theorem leave_addsT' (M v M1) : leave .adds true M v M1 = (freezeV M1 v).bind fun x => leave .quiet false M x.1 x.2 := by
  unfold leave
  cases h : freezeV M1 v with
  | none => simp [h]
  | some x => simp [h]
theorem fz_sl (M i o l z c) : freezeV M (.sl i o l z c) = match M i with
    | some (.cells cs) => if o + l * z ≤ cs.length then some (.psl ((cs.drop o).take (l * z)) l false, M.del i) else none
    | _ => none := rfl
theorem ld_ptr (P : Program) (t M i off) : loadV P t M (.ptr i off) = match M i, szOf P t with
    | some (.cells cs), some (n, b) => partV b n cs off
    | _, _ => none := rfl
theorem ld_pptr (P : Program) (t M cs) : loadV P t M (.pptr cs) = match szOf P t with
    | some (n, b) => partV b n cs 0
    | none => none := rfl
theorem ix_sl (P : Program) (t i o l z c k n) : indexAddrV P t (.sl i o l z c) (.int k n) = match kd P t with | some (.slice e) => (if 0 ≤ n ∧ n < (l : Int) then some (.ptr i (o + n.toNat * e.size)) else none) | _ => none := by
  simp only [indexAddrV]; cases kd P t with | none => rfl | some q => cases q <;> rfl
theorem ix_psl (P : Program) (t cs l b k n) : indexAddrV P t (.psl cs l b) (.int k n) = match kd P t with | some (.slice e) => (if 0 ≤ n ∧ n < (l : Int) then some (.pptr (cs.drop (n.toNat * e.size))) else none) | _ => none := by
  simp only [indexAddrV]; cases kd P t with | none => rfl | some q => cases q <;> rfl
theorem ix_ptr (P : Program) (t i o k n) : indexAddrV P t (.ptr i o) (.int k n) = match kd P t with | some (.array len e) => (if 0 ≤ n ∧ n < (len : Int) then some (.ptr i (o + n.toNat * e.size)) else none) | _ => none := by
  simp only [indexAddrV]; cases kd P t with | none => rfl | some q => cases q <;> rfl
theorem ln_nils (P : Program) (t M) : lenV P t M .nils = match kd P t with | some (.slice _) => some (.int .i64 0) | some (.array n _) => some (.int .i64 n) | _ => none := by
  simp only [lenV]; cases kd P t with | none => rfl | some q => cases q <;> rfl
theorem ln_sl (P : Program) (t M i o l z c) : lenV P t M (.sl i o l z c) = match kd P t with | some (.slice _) => some (.int .i64 l) | some (.array n _) => some (.int .i64 n) | _ => none := by
  simp only [lenV]; cases kd P t with | none => rfl | some q => cases q <;> rfl
theorem ln_psl (P : Program) (t M c l b) : lenV P t M (.psl c l b) = match kd P t with | some (.slice _) => some (.int .i64 l) | some (.array n _) => some (.int .i64 n) | _ => none := by
  simp only [lenV]; cases kd P t with | none => rfl | some q => cases q <;> rfl
theorem ln_str (P : Program) (t M x) : lenV P t M (.str x) = match kd P t with | some .str => some (.int .i64 x.size) | some (.array n _) => some (.int .i64 n) | _ => none := by
  simp only [lenV]; cases kd P t with | none => rfl | some q => cases q <;> rfl
theorem ln_nilm (P : Program) (t M) : lenV P t M .nilm = match kd P t with | some (.map ..) => some (.int .i64 0) | some (.array n _) => some (.int .i64 n) | _ => none := by
  simp only [lenV]; cases kd P t with | none => rfl | some q => cases q <;> rfl
theorem ln_mapr (P : Program) (t M i) : lenV P t M (.mapr i) = match kd P t with | some (.map ..) => (match M i with | some (.map es) => some (.int .i64 es.length) | _ => none) | some (.array n _) => some (.int .i64 n) | _ => none := by
  simp only [lenV]; cases kd P t with | none => rfl | some q => cases q <;> rfl
theorem fa_ptr (P : Program) (s i off f) : fieldAddrV P s (.ptr i off) f = match kd P s with | some (.struct fs _) => (match fs[f]? with | some fd => if fd.size = 0 then none else some (.ptr i (off + fd.off)) | none => none) | _ => none := by
  simp only [fieldAddrV]; cases kd P s with | none => rfl | some q => cases q <;> rfl
theorem fa_pptr (P : Program) (s cs f) : fieldAddrV P s (.pptr cs) f = match kd P s with | some (.struct fs _) => (match fs[f]? with | some fd => if fd.size = 0 then none else some (.pptr (cs.drop fd.off)) | none => none) | _ => none := by
  simp only [fieldAddrV]; cases kd P s with | none => rfl | some q => cases q <;> rfl
theorem fv_agg (P : Program) (s cs f) : fieldV P s (.agg cs) f = match kd P s with | some (.struct fs _) => (match fs[f]? with | some fd => partV fd.agg fd.size cs fd.off | none => none) | _ => none := by
  simp only [fieldV]; cases kd P s with | none => rfl | some q => cases q <;> rfl
theorem sv_nils (P : Program) (t lo hi mx) : sliceV P t .nils lo hi mx = match kd P t with | some (.slice _) => (match cutB 0 0 lo hi mx with | some _ => some .nils | none => none) | _ => none := by
  simp only [sliceV]; cases kd P t with | none => rfl | some q => cases q <;> rfl
theorem sv_sl (P : Program) (t i off len sz cap lo hi mx) : sliceV P t (.sl i off len sz cap) lo hi mx = match kd P t with | some (.slice e) => (if sz = e.size then match cutB len (cap.getD len) lo hi mx with | some (l, h, m) => some (.sl i (off + l * sz) (h - l) sz (match m with | some m => some (m - l) | none => cap.map (· - l))) | none => none else none) | _ => none := by  simp only [sliceV]; cases kd P t with | none => rfl | some q => cases q <;> rfl
theorem sv_psl (P : Program) (t cs len capped lo hi mx) : sliceV P t (.psl cs len capped) lo hi mx = match kd P t with | some (.slice e) => (match cutB len len lo hi mx with | some (l, h, m) => if cs.length = len * e.size then some (.psl ((cs.drop (l * e.size)).take ((h - l) * e.size)) (h - l) (cut2 capped h len m)) else none | none => none) | _ => none := by  simp only [sliceV]; cases kd P t with | none => rfl | some q => cases q <;> rfl
theorem sv_str (P : Program) (t s lo hi mx) : sliceV P t (.str s) lo hi mx = match kd P t with | some .str => (if mx.isSome then none else match cutB s.size s.size lo hi none with | some (l, h, _) => some (.str (s.extract l h)) | none => none) | _ => none := by  simp only [sliceV]; cases kd P t with | none => rfl | some q => cases q <;> rfl
theorem mn_2 (k a k' b) : minV [.int k a, .int k' b] = some (.int k (if b < a then b else a)) := rfl
theorem mx_2 (k a k' b) : maxV [.int k a, .int k' b] = some (.int k (if b > a then b else a)) := rfl
theorem mn_3 (k a k' b k'' c) : minV [.int k a, .int k' b, .int k'' c] = some (.int k (if c < (if b < a then b else a) then c else (if b < a then b else a))) := rfl
theorem fk_nil (k x n) : findK k x [] n = some none := rfl
theorem fk_cons (k x y v l n) : findK k x ((y, v) :: l) n = match sameKey k x y with | some true => some (some (n, v)) | some false => findK k x l (n + 1) | none => none := by
  cases h : sameKey k x y with | none => simp [findK, h] | some b => cases b <;> simp [findK, h]
theorem sk_int (j a l b) : sameKey .int (.int j a) (.int l b) = if j = l then some (decide (a = b)) else none := rfl
theorem sk_bool (a b) : sameKey .bool (.bool a) (.bool b) = some (decide (a = b)) := by cases a <;> cases b <;> rfl
theorem en_nilm (M : Mem) : entriesV M .nilm = some [] := rfl
theorem en_mapr (M : Mem) (i) : entriesV M (.mapr i) = match M i with | some (.map es) => some es | _ => none := rfl
theorem sr_nils (sz M) : srcV sz M .nils = some (0, []) := rfl
theorem sr_sl (sz M i off len z cap) : srcV sz M (.sl i off len z cap) = match M i with
    | some (.cells cs) => if off + len * sz ≤ cs.length then some (len, (cs.drop off).take (len * sz)) else none
    | _ => none := rfl
theorem sr_psl (sz M cs len b) : srcV sz M (.psl cs len b) = if cs.length = len * sz then some (len, cs) else none := rfl
theorem sr_str (sz M s) : srcV sz M (.str s) = if sz = 1 then some (s.size, s.data.toList.map fun b => .int .u8 b.toNat) else none := rfl
theorem jn_nils (e : El) (n new i M) : joinV e .nils n new i M = if n = 0 then some (.nils, M) else if n ≤ mostLen then some (.sl i 0 n e.size none, M.set i (.cells new)) else none := rfl
theorem jn_psl (e : El) (cs len capped n new i M) : joinV e (.psl cs len capped) n new i M = if cs.length = len * e.size ∧ len + n ≤ mostLen then
      (if n = 0 then some (.psl cs len capped, M) else if capped then some (.sl i 0 (len + n) e.size none, M.set i (.cells (cs ++ new))) else none)
    else none := rfl
theorem jn_sl (e : El) (j off len sz cap n new i M) : joinV e (.sl j off len sz cap) n new i M = match M j with
    | some (.cells cs) => if sz = e.size ∧ off + len * sz ≤ cs.length ∧ len + n ≤ mostLen then
        (match cap with
        | some c => if len + n ≤ c then
              (if off + (len + n) * sz ≤ cs.length then some (.sl j off (len + n) sz cap, M.set j (.cells (splice cs (off + len * sz) new))) else none)
            else some (.sl i 0 (len + n) sz none, M.set i (.cells ((cs.drop off).take (len * sz) ++ new)))
        | none => if off + len * sz = cs.length then some (.sl i 0 (len + n) sz none, (M.del j).set i (.cells (cs.drop off ++ new)))
            else if off + (len + n) * sz ≤ cs.length then some (.sl j off (len + n) sz none, M.set j (.cells (splice cs (off + len * sz) new))) else none)
      else none
    | _ => none := rfl
theorem fz_psl (M c l b) : freezeV M (.psl c l b) = some (.psl c l false, M) := rfl
theorem fz_agg (M cs) : freezeV M (.agg cs) = (freezeL M cs).map fun x => (.agg x.1, x.2) := rfl
theorem fz_tup0 (M) : freezeV M (.tup []) = some (.tup [], M) := rfl
theorem fz_tup2 (M cs v) : freezeV M (.tup [.agg cs, v]) = match freezeL M cs with
      | some (cs', M') => match freeze1 M' v with
        | some (v', M'') => some (.tup [.agg cs', v'], M'')
        | none => none
      | none => none := rfl
theorem fzL_nil (M) : freezeL M [] = some ([], M) := rfl
theorem fzL_cons (M v l) : freezeL M (v :: l) = (freeze1 M v).bind fun x => (freezeL x.2 l).map fun y => (x.1 :: y.1, y.2) := by
  simp only [freezeL]
  cases freeze1 M v with
  | none => rfl
  | some x => cases h : freezeL x.2 l <;> simp [h]
theorem fz1_sl (M i o l z c) : freeze1 M (.sl i o l z c) = match M i with
    | some (.cells cs) => if o + l * z ≤ cs.length then some (.psl ((cs.drop o).take (l * z)) l false, M.del i) else none
    | _ => none := rfl
theorem fz1_psl (M c l b) : freeze1 M (.psl c l b) = some (.psl c l false, M) := rfl
theorem fz1_nils (M) : freeze1 M .nils = some (.nils, M) := rfl
theorem fz1_int (M k n) : freeze1 M (.int k n) = some (.int k n, M) := rfl
theorem fz1_bool (M b) : freeze1 M (.bool b) = some (.bool b, M) := rfl
theorem fz1_nilp (M) : freeze1 M .nilp = some (.nilp, M) := rfl
theorem fz1_ptr (M i o) : freeze1 M (.ptr i o) = some (.ptr i o, M) := rfl
theorem fz_bool (M b) : freezeV M (.bool b) = some (.bool b, M) := rfl
theorem fz_int (M k n) : freezeV M (.int k n) = some (.int k n, M) := rfl
theorem fz_nils (M) : freezeV M .nils = some (.nils, M) := rfl
theorem cells_bool (b) : V.cells (.bool b) = [.bool b] := rfl
theorem cells_int (k n) : V.cells (.int k n) = [.int k n] := rfl
theorem cells_str (x) : V.cells (.str x) = [.str x] := rfl
theorem cells_nilp : V.cells .nilp = [.nilp] := rfl
theorem cells_ptr (i o) : V.cells (.ptr i o) = [.ptr i o] := rfl
theorem cells_pptr (c) : V.cells (.pptr c) = [.pptr c] := rfl
theorem cells_nils : V.cells .nils = [.nils] := rfl
theorem cells_sl (i o l z c) : V.cells (.sl i o l z c) = [.sl i o l z c] := rfl
theorem cells_psl (c l b) : V.cells (.psl c l b) = [.psl c l b] := rfl
theorem cells_nilm : V.cells .nilm = [.nilm] := rfl
theorem cells_mapr (i) : V.cells (.mapr i) = [.mapr i] := rfl
theorem cells_fn (a b c) : V.cells (.fn a b c) = [.fn a b c] := rfl
theorem cells_nilf : V.cells .nilf = [.nilf] := rfl
theorem cells_agg (c) : V.cells (.agg c) = c := rfl
theorem one_bool (b) : V.one (.bool b) = true := rfl
theorem one_int (k n) : V.one (.int k n) = true := rfl
theorem one_str (x) : V.one (.str x) = true := rfl
theorem one_nilp : V.one .nilp = true := rfl
theorem one_ptr (i o) : V.one (.ptr i o) = true := rfl
theorem one_pptr (c) : V.one (.pptr c) = true := rfl
theorem one_nils : V.one .nils = true := rfl
theorem one_sl (i o l z c) : V.one (.sl i o l z c) = true := rfl
theorem one_psl (c l b) : V.one (.psl c l b) = true := rfl
theorem one_nilm : V.one .nilm = true := rfl
theorem one_mapr (i) : V.one (.mapr i) = true := rfl
theorem one_fn (a b c) : V.one (.fn a b c) = true := rfl
theorem one_nilf : V.one .nilf = true := rfl
/-- what a function's results are -/
def resL (P : Program) (rs : List ResultVar) (f : Tm) (M : Mem) : Option V :=
  match rs.mapM (fun r => match r with
    | .tmp t => some (f t)
    | .cell a t => loadV P t M (f a)) with
  | some [v] => some v
  | some vs => some (.tup vs)
  | none => none
theorem resultsV_eq {P : Program} {fn : Func} {rs : List ResultVar} (h : fn.results.toList = rs) (f M) : resultsV P fn f M = resL P rs f M := by
  unfold resultsV resL; rw [h]; rfl
theorem resL_nil (P f M) : resL P [] f M = some (.tup []) := rfl
theorem resL_tmp (P f M a) : resL P [.tmp a] f M = some (f a) := rfl
theorem resL_tmp2 (P f M a b) : resL P [.tmp a, .tmp b] f M = some (.tup [f a, f b]) := rfl
theorem resL_tmp3 (P f M a b c) : resL P [.tmp a, .tmp b, .tmp c] f M = some (.tup [f a, f b, f c]) := rfl
theorem resL_cell (P f M a t) : resL P [.cell a t] f M = loadV P t M (f a) := by
  simp only [resL, List.mapM_cons, List.mapM_nil, pure, bind]
  cases loadV P t M (f a) <;> rfl
theorem resL_ct (P f M a t b) : resL P [.cell a t, .tmp b] f M = (loadV P t M (f a)).map fun v => .tup [v, f b] := by
  simp only [resL, List.mapM_cons, List.mapM_nil, pure, bind]
  cases loadV P t M (f a) <;> rfl

namespace R
open Go Go.Proofs
theorem run_hook93 (s k f M) : run env 93 (.code advCode s :: k) f M = (advP f s M).bind fun x => run env 93 k x.1 x.2 := by
  obtain ⟨a, b, e⟩ := advCode_seq
  rw [e]
  exact run_hook (by rw [← e]; exact h93p) s k f M
theorem r0 (f M) : resultsV Tryz.prog Tryz.f0 f M = resL Tryz.prog [] f M := resultsV_eq rfl f M
theorem r1 (f M) : resultsV Tryz.prog Tryz.f1 f M = resL Tryz.prog [] f M := resultsV_eq rfl f M
theorem r2 (f M) : resultsV Tryz.prog Tryz.f2 f M = resL Tryz.prog [] f M := resultsV_eq rfl f M
theorem r3 (f M) : resultsV Tryz.prog Tryz.f3 f M = resL Tryz.prog [.tmp 4] f M := resultsV_eq rfl f M
theorem r4 (f M) : resultsV Tryz.prog Tryz.f4 f M = resL Tryz.prog [.tmp 6] f M := resultsV_eq rfl f M
theorem r5 (f M) : resultsV Tryz.prog Tryz.f5 f M = resL Tryz.prog [.tmp 4] f M := resultsV_eq rfl f M
theorem r6 (f M) : resultsV Tryz.prog Tryz.f6 f M = resL Tryz.prog [.tmp 6] f M := resultsV_eq rfl f M
theorem r7 (f M) : resultsV Tryz.prog Tryz.f7 f M = resL Tryz.prog [.tmp 6] f M := resultsV_eq rfl f M
theorem r8 (f M) : resultsV Tryz.prog Tryz.f8 f M = resL Tryz.prog [.tmp 0] f M := resultsV_eq rfl f M
theorem r9 (f M) : resultsV Tryz.prog Tryz.f9 f M = resL Tryz.prog [.tmp 10, .tmp 11] f M := resultsV_eq rfl f M
theorem r10 (f M) : resultsV Tryz.prog Tryz.f10 f M = resL Tryz.prog [] f M := resultsV_eq rfl f M
theorem r11 (f M) : resultsV Tryz.prog Tryz.f11 f M = resL Tryz.prog [.tmp 4, .tmp 5] f M := resultsV_eq rfl f M
theorem r12 (f M) : resultsV Tryz.prog Tryz.f12 f M = resL Tryz.prog [.tmp 4] f M := resultsV_eq rfl f M
theorem r13 (f M) : resultsV Tryz.prog Tryz.f13 f M = resL Tryz.prog [.cell 2 44] f M := resultsV_eq rfl f M
theorem r14 (f M) : resultsV Tryz.prog Tryz.f14 f M = resL Tryz.prog [.tmp 6] f M := resultsV_eq rfl f M
theorem r15 (f M) : resultsV Tryz.prog Tryz.f15 f M = resL Tryz.prog [.tmp 2] f M := resultsV_eq rfl f M
theorem r16 (f M) : resultsV Tryz.prog Tryz.f16 f M = resL Tryz.prog [.tmp 2] f M := resultsV_eq rfl f M
theorem r17 (f M) : resultsV Tryz.prog Tryz.f17 f M = resL Tryz.prog [.tmp 4] f M := resultsV_eq rfl f M
theorem r18 (f M) : resultsV Tryz.prog Tryz.f18 f M = resL Tryz.prog [.tmp 2] f M := resultsV_eq rfl f M
theorem r19 (f M) : resultsV Tryz.prog Tryz.f19 f M = resL Tryz.prog [.tmp 6, .tmp 7] f M := resultsV_eq rfl f M
theorem r20 (f M) : resultsV Tryz.prog Tryz.f20 f M = resL Tryz.prog [.tmp 10, .tmp 11] f M := resultsV_eq rfl f M
theorem r21 (f M) : resultsV Tryz.prog Tryz.f21 f M = resL Tryz.prog [.tmp 6] f M := resultsV_eq rfl f M
theorem r22 (f M) : resultsV Tryz.prog Tryz.f22 f M = resL Tryz.prog [.cell 2 35] f M := resultsV_eq rfl f M
theorem r23 (f M) : resultsV Tryz.prog Tryz.f23 f M = resL Tryz.prog [.cell 2 29] f M := resultsV_eq rfl f M
theorem r24 (f M) : resultsV Tryz.prog Tryz.f24 f M = resL Tryz.prog [.tmp 4] f M := resultsV_eq rfl f M
theorem r25 (f M) : resultsV Tryz.prog Tryz.f25 f M = resL Tryz.prog [.tmp 4] f M := resultsV_eq rfl f M
theorem r26 (f M) : resultsV Tryz.prog Tryz.f26 f M = resL Tryz.prog [.cell 2 32] f M := resultsV_eq rfl f M
theorem r27 (f M) : resultsV Tryz.prog Tryz.f27 f M = resL Tryz.prog [.tmp 4] f M := resultsV_eq rfl f M
theorem r28 (f M) : resultsV Tryz.prog Tryz.f28 f M = resL Tryz.prog [] f M := resultsV_eq rfl f M
theorem r29 (f M) : resultsV Tryz.prog Tryz.f29 f M = resL Tryz.prog [.tmp 4] f M := resultsV_eq rfl f M
theorem r30 (f M) : resultsV Tryz.prog Tryz.f30 f M = resL Tryz.prog [] f M := resultsV_eq rfl f M
theorem r31 (f M) : resultsV Tryz.prog Tryz.f31 f M = resL Tryz.prog [.tmp 2] f M := resultsV_eq rfl f M
theorem r32 (f M) : resultsV Tryz.prog Tryz.f32 f M = resL Tryz.prog [.tmp 8, .tmp 9] f M := resultsV_eq rfl f M
theorem r33 (f M) : resultsV Tryz.prog Tryz.f33 f M = resL Tryz.prog [.tmp 4, .tmp 5] f M := resultsV_eq rfl f M
theorem r34 (f M) : resultsV Tryz.prog Tryz.f34 f M = resL Tryz.prog [.tmp 4] f M := resultsV_eq rfl f M
theorem r35 (f M) : resultsV Tryz.prog Tryz.f35 f M = resL Tryz.prog [.cell 2 35] f M := resultsV_eq rfl f M
theorem r36 (f M) : resultsV Tryz.prog Tryz.f36 f M = resL Tryz.prog [] f M := resultsV_eq rfl f M
theorem r37 (f M) : resultsV Tryz.prog Tryz.f37 f M = resL Tryz.prog [] f M := resultsV_eq rfl f M
theorem r38 (f M) : resultsV Tryz.prog Tryz.f38 f M = resL Tryz.prog [.tmp 8] f M := resultsV_eq rfl f M
theorem r39 (f M) : resultsV Tryz.prog Tryz.f39 f M = resL Tryz.prog [.tmp 2] f M := resultsV_eq rfl f M
theorem r40 (f M) : resultsV Tryz.prog Tryz.f40 f M = resL Tryz.prog [.tmp 2] f M := resultsV_eq rfl f M
theorem r41 (f M) : resultsV Tryz.prog Tryz.f41 f M = resL Tryz.prog [.tmp 2] f M := resultsV_eq rfl f M
theorem r42 (f M) : resultsV Tryz.prog Tryz.f42 f M = resL Tryz.prog [] f M := resultsV_eq rfl f M
theorem r43 (f M) : resultsV Tryz.prog Tryz.f43 f M = resL Tryz.prog [.tmp 2] f M := resultsV_eq rfl f M
theorem r44 (f M) : resultsV Tryz.prog Tryz.f44 f M = resL Tryz.prog [.tmp 4] f M := resultsV_eq rfl f M
theorem r45 (f M) : resultsV Tryz.prog Tryz.f45 f M = resL Tryz.prog [] f M := resultsV_eq rfl f M
theorem r46 (f M) : resultsV Tryz.prog Tryz.f46 f M = resL Tryz.prog [] f M := resultsV_eq rfl f M
theorem r47 (f M) : resultsV Tryz.prog Tryz.f47 f M = resL Tryz.prog [.tmp 6, .tmp 7] f M := resultsV_eq rfl f M
theorem r48 (f M) : resultsV Tryz.prog Tryz.f48 f M = resL Tryz.prog [.tmp 2] f M := resultsV_eq rfl f M
theorem r49 (f M) : resultsV Tryz.prog Tryz.f49 f M = resL Tryz.prog [.tmp 2] f M := resultsV_eq rfl f M
theorem r50 (f M) : resultsV Tryz.prog Tryz.f50 f M = resL Tryz.prog [.tmp 2] f M := resultsV_eq rfl f M
theorem r51 (f M) : resultsV Tryz.prog Tryz.f51 f M = resL Tryz.prog [.tmp 4] f M := resultsV_eq rfl f M
theorem r52 (f M) : resultsV Tryz.prog Tryz.f52 f M = resL Tryz.prog [] f M := resultsV_eq rfl f M
theorem r53 (f M) : resultsV Tryz.prog Tryz.f53 f M = resL Tryz.prog [.tmp 6] f M := resultsV_eq rfl f M
theorem r54 (f M) : resultsV Tryz.prog Tryz.f54 f M = resL Tryz.prog [.cell 6 32, .tmp 7] f M := resultsV_eq rfl f M
theorem r55 (f M) : resultsV Tryz.prog Tryz.f55 f M = resL Tryz.prog [.tmp 2] f M := resultsV_eq rfl f M
theorem r56 (f M) : resultsV Tryz.prog Tryz.f56 f M = resL Tryz.prog [.tmp 4] f M := resultsV_eq rfl f M
theorem r57 (f M) : resultsV Tryz.prog Tryz.f57 f M = resL Tryz.prog [.tmp 2] f M := resultsV_eq rfl f M
theorem r58 (f M) : resultsV Tryz.prog Tryz.f58 f M = resL Tryz.prog [.tmp 2] f M := resultsV_eq rfl f M
theorem r59 (f M) : resultsV Tryz.prog Tryz.f59 f M = resL Tryz.prog [.tmp 8, .tmp 9] f M := resultsV_eq rfl f M
theorem r60 (f M) : resultsV Tryz.prog Tryz.f60 f M = resL Tryz.prog [.tmp 4, .tmp 5] f M := resultsV_eq rfl f M
theorem r61 (f M) : resultsV Tryz.prog Tryz.f61 f M = resL Tryz.prog [.tmp 4] f M := resultsV_eq rfl f M
theorem r62 (f M) : resultsV Tryz.prog Tryz.f62 f M = resL Tryz.prog [.cell 4 32] f M := resultsV_eq rfl f M
theorem r63 (f M) : resultsV Tryz.prog Tryz.f63 f M = resL Tryz.prog [.tmp 2] f M := resultsV_eq rfl f M
theorem r64 (f M) : resultsV Tryz.prog Tryz.f64 f M = resL Tryz.prog [] f M := resultsV_eq rfl f M
theorem r65 (f M) : resultsV Tryz.prog Tryz.f65 f M = resL Tryz.prog [] f M := resultsV_eq rfl f M
theorem r66 (f M) : resultsV Tryz.prog Tryz.f66 f M = resL Tryz.prog [] f M := resultsV_eq rfl f M
theorem r67 (f M) : resultsV Tryz.prog Tryz.f67 f M = resL Tryz.prog [.tmp 4, .tmp 5] f M := resultsV_eq rfl f M
theorem r68 (f M) : resultsV Tryz.prog Tryz.f68 f M = resL Tryz.prog [.tmp 6, .tmp 7] f M := resultsV_eq rfl f M
theorem r69 (f M) : resultsV Tryz.prog Tryz.f69 f M = resL Tryz.prog [.tmp 4] f M := resultsV_eq rfl f M
theorem r70 (f M) : resultsV Tryz.prog Tryz.f70 f M = resL Tryz.prog [.tmp 4] f M := resultsV_eq rfl f M
theorem r71 (f M) : resultsV Tryz.prog Tryz.f71 f M = resL Tryz.prog [.tmp 4] f M := resultsV_eq rfl f M
theorem r72 (f M) : resultsV Tryz.prog Tryz.f72 f M = resL Tryz.prog [.tmp 6] f M := resultsV_eq rfl f M
theorem r73 (f M) : resultsV Tryz.prog Tryz.f73 f M = resL Tryz.prog [.tmp 6] f M := resultsV_eq rfl f M
theorem r74 (f M) : resultsV Tryz.prog Tryz.f74 f M = resL Tryz.prog [.tmp 4] f M := resultsV_eq rfl f M
theorem r75 (f M) : resultsV Tryz.prog Tryz.f75 f M = resL Tryz.prog [.tmp 4] f M := resultsV_eq rfl f M
theorem r76 (f M) : resultsV Tryz.prog Tryz.f76 f M = resL Tryz.prog [.tmp 4] f M := resultsV_eq rfl f M
theorem r77 (f M) : resultsV Tryz.prog Tryz.f77 f M = resL Tryz.prog [.tmp 4] f M := resultsV_eq rfl f M
theorem r78 (f M) : resultsV Tryz.prog Tryz.f78 f M = resL Tryz.prog [.tmp 2] f M := resultsV_eq rfl f M
theorem r79 (f M) : resultsV Tryz.prog Tryz.f79 f M = resL Tryz.prog [] f M := resultsV_eq rfl f M
theorem r80 (f M) : resultsV Tryz.prog Tryz.f80 f M = resL Tryz.prog [.tmp 4] f M := resultsV_eq rfl f M
theorem r81 (f M) : resultsV Tryz.prog Tryz.f81 f M = resL Tryz.prog [.tmp 2] f M := resultsV_eq rfl f M
theorem r82 (f M) : resultsV Tryz.prog Tryz.f82 f M = resL Tryz.prog [.tmp 6] f M := resultsV_eq rfl f M
theorem r83 (f M) : resultsV Tryz.prog Tryz.f83 f M = resL Tryz.prog [.tmp 2] f M := resultsV_eq rfl f M
theorem r84 (f M) : resultsV Tryz.prog Tryz.f84 f M = resL Tryz.prog [.tmp 2] f M := resultsV_eq rfl f M
theorem r85 (f M) : resultsV Tryz.prog Tryz.f85 f M = resL Tryz.prog [.tmp 6] f M := resultsV_eq rfl f M
theorem r86 (f M) : resultsV Tryz.prog Tryz.f86 f M = resL Tryz.prog [.cell 2 52] f M := resultsV_eq rfl f M
theorem r87 (f M) : resultsV Tryz.prog Tryz.f87 f M = resL Tryz.prog [.tmp 2] f M := resultsV_eq rfl f M
theorem r88 (f M) : resultsV Tryz.prog Tryz.f88 f M = resL Tryz.prog [.tmp 2] f M := resultsV_eq rfl f M
theorem r89 (f M) : resultsV Tryz.prog Tryz.f89 f M = resL Tryz.prog [.cell 4 32] f M := resultsV_eq rfl f M
theorem r90 (f M) : resultsV Tryz.prog Tryz.f90 f M = resL Tryz.prog [.tmp 4] f M := resultsV_eq rfl f M
theorem r91 (f M) : resultsV Tryz.prog Tryz.f91 f M = resL Tryz.prog [.tmp 4, .tmp 5] f M := resultsV_eq rfl f M
theorem r92 (f M) : resultsV Tryz.prog Tryz.f92 f M = resL Tryz.prog [.tmp 6, .tmp 7] f M := resultsV_eq rfl f M
theorem r93 (f M) : resultsV Tryz.prog Tryz.f93 f M = resL Tryz.prog [] f M := resultsV_eq rfl f M
theorem r94 (f M) : resultsV Tryz.prog Tryz.f94 f M = resL Tryz.prog [] f M := resultsV_eq rfl f M
theorem r95 (f M) : resultsV Tryz.prog Tryz.f95 f M = resL Tryz.prog [.tmp 4] f M := resultsV_eq rfl f M
theorem r96 (f M) : resultsV Tryz.prog Tryz.f96 f M = resL Tryz.prog [.tmp 4] f M := resultsV_eq rfl f M
theorem r97 (f M) : resultsV Tryz.prog Tryz.f97 f M = resL Tryz.prog [.tmp 6] f M := resultsV_eq rfl f M
theorem r98 (f M) : resultsV Tryz.prog Tryz.f98 f M = resL Tryz.prog [.tmp 10] f M := resultsV_eq rfl f M
theorem r99 (f M) : resultsV Tryz.prog Tryz.f99 f M = resL Tryz.prog [.tmp 2] f M := resultsV_eq rfl f M
theorem r100 (f M) : resultsV Tryz.prog Tryz.f100 f M = resL Tryz.prog [.tmp 4, .tmp 5] f M := resultsV_eq rfl f M
theorem r101 (f M) : resultsV Tryz.prog Tryz.f101 f M = resL Tryz.prog [.tmp 2] f M := resultsV_eq rfl f M
theorem r102 (f M) : resultsV Tryz.prog Tryz.f102 f M = resL Tryz.prog [.tmp 2] f M := resultsV_eq rfl f M
theorem r103 (f M) : resultsV Tryz.prog Tryz.f103 f M = resL Tryz.prog [] f M := resultsV_eq rfl f M
theorem r104 (f M) : resultsV Tryz.prog Tryz.f104 f M = resL Tryz.prog [.tmp 4] f M := resultsV_eq rfl f M
theorem r105 (f M) : resultsV Tryz.prog Tryz.f105 f M = resL Tryz.prog [] f M := resultsV_eq rfl f M
theorem r106 (f M) : resultsV Tryz.prog Tryz.f106 f M = resL Tryz.prog [.tmp 2] f M := resultsV_eq rfl f M
theorem r107 (f M) : resultsV Tryz.prog Tryz.f107 f M = resL Tryz.prog [.tmp 2] f M := resultsV_eq rfl f M
theorem r108 (f M) : resultsV Tryz.prog Tryz.f108 f M = resL Tryz.prog [.tmp 2] f M := resultsV_eq rfl f M
theorem r109 (f M) : resultsV Tryz.prog Tryz.f109 f M = resL Tryz.prog [.tmp 4] f M := resultsV_eq rfl f M
theorem r110 (f M) : resultsV Tryz.prog Tryz.f110 f M = resL Tryz.prog [.tmp 4] f M := resultsV_eq rfl f M
theorem r111 (f M) : resultsV Tryz.prog Tryz.f111 f M = resL Tryz.prog [.tmp 4] f M := resultsV_eq rfl f M
theorem r112 (f M) : resultsV Tryz.prog Tryz.f112 f M = resL Tryz.prog [.tmp 2] f M := resultsV_eq rfl f M
theorem r113 (f M) : resultsV Tryz.prog Tryz.f113 f M = resL Tryz.prog [.tmp 2] f M := resultsV_eq rfl f M
theorem r114 (f M) : resultsV Tryz.prog Tryz.f114 f M = resL Tryz.prog [.tmp 4] f M := resultsV_eq rfl f M
theorem r115 (f M) : resultsV Tryz.prog Tryz.f115 f M = resL Tryz.prog [.tmp 4] f M := resultsV_eq rfl f M
theorem r116 (f M) : resultsV Tryz.prog Tryz.f116 f M = resL Tryz.prog [.tmp 3] f M := resultsV_eq rfl f M
theorem r117 (f M) : resultsV Tryz.prog Tryz.f117 f M = resL Tryz.prog [.tmp 4] f M := resultsV_eq rfl f M
theorem r118 (f M) : resultsV Tryz.prog Tryz.f118 f M = resL Tryz.prog [] f M := resultsV_eq rfl f M
theorem r119 (f M) : resultsV Tryz.prog Tryz.f119 f M = resL Tryz.prog [.tmp 4] f M := resultsV_eq rfl f M
theorem r120 (f M) : resultsV Tryz.prog Tryz.f120 f M = resL Tryz.prog [.tmp 2] f M := resultsV_eq rfl f M
theorem r121 (f M) : resultsV Tryz.prog Tryz.f121 f M = resL Tryz.prog [.tmp 2] f M := resultsV_eq rfl f M
theorem r122 (f M) : resultsV Tryz.prog Tryz.f122 f M = resL Tryz.prog [.tmp 2] f M := resultsV_eq rfl f M
theorem r123 (f M) : resultsV Tryz.prog Tryz.f123 f M = resL Tryz.prog [.tmp 2] f M := resultsV_eq rfl f M
theorem r124 (f M) : resultsV Tryz.prog Tryz.f124 f M = resL Tryz.prog [.tmp 6] f M := resultsV_eq rfl f M
theorem r125 (f M) : resultsV Tryz.prog Tryz.f125 f M = resL Tryz.prog [.tmp 2] f M := resultsV_eq rfl f M
theorem r126 (f M) : resultsV Tryz.prog Tryz.f126 f M = resL Tryz.prog [.tmp 6] f M := resultsV_eq rfl f M
theorem r127 (f M) : resultsV Tryz.prog Tryz.f127 f M = resL Tryz.prog [.cell 4 32] f M := resultsV_eq rfl f M
theorem r128 (f M) : resultsV Tryz.prog Tryz.f128 f M = resL Tryz.prog [] f M := resultsV_eq rfl f M
theorem r129 (f M) : resultsV Tryz.prog Tryz.f129 f M = resL Tryz.prog [.tmp 4] f M := resultsV_eq rfl f M
theorem r130 (f M) : resultsV Tryz.prog Tryz.f130 f M = resL Tryz.prog [] f M := resultsV_eq rfl f M
theorem r131 (f M) : resultsV Tryz.prog Tryz.f131 f M = resL Tryz.prog [] f M := resultsV_eq rfl f M
theorem r132 (f M) : resultsV Tryz.prog Tryz.f132 f M = resL Tryz.prog [] f M := resultsV_eq rfl f M
theorem r133 (f M) : resultsV Tryz.prog Tryz.f133 f M = resL Tryz.prog [.tmp 8] f M := resultsV_eq rfl f M
theorem r134 (f M) : resultsV Tryz.prog Tryz.f134 f M = resL Tryz.prog [] f M := resultsV_eq rfl f M
theorem r135 (f M) : resultsV Tryz.prog Tryz.f135 f M = resL Tryz.prog [.tmp 6] f M := resultsV_eq rfl f M
theorem r136 (f M) : resultsV Tryz.prog Tryz.f136 f M = resL Tryz.prog [] f M := resultsV_eq rfl f M
theorem r137 (f M) : resultsV Tryz.prog Tryz.f137 f M = resL Tryz.prog [] f M := resultsV_eq rfl f M
theorem r138 (f M) : resultsV Tryz.prog Tryz.f138 f M = resL Tryz.prog [] f M := resultsV_eq rfl f M
theorem r139 (f M) : resultsV Tryz.prog Tryz.f139 f M = resL Tryz.prog [.tmp 8] f M := resultsV_eq rfl f M
theorem r140 (f M) : resultsV Tryz.prog Tryz.f140 f M = resL Tryz.prog [] f M := resultsV_eq rfl f M
theorem r141 (f M) : resultsV Tryz.prog Tryz.f141 f M = resL Tryz.prog [] f M := resultsV_eq rfl f M
theorem r142 (f M) : resultsV Tryz.prog Tryz.f142 f M = resL Tryz.prog [.tmp 6] f M := resultsV_eq rfl f M
theorem r143 (f M) : resultsV Tryz.prog Tryz.f143 f M = resL Tryz.prog [] f M := resultsV_eq rfl f M
theorem r144 (f M) : resultsV Tryz.prog Tryz.f144 f M = resL Tryz.prog [.tmp 4] f M := resultsV_eq rfl f M
theorem r145 (f M) : resultsV Tryz.prog Tryz.f145 f M = resL Tryz.prog [] f M := resultsV_eq rfl f M
theorem r146 (f M) : resultsV Tryz.prog Tryz.f146 f M = resL Tryz.prog [.tmp 6, .tmp 7] f M := resultsV_eq rfl f M
theorem r147 (f M) : resultsV Tryz.prog Tryz.f147 f M = resL Tryz.prog [.cell 6 32, .tmp 7] f M := resultsV_eq rfl f M
theorem r148 (f M) : resultsV Tryz.prog Tryz.f148 f M = resL Tryz.prog [.tmp 2] f M := resultsV_eq rfl f M
theorem r149 (f M) : resultsV Tryz.prog Tryz.f149 f M = resL Tryz.prog [.tmp 2] f M := resultsV_eq rfl f M
theorem r150 (f M) : resultsV Tryz.prog Tryz.f150 f M = resL Tryz.prog [.tmp 4] f M := resultsV_eq rfl f M
theorem r151 (f M) : resultsV Tryz.prog Tryz.f151 f M = resL Tryz.prog [] f M := resultsV_eq rfl f M
theorem r152 (f M) : resultsV Tryz.prog Tryz.f152 f M = resL Tryz.prog [.tmp 4] f M := resultsV_eq rfl f M
theorem r153 (f M) : resultsV Tryz.prog Tryz.f153 f M = resL Tryz.prog [.tmp 4] f M := resultsV_eq rfl f M
theorem r154 (f M) : resultsV Tryz.prog Tryz.f154 f M = resL Tryz.prog [.tmp 4] f M := resultsV_eq rfl f M
theorem r155 (f M) : resultsV Tryz.prog Tryz.f155 f M = resL Tryz.prog [.tmp 2] f M := resultsV_eq rfl f M
theorem r156 (f M) : resultsV Tryz.prog Tryz.f156 f M = resL Tryz.prog [.tmp 2] f M := resultsV_eq rfl f M
theorem r157 (f M) : resultsV Tryz.prog Tryz.f157 f M = resL Tryz.prog [.tmp 2] f M := resultsV_eq rfl f M
theorem r158 (f M) : resultsV Tryz.prog Tryz.f158 f M = resL Tryz.prog [.cell 4 32] f M := resultsV_eq rfl f M
theorem r159 (f M) : resultsV Tryz.prog Tryz.f159 f M = resL Tryz.prog [] f M := resultsV_eq rfl f M
theorem r160 (f M) : resultsV Tryz.prog Tryz.f160 f M = resL Tryz.prog [.tmp 4] f M := resultsV_eq rfl f M
theorem r161 (f M) : resultsV Tryz.prog Tryz.f161 f M = resL Tryz.prog [.tmp 4] f M := resultsV_eq rfl f M
theorem r162 (f M) : resultsV Tryz.prog Tryz.f162 f M = resL Tryz.prog [.tmp 4] f M := resultsV_eq rfl f M
theorem r163 (f M) : resultsV Tryz.prog Tryz.f163 f M = resL Tryz.prog [.tmp 2] f M := resultsV_eq rfl f M
theorem r164 (f M) : resultsV Tryz.prog Tryz.f164 f M = resL Tryz.prog [] f M := resultsV_eq rfl f M
theorem r165 (f M) : resultsV Tryz.prog Tryz.f165 f M = resL Tryz.prog [.tmp 3] f M := resultsV_eq rfl f M
theorem r166 (f M) : resultsV Tryz.prog Tryz.f166 f M = resL Tryz.prog [.tmp 4] f M := resultsV_eq rfl f M
theorem r167 (f M) : resultsV Tryz.prog Tryz.f167 f M = resL Tryz.prog [] f M := resultsV_eq rfl f M
theorem r168 (f M) : resultsV Tryz.prog Tryz.f168 f M = resL Tryz.prog [.tmp 2] f M := resultsV_eq rfl f M
theorem r169 (f M) : resultsV Tryz.prog Tryz.f169 f M = resL Tryz.prog [.tmp 2] f M := resultsV_eq rfl f M
theorem r170 (f M) : resultsV Tryz.prog Tryz.f170 f M = resL Tryz.prog [.tmp 4] f M := resultsV_eq rfl f M
theorem r171 (f M) : resultsV Tryz.prog Tryz.f171 f M = resL Tryz.prog [.tmp 2] f M := resultsV_eq rfl f M
theorem r172 (f M) : resultsV Tryz.prog Tryz.f172 f M = resL Tryz.prog [.tmp 4, .tmp 5] f M := resultsV_eq rfl f M
theorem r173 (f M) : resultsV Tryz.prog Tryz.f173 f M = resL Tryz.prog [.tmp 4] f M := resultsV_eq rfl f M
theorem r174 (f M) : resultsV Tryz.prog Tryz.f174 f M = resL Tryz.prog [.tmp 2] f M := resultsV_eq rfl f M
theorem r175 (f M) : resultsV Tryz.prog Tryz.f175 f M = resL Tryz.prog [] f M := resultsV_eq rfl f M
theorem r176 (f M) : resultsV Tryz.prog Tryz.f176 f M = resL Tryz.prog [.tmp 2] f M := resultsV_eq rfl f M
theorem r177 (f M) : resultsV Tryz.prog Tryz.f177 f M = resL Tryz.prog [.tmp 4] f M := resultsV_eq rfl f M
theorem r178 (f M) : resultsV Tryz.prog Tryz.f178 f M = resL Tryz.prog [.tmp 4] f M := resultsV_eq rfl f M
theorem r179 (f M) : resultsV Tryz.prog Tryz.f179 f M = resL Tryz.prog [.tmp 6] f M := resultsV_eq rfl f M
theorem r180 (f M) : resultsV Tryz.prog Tryz.f180 f M = resL Tryz.prog [.tmp 10] f M := resultsV_eq rfl f M
theorem r181 (f M) : resultsV Tryz.prog Tryz.f181 f M = resL Tryz.prog [] f M := resultsV_eq rfl f M
theorem r182 (f M) : resultsV Tryz.prog Tryz.f182 f M = resL Tryz.prog [.tmp 6, .tmp 7] f M := resultsV_eq rfl f M
theorem r183 (f M) : resultsV Tryz.prog Tryz.f183 f M = resL Tryz.prog [] f M := resultsV_eq rfl f M
theorem r184 (f M) : resultsV Tryz.prog Tryz.f184 f M = resL Tryz.prog [] f M := resultsV_eq rfl f M
theorem r185 (f M) : resultsV Tryz.prog Tryz.f185 f M = resL Tryz.prog [.tmp 8] f M := resultsV_eq rfl f M
theorem r186 (f M) : resultsV Tryz.prog Tryz.f186 f M = resL Tryz.prog [.tmp 6] f M := resultsV_eq rfl f M
theorem r187 (f M) : resultsV Tryz.prog Tryz.f187 f M = resL Tryz.prog [] f M := resultsV_eq rfl f M
theorem r188 (f M) : resultsV Tryz.prog Tryz.f188 f M = resL Tryz.prog [] f M := resultsV_eq rfl f M
theorem r189 (f M) : resultsV Tryz.prog Tryz.f189 f M = resL Tryz.prog [] f M := resultsV_eq rfl f M
theorem r190 (f M) : resultsV Tryz.prog Tryz.f190 f M = resL Tryz.prog [] f M := resultsV_eq rfl f M
theorem r191 (f M) : resultsV Tryz.prog Tryz.f191 f M = resL Tryz.prog [.tmp 4] f M := resultsV_eq rfl f M
theorem r192 (f M) : resultsV Tryz.prog Tryz.f192 f M = resL Tryz.prog [.tmp 6] f M := resultsV_eq rfl f M
theorem r193 (f M) : resultsV Tryz.prog Tryz.f193 f M = resL Tryz.prog [.tmp 8] f M := resultsV_eq rfl f M
theorem r194 (f M) : resultsV Tryz.prog Tryz.f194 f M = resL Tryz.prog [] f M := resultsV_eq rfl f M
theorem r195 (f M) : resultsV Tryz.prog Tryz.f195 f M = resL Tryz.prog [] f M := resultsV_eq rfl f M
theorem r196 (f M) : resultsV Tryz.prog Tryz.f196 f M = resL Tryz.prog [.tmp 4] f M := resultsV_eq rfl f M
theorem r197 (f M) : resultsV Tryz.prog Tryz.f197 f M = resL Tryz.prog [] f M := resultsV_eq rfl f M
theorem r198 (f M) : resultsV Tryz.prog Tryz.f198 f M = resL Tryz.prog [] f M := resultsV_eq rfl f M
theorem r199 (f M) : resultsV Tryz.prog Tryz.f199 f M = resL Tryz.prog [.tmp 4] f M := resultsV_eq rfl f M
theorem r200 (f M) : resultsV Tryz.prog Tryz.f200 f M = resL Tryz.prog [.tmp 6] f M := resultsV_eq rfl f M
theorem r201 (f M) : resultsV Tryz.prog Tryz.f201 f M = resL Tryz.prog [.tmp 8, .tmp 9] f M := resultsV_eq rfl f M
theorem r202 (f M) : resultsV Tryz.prog Tryz.f202 f M = resL Tryz.prog [.tmp 6] f M := resultsV_eq rfl f M
theorem r203 (f M) : resultsV Tryz.prog Tryz.f203 f M = resL Tryz.prog [] f M := resultsV_eq rfl f M
theorem r204 (f M) : resultsV Tryz.prog Tryz.f204 f M = resL Tryz.prog [.tmp 6] f M := resultsV_eq rfl f M
theorem r205 (f M) : resultsV Tryz.prog Tryz.f205 f M = resL Tryz.prog [.tmp 4] f M := resultsV_eq rfl f M
theorem r206 (f M) : resultsV Tryz.prog Tryz.f206 f M = resL Tryz.prog [.tmp 4] f M := resultsV_eq rfl f M
theorem r207 (f M) : resultsV Tryz.prog Tryz.f207 f M = resL Tryz.prog [.tmp 4] f M := resultsV_eq rfl f M
theorem r208 (f M) : resultsV Tryz.prog Tryz.f208 f M = resL Tryz.prog [.tmp 2] f M := resultsV_eq rfl f M
theorem r209 (f M) : resultsV Tryz.prog Tryz.f209 f M = resL Tryz.prog [.tmp 8] f M := resultsV_eq rfl f M
theorem r210 (f M) : resultsV Tryz.prog Tryz.f210 f M = resL Tryz.prog [.tmp 2] f M := resultsV_eq rfl f M
theorem r211 (f M) : resultsV Tryz.prog Tryz.f211 f M = resL Tryz.prog [.tmp 2] f M := resultsV_eq rfl f M
theorem r212 (f M) : resultsV Tryz.prog Tryz.f212 f M = resL Tryz.prog [.tmp 4] f M := resultsV_eq rfl f M
theorem r213 (f M) : resultsV Tryz.prog Tryz.f213 f M = resL Tryz.prog [.tmp 2] f M := resultsV_eq rfl f M
theorem r214 (f M) : resultsV Tryz.prog Tryz.f214 f M = resL Tryz.prog [.tmp 4] f M := resultsV_eq rfl f M
theorem r215 (f M) : resultsV Tryz.prog Tryz.f215 f M = resL Tryz.prog [] f M := resultsV_eq rfl f M
theorem r216 (f M) : resultsV Tryz.prog Tryz.f216 f M = resL Tryz.prog [] f M := resultsV_eq rfl f M
theorem r217 (f M) : resultsV Tryz.prog Tryz.f217 f M = resL Tryz.prog [] f M := resultsV_eq rfl f M
theorem r218 (f M) : resultsV Tryz.prog Tryz.f218 f M = resL Tryz.prog [.tmp 6, .tmp 7] f M := resultsV_eq rfl f M
theorem r219 (f M) : resultsV Tryz.prog Tryz.f219 f M = resL Tryz.prog [] f M := resultsV_eq rfl f M
theorem r220 (f M) : resultsV Tryz.prog Tryz.f220 f M = resL Tryz.prog [.tmp 6] f M := resultsV_eq rfl f M
theorem r221 (f M) : resultsV Tryz.prog Tryz.f221 f M = resL Tryz.prog [.tmp 4] f M := resultsV_eq rfl f M
theorem r222 (f M) : resultsV Tryz.prog Tryz.f222 f M = resL Tryz.prog [.tmp 8] f M := resultsV_eq rfl f M
theorem r223 (f M) : resultsV Tryz.prog Tryz.f223 f M = resL Tryz.prog [.tmp 8, .tmp 9] f M := resultsV_eq rfl f M
theorem r224 (f M) : resultsV Tryz.prog Tryz.f224 f M = resL Tryz.prog [.tmp 2] f M := resultsV_eq rfl f M
theorem r225 (f M) : resultsV Tryz.prog Tryz.f225 f M = resL Tryz.prog [.tmp 2, .tmp 3, .tmp 4] f M := resultsV_eq rfl f M
theorem r226 (f M) : resultsV Tryz.prog Tryz.f226 f M = resL Tryz.prog [.tmp 4] f M := resultsV_eq rfl f M
theorem r227 (f M) : resultsV Tryz.prog Tryz.f227 f M = resL Tryz.prog [.tmp 4, .tmp 5] f M := resultsV_eq rfl f M
theorem r228 (f M) : resultsV Tryz.prog Tryz.f228 f M = resL Tryz.prog [.tmp 4] f M := resultsV_eq rfl f M
theorem r229 (f M) : resultsV Tryz.prog Tryz.f229 f M = resL Tryz.prog [.tmp 4] f M := resultsV_eq rfl f M
theorem r230 (f M) : resultsV Tryz.prog Tryz.f230 f M = resL Tryz.prog [.tmp 10] f M := resultsV_eq rfl f M
theorem r231 (f M) : resultsV Tryz.prog Tryz.f231 f M = resL Tryz.prog [] f M := resultsV_eq rfl f M
theorem r232 (f M) : resultsV Tryz.prog Tryz.f232 f M = resL Tryz.prog [.tmp 6] f M := resultsV_eq rfl f M
theorem r233 (f M) : resultsV Tryz.prog Tryz.f233 f M = resL Tryz.prog [.tmp 8] f M := resultsV_eq rfl f M
theorem r234 (f M) : resultsV Tryz.prog Tryz.f234 f M = resL Tryz.prog [.tmp 6] f M := resultsV_eq rfl f M
theorem r235 (f M) : resultsV Tryz.prog Tryz.f235 f M = resL Tryz.prog [.tmp 8, .tmp 9] f M := resultsV_eq rfl f M
theorem r236 (f M) : resultsV Tryz.prog Tryz.f236 f M = resL Tryz.prog [.tmp 6] f M := resultsV_eq rfl f M
theorem r237 (f M) : resultsV Tryz.prog Tryz.f237 f M = resL Tryz.prog [.tmp 6] f M := resultsV_eq rfl f M
theorem r238 (f M) : resultsV Tryz.prog Tryz.f238 f M = resL Tryz.prog [.tmp 4, .tmp 5] f M := resultsV_eq rfl f M
theorem r239 (f M) : resultsV Tryz.prog Tryz.f239 f M = resL Tryz.prog [] f M := resultsV_eq rfl f M
theorem r240 (f M) : resultsV Tryz.prog Tryz.f240 f M = resL Tryz.prog [] f M := resultsV_eq rfl f M
theorem r241 (f M) : resultsV Tryz.prog Tryz.f241 f M = resL Tryz.prog [.tmp 2, .tmp 3] f M := resultsV_eq rfl f M
theorem r242 (f M) : resultsV Tryz.prog Tryz.f242 f M = resL Tryz.prog [] f M := resultsV_eq rfl f M
theorem r243 (f M) : resultsV Tryz.prog Tryz.f243 f M = resL Tryz.prog [] f M := resultsV_eq rfl f M
theorem r244 (f M) : resultsV Tryz.prog Tryz.f244 f M = resL Tryz.prog [.tmp 2] f M := resultsV_eq rfl f M
theorem r245 (f M) : resultsV Tryz.prog Tryz.f245 f M = resL Tryz.prog [.tmp 2] f M := resultsV_eq rfl f M
theorem r246 (f M) : resultsV Tryz.prog Tryz.f246 f M = resL Tryz.prog [.tmp 6] f M := resultsV_eq rfl f M
theorem r247 (f M) : resultsV Tryz.prog Tryz.f247 f M = resL Tryz.prog [.tmp 10] f M := resultsV_eq rfl f M
theorem r248 (f M) : resultsV Tryz.prog Tryz.f248 f M = resL Tryz.prog [.tmp 2] f M := resultsV_eq rfl f M
theorem r249 (f M) : resultsV Tryz.prog Tryz.f249 f M = resL Tryz.prog [.tmp 4] f M := resultsV_eq rfl f M
theorem r250 (f M) : resultsV Tryz.prog Tryz.f250 f M = resL Tryz.prog [.tmp 3] f M := resultsV_eq rfl f M
theorem r251 (f M) : resultsV Tryz.prog Tryz.f251 f M = resL Tryz.prog [.tmp 2] f M := resultsV_eq rfl f M
theorem r252 (f M) : resultsV Tryz.prog Tryz.f252 f M = resL Tryz.prog [] f M := resultsV_eq rfl f M
theorem r253 (f M) : resultsV Tryz.prog Tryz.f253 f M = resL Tryz.prog [.tmp 4] f M := resultsV_eq rfl f M
theorem r254 (f M) : resultsV Tryz.prog Tryz.f254 f M = resL Tryz.prog [.tmp 8, .tmp 9] f M := resultsV_eq rfl f M
theorem r255 (f M) : resultsV Tryz.prog Tryz.f255 f M = resL Tryz.prog [] f M := resultsV_eq rfl f M
theorem r256 (f M) : resultsV Tryz.prog Tryz.f256 f M = resL Tryz.prog [] f M := resultsV_eq rfl f M
theorem r257 (f M) : resultsV Tryz.prog Tryz.f257 f M = resL Tryz.prog [] f M := resultsV_eq rfl f M
theorem r258 (f M) : resultsV Tryz.prog Tryz.f258 f M = resL Tryz.prog [] f M := resultsV_eq rfl f M
theorem r259 (f M) : resultsV Tryz.prog Tryz.f259 f M = resL Tryz.prog [] f M := resultsV_eq rfl f M
theorem r260 (f M) : resultsV Tryz.prog Tryz.f260 f M = resL Tryz.prog [] f M := resultsV_eq rfl f M
theorem r261 (f M) : resultsV Tryz.prog Tryz.f261 f M = resL Tryz.prog [] f M := resultsV_eq rfl f M
theorem r262 (f M) : resultsV Tryz.prog Tryz.f262 f M = resL Tryz.prog [] f M := resultsV_eq rfl f M
theorem r263 (f M) : resultsV Tryz.prog Tryz.f263 f M = resL Tryz.prog [] f M := resultsV_eq rfl f M
theorem r264 (f M) : resultsV Tryz.prog Tryz.f264 f M = resL Tryz.prog [] f M := resultsV_eq rfl f M
theorem r265 (f M) : resultsV Tryz.prog Tryz.f265 f M = resL Tryz.prog [] f M := resultsV_eq rfl f M
theorem r266 (f M) : resultsV Tryz.prog Tryz.f266 f M = resL Tryz.prog [] f M := resultsV_eq rfl f M
theorem r267 (f M) : resultsV Tryz.prog Tryz.f267 f M = resL Tryz.prog [] f M := resultsV_eq rfl f M
theorem r268 (f M) : resultsV Tryz.prog Tryz.f268 f M = resL Tryz.prog [] f M := resultsV_eq rfl f M
theorem r269 (f M) : resultsV Tryz.prog Tryz.f269 f M = resL Tryz.prog [] f M := resultsV_eq rfl f M
theorem r270 (f M) : resultsV Tryz.prog Tryz.f270 f M = resL Tryz.prog [] f M := resultsV_eq rfl f M
theorem r271 (f M) : resultsV Tryz.prog Tryz.f271 f M = resL Tryz.prog [] f M := resultsV_eq rfl f M
theorem r272 (f M) : resultsV Tryz.prog Tryz.f272 f M = resL Tryz.prog [] f M := resultsV_eq rfl f M
attribute [push_cast] run_seq h93s h93c h93r run_reg run_ops_nil run_ret run_skip Oo_move Oo_assign Oo_pick Oo_alloc Oo_box Oo_build Oo_buildSlice Oo_load Oo_store Oo_nilCheck Oo_binOp Oo_unOp Oo_convert Oo_makeFunc Oo_makeMap Oo_slice Oo_fieldAddr Oo_field Oo_indexAddr Oo_index Oo_lookup Oo_mapUpdate Oo_insert Oo_extract Oo_builtin Oo_fn ev_tmp ev_bool ev_int ev_nilp ev_nils ev_nilm
attribute [push_cast] ev_func put_some put_none upd_at argsTm_nil argsTm_zero argsTm_succ run_op_plain wantedV Oo_call callOf
attribute [push_cast] kd3 kd5 kd9 kd20 kd22 kd24 kd29 kd30 kd32 kd33 kd35 kd36 kd41 kd42 kd44 kd46 kd50 kd52 kd55 kd56 kd58 kd61 kd65 kd66 kd71 kd73 kd79 kd80 kd82 kd83 kd84 kd85 kd86 kd88 kd91 kd103 kd112 kd113 kd115 kd121
attribute [push_cast] kd128 kd129 kd130 kd132 kd135 kd141 kd144 kd150 kd156 kd161 kd172 kd182 kd186 kd191 kd194 kd199 kd202 kd224 kd236 kd243 kd251 sz3 sz4 sz5 sz24 sz29 sz30 sz32 sz33 sz35 sz36 sz41 sz42 sz44 sz46 sz50 sz52 sz53 sz54 sz55
attribute [push_cast] sz56 sz61 sz71 sz73 sz82 sz83 sz84 sz85 sz86 sz91 sz112 sz113 sz121 sz122 sz125 sz128 sz129 sz130 sz141 sz150 sz161 sz191 sz194 sz213 sz243 ze3 ze29 ze32 ze33 ze35 ze36 ze44 ze50 ze52 ze58 ze71 ze88 ze91 ze112 ze115
attribute [push_cast] ze121 ze129 ze132 ze135 ze141 ze144 ze150 ze161 ze172 ze182 ze186 ze191 ze194 ze202 ze236 ze243 ze251
attribute [push_cast] q0 q1 q2 q3 q4 q5 q6 q7 q8 q9 q10 q11 q12 q13 q14 q15 q16 q17 q18 q19 q20 q21 q22 q23 q24 q25 q26 q27 q28 q29 q30 q31 q32 q33 q34 q35 q36 q37 q38 q39
attribute [push_cast] q40 q41 q42 q43 q44 q45 q46 q47 q48 q49 q50 q51 q52 q53 q54 q55 q56 q57 q58 q59 q60 q61 q62 q63 q64 q65 q66 q67 q68 q69 q70 q71 q72 q73 q74 q75 q76 q77 q78 q79
attribute [push_cast] q80 q81 q82 q83 q84 q85 q86 q87 q88 q89 q90 q91 q92 q93 q94 q95 q96 q97 q98 q99 q100 q101 q102 q103 q104 q105 q106 q107 q108 q109 q110 q111 q112 q113 q114 q115 q116 q117 q118 q119
attribute [push_cast] q120 q121 q122 q123 q124 q125 q126 q127 q128 q129 q130 q131 q132 q133 q134 q135 q136 q137 q138 q139 q140 q141 q142 q143 q144 q145 q146 q147 q148 q149 q150 q151 q152 q153 q154 q155 q156 q157 q158 q159
attribute [push_cast] q160 q161 q162 q163 q164 q165 q166 q167 q168 q169 q170 q171 q172 q173 q174 q175 q176 q177 q178 q179 q180 q181 q182 q183 q184 q185 q186 q187 q188 q189 q190 q191 q192 q193 q194 q195 q196 q197 q198 q199
attribute [push_cast] q200 q201 q202 q203 q204 q205 q206 q207 q208 q209 q210 q211 q212 q213 q214 q215 q216 q217 q218 q219 q220 q221 q222 q223 q224 q225 q226 q227 q228 q229 q230 q231 q232 q233 q234 q235 q236 q237 q238 q239
attribute [push_cast] q240 q241 q242 q243 q244 q245 q246 q247 q248 q249 q250 q251 q252 q253 q254 q255 q256 q257 q258 q259 q260 q261 q262 q263 q264 q265 q266 q267 q268 q269 q270 q271 q272 z0 z1 z2 z3 z4 z5 z6
attribute [push_cast] z7 z8 z9 z10 z11 z12 z13 z14 z15 z16 z17 z18 z19 z20 z21 z22 z23 z24 z25 z26 z27 z28 z29 z30 z31 z32 z33 z34 z35 z36 z37 z38 z39 z40 z41 z42 z43 z44 z45 z46
attribute [push_cast] z47 z48 z49 z50 z51 z52 z53 z54 z55 z56 z57 z58 z59 z60 z61 z62 z63 z64 z65 z66 z67 z68 z69 z70 z71 z72 z73 z74 z75 z76 z77 z78 z79 z80 z81 z82 z83 z84 z85 z86
attribute [push_cast] z87 z88 z88n z89 z90 z91 z92 z93 z94 z95 z96 z97 z98 z99 z100 z101 z102 z103 z104 z105 z106 z107 z108 z109 z110 z111 z112 z113 z114 z115 z116 z117 z118 z119 z120 z121 z122 z123 z124 z125
attribute [push_cast] z126 z127 z128 z129 z130 z131 z132 z133 z134 z135 z136 z137 z138 z139 z140 z141 z142 z143 z144 z145 z146 z147 z148 z149 z150 z151 z152 z153 z154 z155 z156 z157 z158 z159 z160 z161 z162 z163 z164 z165
attribute [push_cast] z166 z167 z168 z169 z170 z171 z172 z173 z174 z175 z176 z177 z178 z179 z180 z181 z182 z183 z184 z185 z186 z187 z188 z189 z190 z191 z192 z193 z194 z195 z196 z197 z198 z199 z200 z201 z202 z203 z204 z205
attribute [push_cast] z206 z207 z208 z209 z210 z211 z212 z213 z214 z215 z216 z217 z218 z219 z220 z221 z222 z223 z224 z225 z226 z227 z228 z229 z230 z231 z232 z233 z234 z235 z236 z237 z238 z239 z240 z241 z242 z243 z244 z245
attribute [push_cast] z246 z247 z248 z249 z250 z251 z252 z253 z254 z255 z256 z257 z258 z259 z260 z261 z262 z263 z264 z265 z266 z267 z268 z269 z270 z271 z272 h0 h1 h2 h3 h4 h5 h6 h7 h8 h9 h10 h11 h12
attribute [push_cast] h13 h14 h15 h16 h17 h18 h19 h20 h21 h22 h23 h24 h25 h26 h27 h28 h29 h30 h31 h32 h33 h34 h35 h36 h37 h38 h39 h40 h41 h42 h43 h44 h45 h46 h47 h48 h49 h50 h51 h52
attribute [push_cast] h53 h54 h55 h56 h57 h58 h59 h60 h61 h62 h63 h64 h65 h66 h67 h68 h69 h70 h71 h72 h73 h74 h75 h76 h77 h78 h79 h80 h81 h82 h83 h84 h85 h86 h87 h88 h89 h90 h91 h92
attribute [push_cast] h94 h95 h96 h97 h98 h99 h100 h101 h102 h103 h104 h105 h106 h107 h108 h109 h110 h111 h112 h113 h114 h115 h116 h117 h118 h119 h120 h121 h122 h123 h124 h125 h126 h127 h128 h129 h130 h131 h132 h133
attribute [push_cast] h134 h135 h136 h137 h138 h139 h140 h141 h142 h143 h144 h145 h146 h147 h148 h149 h150 h151 h152 h153 h154 h155 h156 h157 h158 h159 h160 h161 h162 h163 h164 h165 h166 h167 h168 h169 h170 h171 h172 h173
attribute [push_cast] h174 h175 h176 h177 h178 h179 h180 h181 h182 h183 h184 h185 h186 h187 h188 h189 h190 h191 h192 h193 h194 h195 h196 h197 h198 h199 h200 h201 h202 h203 h204 h205 h206 h207 h208 h209 h210 h211 h212 h213
attribute [push_cast] h214 h215 h216 h217 h218 h219 h220 h221 h222 h223 h224 h225 h226 h227 h228 h229 h230 h231 h232 h233 h234 h235 h236 h237 h238 h239 h240 h241 h242 h243 h244 h245 h246 h247 h248 h249 h250 h251 h252 h253
attribute [push_cast] h254 h255 h256 h257 h258 h259 h260 h261 h262 h263 h264 h265 h266 h267 h268 h269 h270 h271 h272 l0 l1 l2 l3 l4 l5 l6 l7 l8 l9 l10 l11 l12 l13 l14 l15 l16 l17 l18 l19 l20
attribute [push_cast] l21 l22 l23 l24 l25 l26 l27 l28 l29 l30 l31 l32 l33 l34 l35 l36 l37 l38 l39 l40 l41 l42 l43 l44 l45 l46 l47 l48 l49 l50 l51 l52 l53 l54 l55 l56 l57 l58 l59 l60
attribute [push_cast] l61 l62 l63 l64 l65 l66 l67 l68 l69 l70 l71 l72 l73 l74 l75 l76 l77 l78 l79 l80 l81 l82 l83 l84 l85 l86 l87 l88 l89 l90 l91 l92 l93 l94 l95 l96 l97 l98 l99 l100
attribute [push_cast] l101 l102 l103 l104 l105 l106 l107 l108 l109 l110 l111 l112 l113 l114 l115 l116 l117 l118 l119 l120 l121 l122 l123 l124 l125 l126 l127 l128 l129 l130 l131 l132 l133 l134 l135 l136 l137 l138 l139 l140
attribute [push_cast] l141 l142 l143 l144 l145 l146 l147 l148 l149 l150 l151 l152 l153 l154 l155 l156 l157 l158 l159 l160 l161 l162 l163 l164 l165 l166 l167 l168 l169 l170 l171 l172 l173 l174 l175 l176 l177 l178 l179 l180
attribute [push_cast] l181 l182 l183 l184 l185 l186 l187 l188 l189 l190 l191 l192 l193 l194 l195 l196 l197 l198 l199 l200 l201 l202 l203 l204 l205 l206 l207 l208 l209 l210 l211 l212 l213 l214 l215 l216 l217 l218 l219 l220
attribute [push_cast] l221 l222 l223 l224 l225 l226 l227 l228 l229 l230 l231 l232 l233 l234 l235 l236 l237 l238 l239 l240 l241 l242 l243 l244 l245 l246 l247 l248 l249 l250 l251 l252 l253 l254 l255 l256 l257 l258 l259 l260
attribute [push_cast] l261 l262 l263 l264 l265 l266 l267 l268 l269 l270 l271 l272
attribute [push_cast] r0 r1 r2 r3 r4 r5 r6 r7 r8 r9 r10 r11 r12 r13 r14 r15 r16 r17 r18 r19 r20 r21 r22 r23 r24 r25 r26 r27 r28 r29 r30 r31 r32 r33 r34 r35 r36 r37 r38 r39
attribute [push_cast] r40 r41 r42 r43 r44 r45 r46 r47 r48 r49 r50 r51 r52 r53 r54 r55 r56 r57 r58 r59 r60 r61 r62 r63 r64 r65 r66 r67 r68 r69 r70 r71 r72 r73 r74 r75 r76 r77 r78 r79
attribute [push_cast] r80 r81 r82 r83 r84 r85 r86 r87 r88 r89 r90 r91 r92 r93 r94 r95 r96 r97 r98 r99 r100 r101 r102 r103 r104 r105 r106 r107 r108 r109 r110 r111 r112 r113 r114 r115 r116 r117 r118 r119
attribute [push_cast] r120 r121 r122 r123 r124 r125 r126 r127 r128 r129 r130 r131 r132 r133 r134 r135 r136 r137 r138 r139 r140 r141 r142 r143 r144 r145 r146 r147 r148 r149 r150 r151 r152 r153 r154 r155 r156 r157 r158 r159
attribute [push_cast] r160 r161 r162 r163 r164 r165 r166 r167 r168 r169 r170 r171 r172 r173 r174 r175 r176 r177 r178 r179 r180 r181 r182 r183 r184 r185 r186 r187 r188 r189 r190 r191 r192 r193 r194 r195 r196 r197 r198 r199
attribute [push_cast] r200 r201 r202 r203 r204 r205 r206 r207 r208 r209 r210 r211 r212 r213 r214 r215 r216 r217 r218 r219 r220 r221 r222 r223 r224 r225 r226 r227 r228 r229 r230 r231 r232 r233 r234 r235 r236 r237 r238 r239
attribute [push_cast] r240 r241 r242 r243 r244 r245 r246 r247 r248 r249 r250 r251 r252 r253 r254 r255 r256 r257 r258 r259 r260 r261 r262 r263 r264 r265 r266 r267 r268 r269 r270 r271 r272
attribute [push_cast] Un_self Un_cons Off_self Off_self2 Off_self3 Off_self4 Off_self5 Off_self6 Off_self7 Off_self8 Off_self9 Off_self10 Off_self11 Off_self12 Off_self13 Off_self14 Off_self15 Off_cc Sub_refl Sub_set Sub_del FreshM_set FreshM_del cons_ne1 cons_ne2 cons_ne3 cons_ne4 cons_ne5 cons_ne6 cons_ne7 cons_ne8 cons_ne9 cons_ne10 cons_ne11 cons_ne12 cons_ne13 cons_ne14 cons_ne15 cons_ne16 cons_ne17
attribute [push_cast] cons_ne18 cons_ne19 cons_ne20 cons_ne21 cons_ne22 cons_ne23 cons_ne24 leave_free leave_freeF leave_quietF leave_addsF leave_quietT' leave_addsT' Mem.set_set Mem.set_at Mem.del_at resL_nil resL_tmp resL_tmp2 resL_tmp3 resL_cell resL_ct envP
attribute [push_cast] bin_add bin_sub bin_mul bin_quo bin_rem bin_eql bin_neq bin_lss bin_leq bin_gtr bin_geq bin_shl bin_shr bin_eql_bool bin_eql_str bin_eql_nilp bin_eql_ptr bin_eql_pptr bin_eql_nils bin_eql_sl bin_eql_psl bin_eql_agg bin_neq_bool bin_neq_str bin_neq_nilp bin_neq_ptr bin_neq_pptr bin_neq_nils bin_neq_sl bin_neq_psl bin_neq_agg fz_sl ld_ptr ld_pptr ix_sl ix_psl ix_ptr ln_nils ln_sl ln_psl
attribute [push_cast] ln_str ln_nilm ln_mapr fa_ptr fa_pptr fv_agg sv_nils sv_sl sv_psl sv_str mn_2 mx_2 mn_3 fk_nil fk_cons sk_int sk_bool en_nilm en_mapr sr_nils sr_sl sr_psl sr_str jn_nils jn_psl jn_sl fz_psl fz_agg fz_tup0 fz_tup2 fzL_nil fzL_cons fz1_sl fz1_psl fz1_nils fz1_int fz1_bool fz1_nilp fz1_ptr fz_bool
attribute [push_cast] fz_int fz_nils cells_bool cells_int cells_str cells_nilp cells_ptr cells_pptr cells_nils cells_sl cells_psl cells_nilm cells_mapr cells_fn cells_nilf cells_agg one_bool one_int one_str one_nilp one_ptr one_pptr one_nils one_sl one_psl one_nilm one_mapr one_fn one_nilf
attribute [push_cast] run_nil run_blk run_exit run_block run_loop run_cd run_gd gsel_f gsel_t csel_f csel_t unwind
attribute [push_cast] partV storeV splice indexV optB boundV cutB cut2 eqV eq1 eqCells fitK arithV unV isKey lookupV mapUpdateV fillV repeatV buildV buildSliceV appendV builtinV clearSV nilCheckV
attribute [push_cast] List.getElem?_toArray List.size_toArray decide_true decide_false beq_true beq_false Int.natCast_pos List.length_map List.length_append List.length_take List.length_drop List.length_replicate Nat.mul_one Nat.one_mul Nat.le_refl Nat.le_zero_eq Nat.zero_le Option.bind_some Option.map_some Option.bind_none Option.map_none List.getElem?_cons_zero List.getElem?_cons_succ List.length_cons List.length_nil List.take_succ_cons List.drop_succ_cons List.take_zero List.drop_zero List.take_nil List.drop_nil List.cons_append List.nil_append List.append_nil List.map_cons List.map_nil List.all_cons List.all_nil Bool.and_true Bool.true_and
attribute [push_cast] Bool.false_and Bool.and_false Bool.true_or Bool.or_true Bool.false_or Bool.or_false Bool.false_eq_true if_true if_false and_self and_true true_and Nat.zero_add Nat.add_zero Option.getD_some Option.getD_none Option.isSome_some Option.isSome_none List.cons.injEq false_and and_false Bool.not_true Bool.not_false not_false_eq_true not_true_eq_false List.set_cons_zero List.set_cons_succ true_or or_true false_or or_false not_or List.mem_cons List.not_mem_nil
attribute [congr] bind_cong run_cong Oo_cong
end R
end Go.Ab
