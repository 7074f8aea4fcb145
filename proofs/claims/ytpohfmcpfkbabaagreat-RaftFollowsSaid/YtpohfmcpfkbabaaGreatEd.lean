/- A region whose order is drawn comes to what its text's order comes to. Conditions: none. -/
import Derived.Test.YtpohfmcpfkbabaaGreatEc
import Derived.Tactics
set_option linter.unusedSimpArgs false
set_option linter.unusedVariables false
namespace Go.Ab

/-! operands -/
theorem opV_congr {P : Program} {o : Op} {ρ ρ' : Operand → V} (h : ∀ x ∈ o.operands, ρ x = ρ' x) (i : Id) (M : Mem) : opV P o ρ i M = opV P o ρ' i M := by
  have pairs : ∀ ps : Array (Nat × Operand), (∀ x ∈ (ps.toList.map (·.2)), ρ x = ρ' x) → (ps.toList.map fun (n, x) => (n, ρ x)) = (ps.toList.map fun (n, x) => (n, ρ' x)) := fun ps hp =>
    List.map_congr_left fun p hm => by
      obtain ⟨n, x⟩ := p
      simp only [hp x (List.mem_map.2 ⟨(n, x), hm, rfl⟩)]
  have arrs : ∀ a : Array Operand, (∀ x ∈ a, ρ x = ρ' x) → a.toList.map ρ = a.toList.map ρ' := fun a ha => List.map_congr_left fun x hx => ha x (by simpa using hx)
  have opt : ∀ b : Option Operand, (∀ x ∈ b.toArray, ρ x = ρ' x) → optB ρ b = optB ρ' b := fun b hb => by
    cases b with
    | none => rfl
    | some x => simp only [optB]; rw [hb x (by simp)]
  cases o <;> simp only [Op.operands] at h <;> simp only [opV]
  case build t ps => rw [pairs ps fun x hx => h x (by simpa using hx)]
  case buildSlice t n ps => rw [pairs ps fun x hx => h x (by simpa using hx)]
  case makeFunc fn first captured => rw [arrs first fun x hx => h x (by simp [hx]), arrs captured fun x hx => h x (by simp [hx])]
  case call c =>
    obtain ⟨ce, as, ts⟩ := c
    cases ce with
    | builtin b => simp only [opV]; rw [arrs as fun x hx => h x (by simp [Call.operands, hx])]
    | value x => rfl
    | invoke x y => rfl
  case makeMap t r => cases r <;> rfl
  case slice t x lo hi mx =>
    rw [opt lo fun y hy => h y (by simp at hy; simp [hy]), opt hi fun y hy => h y (by simp at hy; simp [hy]), opt mx fun y hy => h y (by simp at hy; simp [hy]), h x (by simp)]
  all_goals (first | rfl | (simp_all; done))

theorem callOf_congr {c : Call} {ρ ρ' : Operand → V} (h : ∀ x ∈ c.operands, ρ x = ρ' x) : callOf ρ c = callOf ρ' c := by
  unfold callOf
  cases hc : c.callee with
  | value f =>
    have hf : ρ f = ρ' f := h f (by simp [Call.operands, hc])
    have ha : c.args.toList.map ρ = c.args.toList.map ρ' := List.map_congr_left fun x hx => h x (by simp [Call.operands]; exact .inr (by simpa using hx))
    simp only [hf, ha]
  | invoke => rfl
  | builtin => rfl

theorem opN_congr {E : Env} {n : Nat} {cur : FuncId} {o : Oper} {s : Id} {f g : Tm} {M : Mem} (h : ∀ x ∈ o.op.operands, ev f x = ev g x) : opN E n cur o s f M = opN E n cur o s g M := by
  cases n with
  | zero => rfl
  | succ n =>
    simp only [opN]
    split
    · rename_i c hc
      rw [hc] at h
      have h1 := callOf_congr (c := c) h
      rw [h1]
      split
      · rfl
      · exact opV_congr (by rw [hc]; exact h) _ _
    · exact opV_congr h _ _

/-- two tables of temporaries agree where an operation looks -/
def AgreeAt (ops : Array Oper) (o : Oper) (f g : Tm) : Prop := ∀ t ∈ o.looksAt ops, f t = g t

theorem AgreeAt.ev {ops : Array Oper} {o : Oper} {f g : Tm} (h : AgreeAt ops o f g) : ∀ x ∈ o.op.operands, Ab.ev f x = Ab.ev g x := by
  intro x hx
  cases x with
  | tmp t => exact h t (List.mem_append_left _ (List.mem_filterMap.2 ⟨.tmp t, by simpa using hx, rfl⟩))
  | _ => rfl

theorem AgreeAt.wanted {ops : Array Oper} {o : Oper} {f g : Tm} (h : AgreeAt ops o f g) : wantedV f ops o = wantedV g ops o := by
  unfold wantedV
  split
  · rfl
  · rename_i j want hg
    split
    · rename_i d hd
      rw [h d (by simp [Oper.looksAt, hg, hd])]
    · rfl

theorem wanted_sound {ops : Array Oper} {o : Oper} {f : Tm} {a : Act} {ι C} {b : Bool} (h : wantedV f ops o = some b) (ht : TR ι C f a.tmps) : Region.wanted o (yielded ops a.tmps) = b := by
  unfold wantedV at h
  unfold Region.wanted
  split at h
  · rename_i hg; simp only [Option.some.injEq] at h; rw [hg]; exact h
  · rename_i j want hg
    rw [hg]
    simp only [yielded]
    split at h
    · rename_i d hd
      rw [hd]
      simp only [Option.bind_some]
      have hv := ht d
      by_cases hlt : d < a.tmps.size
      · have e : a.tmps.getD d undef = a.tmps[d] := by rw [Array.getD_eq_getD_getElem?, Array.getElem?_eq_getElem hlt]; rfl
        rw [e] at hv
        rw [Array.getElem?_eq_getElem hlt]
        generalize a.tmps[d] = q at hv
        split at h
        · rename_i b' hb
          simp only [Option.some.injEq] at h; subst h
          rw [hb] at hv; cases hv
          cases b' <;> cases want <;> rfl
        · cases h
        · rename_i hnb hnbad
          simp only [Option.some.injEq] at h; subst h
          generalize f d = fd at hv hnb hnbad
          cases hv <;> first | rfl | exact absurd rfl (hnb _) | exact absurd rfl hnbad
      · have e : a.tmps.getD d undef = undef := by rw [Array.getD_eq_getD_getElem?, Array.getElem?_eq_none (Nat.not_lt.1 hlt)]; rfl
        rw [e] at hv
        rw [Array.getElem?_eq_none (Nat.not_lt.1 hlt)]
        split at h
        · rename_i b' hb; rw [hb] at hv; cases hv
        · cases h
        · simp only [Option.some.injEq] at h; subst h; rfl
    · rename_i hd
      simp only [Option.some.injEq] at h; subst h
      rw [hd]; rfl

/-- what 'opsN' goes through from one operation on -/
def OpsTrace (E : Env) (n : Nat) (cur : FuncId) (all : Array Oper) (s : Id) (l : List Oper) (k : Nat) (f : Tm) (M : Mem) (f' : Tm) (M' : Mem) : Prop :=
    ∃ (F : Nat → Tm) (MM : Nat → Mem) (vv : Nat → V), F k = f ∧ MM k = M ∧ F (k + l.length) = f' ∧ MM (k + l.length) = M' ∧
      ∀ j o, l[j]? = some o → ∃ b, wantedV (F (k + j)) all o = some b ∧ (b = true → ∃ m, m < n ∧ opN E m cur o ((k + j) :: s) (F (k + j)) (MM (k + j)) = some (vv (k + j), MM (k + j + 1))) ∧
        (b = false → vv (k + j) = undefV ∧ MM (k + j + 1) = MM (k + j)) ∧ F (k + j + 1) = put (F (k + j)) o.dst (vv (k + j))

/-- what the first ones of some operations come to is what all of them go through -/
theorem opsN_take {E : Env} {cur : FuncId} {all : Array Oper} {s : Id} {n : Nat} {l : List Oper} {k : Nat} {f : Tm} {M : Mem} {F : Nat → Tm} {MM : Nat → Mem} {vv : Nat → V} (h0 : F k = f) (h1 : MM k = M)
    (ht : ∀ j o, l[j]? = some o → ∃ b, wantedV (F (k + j)) all o = some b ∧ (b = true → ∃ m, m < n ∧ opN E m cur o ((k + j) :: s) (F (k + j)) (MM (k + j)) = some (vv (k + j), MM (k + j + 1))) ∧
        (b = false → vv (k + j) = undefV ∧ MM (k + j + 1) = MM (k + j)) ∧ F (k + j + 1) = put (F (k + j)) o.dst (vv (k + j)))
    {i : Nat} (hi : i ≤ l.length) {n' : Nat} {f' : Tm} {M' : Mem} (h : opsN E n' cur all (l.take i) k s f M = some (f', M')) (det : ∀ m m' o t g N r r', opN E m cur o t g N = some r → opN E m' cur o t g N = some r' → r = r') : f' = F (k + i) ∧ M' = MM (k + i) := by
  induction l generalizing k f M i n' with
  | nil =>
    simp only [List.length_nil, Nat.le_zero] at hi
    subst hi
    cases n' with
    | zero => simp [opsN] at h
    | succ n' => simp only [List.take_nil, opsN, Option.some.injEq, Prod.mk.injEq] at h; obtain ⟨rfl, rfl⟩ := h; exact ⟨h0.symm, h1.symm⟩
  | cons o l ih =>
    cases i with
    | zero =>
      cases n' with
      | zero => simp [opsN] at h
      | succ n' => simp only [List.take_zero, opsN, Option.some.injEq, Prod.mk.injEq] at h; obtain ⟨rfl, rfl⟩ := h; exact ⟨h0.symm, h1.symm⟩
    | succ i =>
      cases n' with
      | zero => simp [opsN] at h
      | succ n' =>
        obtain ⟨b, g1, g2, g3, g4⟩ := ht 0 o (by simp)
        simp only [Nat.add_zero] at g1 g2 g3 g4
        have hl : ∀ j o', l[j]? = some o' → _ := fun j o' ho' => ht (j + 1) o' (by simpa using ho')
        simp only [List.take_succ_cons, opsN] at h
        rw [h0] at g1 g2 g4
        rw [h1] at g2 g3
        rw [g1] at h
        cases b with
        | false =>
          obtain ⟨e1, e2⟩ := g3 rfl
          simp only at h
          rw [e1] at g4
          have := ih (k := k + 1) g4 e2 (fun j o' ho' => by have := hl j o' ho'; rwa [show k + (j + 1) = k + 1 + j by omega] at this) (by simpa using hi) h
          rwa [show k + 1 + i = k + (i + 1) by omega] at this
        | true =>
          obtain ⟨m, hm, hop⟩ := g2 rfl
          simp only at h
          split at h
          · rename_i v M1 hop'
            have := det _ _ _ _ _ _ _ _ hop hop'
            simp only [Prod.mk.injEq] at this
            obtain ⟨e1, e2⟩ := this
            rw [e1] at g4
            have := ih (k := k + 1) g4 e2 (fun j o' ho' => by have := hl j o' ho'; rwa [show k + (j + 1) = k + 1 + j by omega] at this) (by simpa using hi) h
            rwa [show k + 1 + i = k + (i + 1) by omega] at this
          · cases h

/-! the trace of a region -/
structure Trace (E : Env) (n : Nat) (cur : FuncId) (ops : Array Oper) (s : Id) (F : Nat → Tm) (MM : Nat → Mem) (vv : Nat → V) : Prop where
  step : ∀ k o, ops[k]? = some o → ∃ b, wantedV (F k) ops o = some b ∧ (b = true → ∃ m, m < n ∧ opN E m cur o (k :: s) (F k) (MM k) = some (vv k, MM (k + 1))) ∧
    (b = false → vv k = undefV ∧ MM (k + 1) = MM k) ∧ F (k + 1) = put (F k) o.dst (vv k)

theorem opsN_trace {E : Env} {cur : FuncId} {all : Array Oper} {s : Id} : ∀ (n : Nat) (l : List Oper) (k : Nat) (f : Tm) (M : Mem) (f' : Tm) (M' : Mem), opsN E n cur all l k s f M = some (f', M') → OpsTrace E n cur all s l k f M f' M'
  | 0, l, k, f, M, f', M', h => by simp [opsN] at h
  | n + 1, [], k, f, M, f', M', h => by
    simp only [opsN, Option.some.injEq, Prod.mk.injEq] at h
    obtain ⟨rfl, rfl⟩ := h
    exact ⟨fun _ => f, fun _ => M, fun _ => undefV, rfl, rfl, rfl, rfl, fun j o h => by simp at h⟩
  | n + 1, o :: l, k, f, M, f', M', h => by
    simp only [opsN] at h
    have build : ∀ (v : V) (M1 : Mem) (b : Bool), wantedV f all o = some b → (b = true → ∃ m, m < n + 1 ∧ opN E m cur o (k :: s) f M = some (v, M1)) → (b = false → v = undefV ∧ M1 = M) →
        opsN E n cur all l (k + 1) s (put f o.dst v) M1 = some (f', M') → OpsTrace E (n + 1) cur all s (o :: l) k f M f' M' := by
      intro v M1 b hb h1 h2 h3
      obtain ⟨F, MM, vv, e1, e2, e3, e4, hs⟩ := opsN_trace n l (k + 1) _ M1 f' M' h3
      refine ⟨fun j => if j = k then f else F j, fun j => if j = k then M else MM j, fun j => if j = k then v else vv j, by simp, by simp, ?_, ?_, ?_⟩
      · simp only [List.length_cons]
        rw [if_neg (by omega), show k + (l.length + 1) = k + 1 + l.length by omega]; exact e3
      · simp only [List.length_cons]
        rw [if_neg (by omega), show k + (l.length + 1) = k + 1 + l.length by omega]; exact e4
      · intro j o' ho'
        cases j with
        | zero =>
          simp only [List.getElem?_cons_zero, Option.some.injEq] at ho'
          subst ho'
          refine ⟨b, by simpa using hb, ?_, ?_, ?_⟩
          · intro hbt; obtain ⟨m, hm, hop⟩ := h1 hbt; exact ⟨m, hm, by simp [e2, hop]⟩
          · intro hbf; obtain ⟨p, q⟩ := h2 hbf; simp [p, q, e2]
          · simp [e1]
        | succ j =>
          simp only [List.getElem?_cons_succ] at ho'
          obtain ⟨b', g1, g2, g3, g4⟩ := hs j o' ho'
          have ek : k + (j + 1) = k + 1 + j := by omega
          refine ⟨b', ?_, ?_, ?_, ?_⟩
          · simp only [ek]; rw [if_neg (by omega)]; exact g1
          · intro hbt
            obtain ⟨m, hm, hop⟩ := g2 hbt
            refine ⟨m, by omega, ?_⟩
            simp only [ek]
            rw [if_neg (by omega), if_neg (by omega), if_neg (by omega), if_neg (by omega)]; exact hop
          · intro hbf
            obtain ⟨p, q⟩ := g3 hbf
            simp only [ek]
            rw [if_neg (by omega), if_neg (by omega), if_neg (by omega)]; exact ⟨p, q⟩
          · simp only [ek]
            rw [if_neg (by omega), if_neg (by omega), if_neg (by omega)]; exact g4
    split at h
    · rename_i hb
      exact build undefV M false hb (by simp) (fun _ => ⟨rfl, rfl⟩) h
    · rename_i hb
      split at h
      · rename_i v M1 hop
        exact build v M1 true hb (fun _ => ⟨n, by omega, hop⟩) (by simp) h
      · cases h
    · cases h
end Go.Ab

/- A region whose order is drawn comes to what its text's order comes to: the theorem. Conditions: none. -/
namespace Go.Ab

structure AllMono (E : Env) (n : Nat) : Prop where
  fn : ∀ frz f args s M r, fnN E n frz f args s M = some r → fnN E (n + 1) frz f args s M = some r
  code : ∀ cur c s f M r, codeN E n cur c s f M = some r → codeN E (n + 1) cur c s f M = some r
  loop : ∀ cur a j s f M r, loopN E n cur a j s f M = some r → loopN E (n + 1) cur a j s f M = some r
  ops : ∀ cur all l k s f M r, opsN E n cur all l k s f M = some r → opsN E (n + 1) cur all l k s f M = some r
  op : ∀ cur o s f M r, opN E n cur o s f M = some r → opN E (n + 1) cur o s f M = some r

theorem allMono (E : Env) : ∀ n, AllMono E n
  | 0 => ⟨fun _ _ _ _ _ _ h => by simp [fnN] at h, fun _ _ _ _ _ _ h => by simp [codeN] at h, fun _ _ _ _ _ _ _ h => by simp [loopN] at h, fun _ _ _ _ _ _ _ _ h => by simp [opsN] at h, fun _ _ _ _ _ _ h => by simp [opN] at h⟩
  | n + 1 => by
    have ih := allMono E n
    refine ⟨?_, ?_, ?_, ?_, ?_⟩
    · intro frz f args s M r h
      rw [fnN] at h ⊢
      split at h
      · split at h
        · exact h
        · split at h
          · cases h
          · rename_i hne hc
            rw [ih.code _ _ _ _ _ _ hc]
            split
            · rename_i heq; simp only [Option.some.injEq, Prod.mk.injEq] at heq; exact absurd heq.1 (hne _)
            · rename_i heq; simp only [Option.some.injEq, Prod.mk.injEq] at heq; obtain ⟨_, rfl, rfl⟩ := heq; exact h
            · rename_i heq; cases heq
          · cases h
      · cases h
    · intro cur c s f M r h
      cases c <;> (rw [codeN] at h ⊢; try dsimp only at h ⊢) <;> try (first | exact h | (cases h; done))
      case seq a b =>
        split at h
        · exact h
        split at h
        · rename_i h1
          rw [ih.code _ _ _ _ _ _ h1]
          exact ih.code _ _ _ _ _ _ h
        · rename_i hne
          rw [ih.code _ _ _ _ _ _ h]
          split
          · rename_i heq; simp only [Option.some.injEq] at heq; subst heq; exact absurd h (hne _ _)
          · rfl
      case cond x a b =>
        split at h
        · split at h
          · rename_i hq ht; simp only [ht, if_true]; exact ih.code _ _ _ _ _ _ h
          · rename_i hq ht; simp only [ht, if_false, Bool.false_eq_true]; exact ih.code _ _ _ _ _ _ h
        · cases h
      case block id a =>
        split at h
        · rename_i h1
          rw [ih.code _ _ _ _ _ _ h1]
          exact h
        · rename_i hne
          rw [ih.code _ _ _ _ _ _ h]
          split
          · rename_i heq; simp only [Option.some.injEq] at heq; subst heq; exact absurd h (hne _ _ _)
          · rfl
      case loop a => exact ih.loop _ _ _ _ _ _ _ h
      case region id ops d =>
        split at h
        · rename_i h1
          rw [ih.ops _ _ _ _ _ _ _ _ h1]
          dsimp only
          split at h
          · rename_i hc
            rw [if_pos (fun p hp => by obtain ⟨fl, Ml, fw, Mw, g1, g2, g3⟩ := hc p hp; exact ⟨fl, Ml, fw, Mw, ih.ops _ _ _ _ _ _ _ _ g1, ih.ops _ _ _ _ _ _ _ _ g2, g3⟩)]
            exact h
          · cases h
        · cases h
    · intro cur a j s f M r h
      rw [loopN] at h ⊢
      split at h
      · rename_i h1
        rw [ih.code _ _ _ _ _ _ h1]
        exact ih.loop _ _ _ _ _ _ _ h
      · rename_i hne
        rw [ih.code _ _ _ _ _ _ h]
        split
        · rename_i heq; simp only [Option.some.injEq] at heq; subst heq; exact absurd h (hne _ _)
        · rfl
    · intro cur all l k s f M r h
      cases l with
      | nil => rw [opsN] at h ⊢; exact h
      | cons o l =>
        rw [opsN] at h ⊢
        split at h
        · rename_i hw; exact ih.ops _ _ _ _ _ _ _ _ h
        · split at h
          · rename_i hop
            rw [ih.op _ _ _ _ _ _ hop]
            exact ih.ops _ _ _ _ _ _ _ _ h
          · cases h
        · cases h
    · intro cur o s f M r h
      rw [opN] at h ⊢
      split at h
      · split at h
        · split at h
          · exact ih.fn _ _ _ _ _ _ h
          · cases h
        · exact h
      · exact h

theorem opN_det {E : Env} {cur : FuncId} (m m' : Nat) (o : Oper) (t : Id) (g : Tm) (N : Mem) (r r' : V × Mem) (h : opN E m cur o t g N = some r) (h' : opN E m' cur o t g N = some r') : r = r' := by
  have up : ∀ (k d : Nat) (x : V × Mem), opN E k cur o t g N = some x → opN E (k + d) cur o t g N = some x := by
    intro k d x hx
    induction d with
    | zero => exact hx
    | succ d ih => exact (allMono E (k + d)).op _ _ _ _ _ _ ih
  have h1 := up m m' r h
  have h2 := up m' m r' h'
  rw [Nat.add_comm m' m] at h2
  rw [h1] at h2
  exact Option.some.inj h2

def OpSound (E : Env) (m : Nat) : Prop :=
  ∀ cur o s f M v M', opN E m cur o s f M = some (v, M') → ∀ (ι : Inj) (C : Fro) (a : Act) (w : World) (K : Act → World → Prop) (Q : Exit → Act → World → Prop), TR ι C f a.tmps → MR ι C M w → Fresh s ι → FreshM s M →
    (∀ c w' ι' C', VR ι' C' v c → MR ι' C' M' w' → Stp s ι C M w ι' C' M' w' → K (a.put o.dst c) w') → o.wp E.P a w K Q

/-! counting what has come up -/
def cntN (L : Array Bool) : Nat → Nat
  | 0 => 0
  | k + 1 => cntN L k + (if L.getD k false = true then 0 else 1)

theorem getD_set_self {L : Array Bool} {i : Nat} (h : i < L.size) : (L.setIfInBounds i true).getD i false = true := by simp [h]

theorem cntN_set {L : Array Bool} {i : Nat} (hs : i < L.size) (hi : L.getD i false = false) : ∀ n, (i < n → cntN (L.setIfInBounds i true) n + 1 = cntN L n) ∧ (n ≤ i → cntN (L.setIfInBounds i true) n = cntN L n)
  | 0 => ⟨fun h => by omega, fun _ => rfl⟩
  | n + 1 => by
    obtain ⟨h1, h2⟩ := cntN_set hs hi n
    refine ⟨fun h => ?_, fun h => ?_⟩
    · simp only [cntN]
      by_cases hin : i = n
      · subst hin
        rw [h2 (Nat.le_refl _), getD_set_self hs, hi]; simp
      · rw [getD_set_ne false hin]
        have := h1 (by omega)
        omega
    · simp only [cntN]
      rw [getD_set_ne false (by omega), h2 (by omega)]

theorem cntN_zero {L : Array Bool} : ∀ n, cntN L n = 0 → ∀ k, k < n → L.getD k false = true
  | 0, _, k, hk => by omega
  | n + 1, h, k, hk => by
    simp only [cntN] at h
    by_cases hkn : k = n
    · subst hkn
      by_cases hq : L.getD k false = true
      · exact hq
      · rw [if_neg hq] at h; omega
    · exact cntN_zero n (by omega) k (by omega)

theorem cntN_replicate (m : Nat) : ∀ n, n ≤ m → cntN (Array.replicate m false) n = n
  | 0, _ => rfl
  | n + 1, h => by
    simp only [cntN, cntN_replicate m n (by omega)]
    simp [show n < m by omega]

section region
variable {E : Env} {n : Nat} {cur : FuncId} {lo : List (Nat × Nat)} {ops : Array Oper} {s : Id} {F : Nat → Tm} {MM : Nat → Mem} {vv : Nat → V}

def cl (E : Env) (ops : Array Oper) (k : Nat) : Nat := match ops[k]? with | some o => cls E o.op | none => 0

theorem cls_le (E : Env) (o : Op) : cls E o ≤ 4 := by
  unfold cls
  split <;> first | omega | (split <;> omega)

theorem nextW (E : Env) (ops : Array Oper) : ∀ d k, k + d = ops.size → ∃ pos, k ≤ pos ∧ pos ≤ ops.size ∧ (∀ j, k ≤ j → j < pos → cl E ops j ≠ 4) ∧ (pos < ops.size → cl E ops pos = 4)
  | 0, k, h => ⟨k, Nat.le_refl _, by omega, fun j h1 h2 => by omega, fun h2 => by omega⟩
  | d + 1, k, h => by
    by_cases hk : cl E ops k = 4
    · exact ⟨k, Nat.le_refl _, by omega, fun j h1 h2 => by omega, fun _ => hk⟩
    · obtain ⟨pos, h1, h2, h3, h4⟩ := nextW E ops d (k + 1) (by omega)
      refine ⟨pos, by omega, h2, fun j hj1 hj2 => ?_, h4⟩
      by_cases hjk : j = k
      · subst hjk; exact hk
      · exact h3 j (by omega) hj2

/-- the table of temporaries when some operations have come up -/
def TSn (f0 : Tm) (ops : Array Oper) (vv : Nat → V) (L : Array Bool) : Nat → Tm
  | 0 => f0
  | k + 1 => match ops[k]? with
    | some o => if L.getD k false = true then put (TSn f0 ops vv L k) o.dst (vv k) else TSn f0 ops vv L k
    | none => TSn f0 ops vv L k

def LClosed (ops : Array Oper) (L : Array Bool) : Prop := ∀ j k, Bf ops j k → L.getD k false = true → L.getD j false = true

theorem bf_listed {L : Array Bool} (hL : LClosed ops L) {i : Nat} {o : Oper} (ho : ops[i]? = some o) (hr : ∀ e ∈ o.after, Region.binds .any e = true → L.getD e.on false = true) {k : Nat} (hb : Bf ops k i) : L.getD k false = true := by
  have : ∀ k i', Bf ops k i' → i' = i → L.getD k false = true := by
    intro k i' hb
    induction hb with
    | edge a b o' e h he hbi hi => intro hbi'; subst hbi'; rw [ho] at h; cases h; rw [← hi]; exact hr e he hbi
    | trans a b c h1 h2 ih1 ih2 => intro hc; exact hL a b h1 (ih2 hc)
  exact this k i hb rfl

theorem put_other (f : Tm) (d : Option Tmp) (v : V) (t : Nat) (h : d ≠ some t) : put f d v t = f t := by
  cases d with
  | none => rfl
  | some k => simp only [put, upd]; rw [if_neg]; rintro rfl; exact h rfl
theorem put_self (f : Tm) (t : Nat) (v : V) : put f (some t) v t = v := by simp [put, upd]

theorem clash_parts {i j : Nat} {x y : Oper} (h : noClash E ops lo i j x y = true) : x.apart ops y = true ∧ (cls E x.op = 4 → (cls E y.op = 1 ∨ 3 ≤ cls E y.op) → isLoad y.op = true ∧ (j, i) ∈ lo) ∧ (cls E y.op = 4 → 1 ≤ cls E x.op → isLoad x.op = true ∧ (i, j) ∈ lo) := by
  unfold noClash at h
  simp only [Bool.and_eq_true, Bool.not_eq_true', Bool.and_eq_false_iff, beq_eq_false_iff_ne, decide_eq_false_iff_not, Bool.or_eq_false_iff, Bool.not_eq_false', List.contains_iff_mem] at h
  refine ⟨h.1.1, fun h1 h2 => ?_, fun h1 h2 => ?_⟩
  · rcases h.1.2 with (h3 | h3) | h3
    · exact absurd h1 h3
    · omega
    · simpa using h3
  · rcases h.2 with (h3 | h3) | h3
    · exact absurd h1 h3
    · exact absurd h2 h3
    · simpa using h3

theorem isLoad_cls {o : Op} (h : isLoad o = true) : cls E o = 1 := by
  cases o <;> simp [isLoad] at h <;> try rfl
  rename_i c
  obtain ⟨ce, as, ts⟩ := c
  cases ce with
  | builtin b => cases b <;> simp at h; rfl
  | _ => simp at h

variable (hr : RegOk E lo ops) (T : Trace E n cur ops s F MM vv)
include hr T

theorem ts_agree {L : Array Bool} (hL : LClosed ops L) {i : Nat} {o : Oper} (ho : ops[i]? = some o) (hi : L.getD i false = false) (hready : ∀ e ∈ o.after, Region.binds .any e = true → L.getD e.on false = true) :
    AgreeAt ops o (TSn (F 0) ops vv L ops.size) (F i) := by
  intro t ht
  have hsz : i < ops.size := (Array.getElem?_eq_some_iff.1 ho).1
  have low : ∀ k, k ≤ i → TSn (F 0) ops vv L k t = F k t := by
    intro k
    induction k with
    | zero => intro _; rfl
    | succ k ih =>
      intro hk
      have hk' : k < ops.size := by omega
      obtain ⟨x, hx⟩ : ∃ x, ops[k]? = some x := ⟨_, Array.getElem?_eq_getElem hk'⟩
      obtain ⟨b, _, _, _, hF⟩ := T.step k x hx
      simp only [TSn, hx]
      rw [hF]
      by_cases hd : x.dst = some t
      · have hlk : L.getD k false = true := by
          rcases hr.pair k i x o (by omega) hx ho with hb | hc
          · exact bf_listed hL ho hready hb
          · exact absurd ht ((Oper.apart_spec (clash_parts hc).1).1 t hd)
        rw [if_pos hlk, hd, put_self, put_self]
      · rw [put_other _ _ _ _ hd]
        split
        · rw [put_other _ _ _ _ hd]; exact ih (by omega)
        · exact ih (by omega)
  have high : ∀ d, i + d ≤ ops.size → TSn (F 0) ops vv L (i + d) t = F i t := by
    intro d
    induction d with
    | zero => intro _; exact low i (Nat.le_refl _)
    | succ d ih =>
      intro hk
      obtain ⟨x, hx⟩ : ∃ x, ops[i + d]? = some x := ⟨_, Array.getElem?_eq_getElem (by omega)⟩
      show TSn (F 0) ops vv L (i + d + 1) t = _
      simp only [TSn, hx]
      split
      · rename_i hl
        by_cases hd : x.dst = some t
        · exfalso
          by_cases hd0 : d = 0
          · subst hd0; simp only [Nat.add_zero] at hl; rw [hi] at hl; cases hl
          · rcases hr.pair i (i + d) o x (by omega) ho hx with hb | hc
            · have := hL i (i + d) hb hl; rw [hi] at this; cases this
            · exact (Oper.apart_spec (clash_parts hc).1).2.2 t hd ht
        · rw [put_other _ _ _ _ hd]; exact ih (by omega)
      · exact ih (by omega)
  have := high (ops.size - i) (by omega)
  rwa [show i + (ops.size - i) = ops.size by omega] at this

theorem ts_next {L : Array Bool} (hsz : L.size = ops.size) (hL : LClosed ops L) {i : Nat} {o : Oper} (ho : ops[i]? = some o) (hi : L.getD i false = false) (t : Nat) :
    TSn (F 0) ops vv (L.setIfInBounds i true) ops.size t = put (TSn (F 0) ops vv L ops.size) o.dst (vv i) t := by
  have _ := T
  have his : i < ops.size := (Array.getElem?_eq_some_iff.1 ho).1
  have low : ∀ k, k ≤ i → TSn (F 0) ops vv (L.setIfInBounds i true) k t = TSn (F 0) ops vv L k t := by
    intro k
    induction k with
    | zero => intro _; rfl
    | succ k ih =>
      intro hk
      obtain ⟨x, hx⟩ : ∃ x, ops[k]? = some x := ⟨_, Array.getElem?_eq_getElem (by omega)⟩
      simp only [TSn, hx]
      rw [getD_set_ne false (show i ≠ k by omega)]
      split
      · by_cases hd : x.dst = some t
        · rw [hd, put_self, put_self]
        · rw [put_other _ _ _ _ hd, put_other _ _ _ _ hd]; exact ih (by omega)
      · exact ih (by omega)
  by_cases hd : o.dst = some t
  · rw [hd, put_self]
    have high : ∀ d, i + 1 + d ≤ ops.size → TSn (F 0) ops vv (L.setIfInBounds i true) (i + 1 + d) t = vv i := by
      intro d
      induction d with
      | zero =>
        intro _
        simp only [Nat.add_zero, TSn, ho]
        rw [getD_set_self (by omega), if_pos rfl, hd, put_self]
      | succ d ih =>
        intro hk
        obtain ⟨x, hx⟩ : ∃ x, ops[i + 1 + d]? = some x := ⟨_, Array.getElem?_eq_getElem (by omega)⟩
        show TSn (F 0) ops vv (L.setIfInBounds i true) (i + 1 + d + 1) t = _
        simp only [TSn, hx]
        rw [getD_set_ne false (show i ≠ i + 1 + d by omega)]
        split
        · rename_i hl
          by_cases hdx : x.dst = some t
          · exfalso
            rcases hr.pair i (i + 1 + d) o x (by omega) ho hx with hb | hc
            · have := hL i _ hb hl; rw [hi] at this; cases this
            · exact (Oper.apart_spec (clash_parts hc).1).2.1 t hd hdx
          · rw [put_other _ _ _ _ hdx]; exact ih (by omega)
        · exact ih (by omega)
    have := high (ops.size - (i + 1)) (by omega)
    rwa [show i + 1 + (ops.size - (i + 1)) = ops.size by omega] at this
  · rw [put_other _ _ _ _ hd]
    have high : ∀ d, i + d ≤ ops.size → TSn (F 0) ops vv (L.setIfInBounds i true) (i + d) t = TSn (F 0) ops vv L (i + d) t := by
      intro d
      induction d with
      | zero => intro _; exact low i (Nat.le_refl _)
      | succ d ih =>
        intro hk
        obtain ⟨x, hx⟩ : ∃ x, ops[i + d]? = some x := ⟨_, Array.getElem?_eq_getElem (by omega)⟩
        show TSn (F 0) ops vv (L.setIfInBounds i true) (i + d + 1) t = TSn (F 0) ops vv L (i + d + 1) t
        simp only [TSn, hx]
        by_cases hd0 : d = 0
        · subst hd0
          simp only [Nat.add_zero] at hx ⊢
          rw [ho] at hx; cases hx
          rw [getD_set_self (by omega), if_pos rfl, hi, put_other _ _ _ _ hd]
          simp only [Bool.false_eq_true, if_false]
          exact ih (by omega)
        · rw [getD_set_ne false (show i ≠ i + d by omega)]
          split
          · by_cases hdx : x.dst = some t
            · rw [hdx, put_self, put_self]
            · rw [put_other _ _ _ _ hdx, put_other _ _ _ _ hdx]; exact ih (by omega)
          · exact ih (by omega)
    have := high (ops.size - i) (by omega)
    rwa [show i + (ops.size - i) = ops.size by omega] at this

omit hr in
theorem ts_all {L : Array Bool} (h : ∀ k, k < ops.size → L.getD k false = true) : ∀ k, k ≤ ops.size → TSn (F 0) ops vv L k = F k
  | 0, _ => rfl
  | k + 1, hk => by
    obtain ⟨x, hx⟩ : ∃ x, ops[k]? = some x := ⟨_, Array.getElem?_eq_getElem (by omega)⟩
    obtain ⟨b, _, _, _, hF⟩ := T.step k x hx
    simp only [TSn, hx, h k (by omega), if_true]
    rw [ts_all h k (by omega), hF]

/-! the memory along the text -/
variable (hp : PrimOk E)
include hp

omit hr in
theorem mm_ids : ∀ k, k ≤ ops.size → ∀ id, MM k id ≠ none → MM 0 id ≠ none ∨ ∃ j, j < k ∧ (j :: s) <:+ id
  | 0, _, id, h => .inl h
  | k + 1, hk, id, h => by
    obtain ⟨x, hx⟩ : ∃ x, ops[k]? = some x := ⟨_, Array.getElem?_eq_getElem (by omega)⟩
    obtain ⟨b, _, h1, h2, _⟩ := T.step k x hx
    have hh : MM k id ≠ none ∨ (k :: s) <:+ id := by
      cases b with
      | true => obtain ⟨m, _, hop⟩ := h1 rfl; exact (allIds E hp m).op _ _ _ _ _ _ _ hop id h
      | false => obtain ⟨_, e⟩ := h2 rfl; rw [e] at h; exact .inl h
    rcases hh with hh | hh
    · rcases mm_ids k (by omega) id hh with g | ⟨j, hj, g⟩
      · exact .inl g
      · exact .inr ⟨j, by omega, g⟩
    · exact .inr ⟨k, by omega, hh⟩

omit hr in
theorem mm_fresh (hf : FreshM s (MM 0)) {i k : Nat} (hi : i ≤ ops.size) (hk : i ≤ k) : FreshM (k :: s) (MM i) := by
  intro id hid
  cases hq : MM i id with
  | none => rfl
  | some o =>
    rcases mm_ids T hp i hi id (by rw [hq]; simp) with g | ⟨j, hj, g⟩
    · exact absurd (hf id (suffix_tail hid)) g
    · have := suffix_cons_eq g hid; omega

omit hr in
theorem mm_ids' {i : Nat} : ∀ d, i + d ≤ ops.size → ∀ id, MM (i + d) id ≠ none → MM i id ≠ none ∨ ∃ j, i ≤ j ∧ j < i + d ∧ (j :: s) <:+ id
  | 0, _, id, h => .inl h
  | d + 1, hk, id, h => by
    obtain ⟨x, hx⟩ : ∃ x, ops[i + d]? = some x := ⟨_, Array.getElem?_eq_getElem (by omega)⟩
    obtain ⟨b, _, h1, h2, _⟩ := T.step (i + d) x hx
    have hh : MM (i + d) id ≠ none ∨ ((i + d) :: s) <:+ id := by
      cases b with
      | true => obtain ⟨m, _, hop⟩ := h1 rfl; exact (allIds E hp m).op _ _ _ _ _ _ _ hop id h
      | false => obtain ⟨_, e⟩ := h2 rfl; rw [show i + (d + 1) = i + d + 1 by omega, e] at h; exact .inl h
    rcases hh with hh | hh
    · rcases mm_ids' d (by omega) id hh with g | ⟨j, hj, hj2, g⟩
      · exact .inl g
      · exact .inr ⟨j, hj, by omega, g⟩
    · exact .inr ⟨i + d, by omega, by omega, hh⟩

omit hr in
theorem mm_one (hf : FreshM s (MM 0)) {i : Nat} (hi : i < ops.size) (hno : cl E ops i ≠ 4) : (∀ id, MM (i + 1) id = MM i id ∨ (2 ≤ cl E ops i ∧ (i :: s) <:+ id ∧ (cl E ops i = 2 → id = i :: s))) ∧ (∀ id ob, MM i id = some ob → MM (i + 1) id = some ob) := by
  obtain ⟨x, hx⟩ : ∃ x, ops[i]? = some x := ⟨_, Array.getElem?_eq_getElem hi⟩
  obtain ⟨b, _, h1, h2, _⟩ := T.step i x hx
  have hcx : cl E ops i = cls E x.op := by simp only [cl, hx]
  have h4 := cls_le E x.op
  cases b with
  | true =>
    obtain ⟨m, _, hop⟩ := h1 rfl
    have := cls3 hp (by omega) hop
    rw [hcx]
    exact ⟨this.1, this.2 (mm_fresh T hp hf (by omega) (Nat.le_refl _))⟩
  | false => obtain ⟨_, e⟩ := h2 rfl; rw [e]; exact ⟨fun _ => .inl rfl, fun _ _ e => e⟩

omit hr in
theorem mm_mono (hf : FreshM s (MM 0)) {i pos : Nat} (hip : i ≤ pos) (hpos : pos ≤ ops.size) (hno : ∀ j, i ≤ j → j < pos → cl E ops j ≠ 4) : ∀ id ob, MM i id = some ob → MM pos id = some ob := by
  obtain ⟨d, rfl⟩ : ∃ d, pos = i + d := ⟨pos - i, by omega⟩
  clear hip
  induction d with
  | zero => exact fun _ _ h => h
  | succ d ih => exact fun id ob h => (mm_one T hp hf (show i + d < ops.size by omega) (hno _ (by omega) (by omega))).2 id ob (ih (by omega) (fun j h1 h2 => hno j h1 (by omega)) id ob h)

omit hr in
/-- without a writing operation the memory grows alone -/
theorem mm_seg (hf : FreshM s (MM 0)) {i pos : Nat} (hip : i ≤ pos) (hpos : pos ≤ ops.size) (hno : ∀ j, i ≤ j → j < pos → cl E ops j ≠ 4) : ∀ id, MM pos id = MM i id ∨ ∃ k, i ≤ k ∧ k < pos ∧ (k :: s) <:+ id ∧ 2 ≤ cl E ops k ∧ (cl E ops k = 2 → id = k :: s) ∧ MM pos id = MM (k + 1) id := by
  obtain ⟨d, rfl⟩ : ∃ d, pos = i + d := ⟨pos - i, by omega⟩
  clear hip
  induction d with
  | zero => intro id; exact .inl rfl
  | succ d ih =>
    intro id
    have h1 := mm_one T hp hf (show i + d < ops.size by omega) (hno (i + d) (by omega) (by omega))
    rcases h1.1 id with hh | ⟨hh1, hh2, hh3⟩
    · rcases ih (by omega) (fun j h1 h2 => hno j h1 (by omega)) id with g | ⟨k, g1, g2, g3, g4, g5, g6⟩
      · exact .inl (by rw [← g, ← hh]; rfl)
      · exact .inr ⟨k, g1, by omega, g3, g4, g5, by rw [← g6, ← hh]; rfl⟩
    · exact .inr ⟨i + d, by omega, by omega, hh2, hh1, hh3, rfl⟩
end region

/-- two views of a world joined: what an operation leaves in the part that it looked at, and the rest -/
theorem MR.join {t : Id} {ι ι' : Inj} {C C' : Fro} {A M M' : Mem} {w w' : World} (hA : MR ι C A w) (sub : ∀ id o, M id = some o → A id = some o) (g2 : MR ι' C' M' w') (g3 : Stp t ι C M w ι' C' M' w') {B : Mem}
    (hB : ∀ id ob, ι' id ≠ none → B id = some ob → M' id = some ob ∨ (M id = none ∧ A id = some ob ∧ ¬ t <:+ id)) : MR ι' C' B w' := by
  refine ⟨g2.bound, g2.inj, fun id pl ob h1 h2 => ?_, g2.fro⟩
  rcases hB id ob (by rw [h1]; simp) h2 with h | ⟨h, h', hn⟩
  · exact g2.obj id pl ob h1 h
  · cases hq : ι id with
    | none =>
      exact absurd (g3.new id hq (by rw [h1]; simp)) hn
    | some pl0 =>
      have := g3.keep id pl0 hq h
      rw [h1] at this; cases this
      obtain ⟨b, off, r, rfl, hO⟩ := hA.obj id pl ob hq h'
      refine ⟨b, off, r, rfl, hO.mono (g3.frame b (hA.bound _ _ _ _ hq) (fun j o' r' hj => ?_)) g3.dom g3.fro⟩
      have := hA.inj j id b o' r' off r hj hq
      subst this; exact h

/-- what is known of a run over a smaller part -/
theorem Stp.part {t s : Id} {ι ι' : Inj} {C C' : Fro} {A M M' : Mem} {w w' : World} (hts : s <:+ t) (g3 : Stp t ι C M w ι' C' M' w') (sub : ∀ id o, M id = some o → A id = some o) : Stp s ι C A w ι' C' A w' := by
  refine ⟨g3.dom, fun id q1 q2 => hts.trans (g3.new id q1 q2), g3.fro, fun id b o' r q => ?_, fun _ _ h => h, fun id pl q1 q2 => ?_, fun b hb hf => ?_, g3.size, g3.os, g3.tape, g3.output⟩
  · rcases g3.blk id b o' r q with e | e | ⟨j, o2, r2, e1, e2⟩
    · exact .inl e
    · exact .inr (.inl e)
    · refine .inr (.inr ⟨j, o2, r2, e1, ?_⟩)
      cases hq : M j with
      | none => exact absurd hq e2
      | some ob => rw [sub j ob hq]; simp
  · refine g3.keep id pl q1 ?_
    cases hq : M id with
    | none => rfl
    | some ob => rw [sub id ob hq] at q2; cases q2
  · refine g3.frame b hb (fun id o' r q => ?_)
    cases hq : M id with
    | none => rfl
    | some ob => have := hf id o' r q; rw [sub id ob hq] at this; cases this
end Go.Ab

/- A region whose order is drawn comes to what its text's order comes to: the theorem, closed. Conditions: none. -/
namespace Go.Ab

/-- the memory ahead of the next writing operation, and what has been made behind it already -/
def AM (MM : Nat → Mem) (s : Id) (L : Array Bool) (pos : Nat) : Mem
  | [] => MM pos []
  | k :: t => if t = s ∧ pos ≤ k ∧ L.getD k false = true then MM (k + 1) (k :: t) else MM pos (k :: t)

theorem AM_cases (MM : Nat → Mem) (s : Id) (L : Array Bool) (pos : Nat) (id : Id) : (AM MM s L pos id = MM pos id ∧ ∀ k, id = k :: s → pos ≤ k → L.getD k false = false) ∨ ∃ k, id = k :: s ∧ pos ≤ k ∧ L.getD k false = true ∧ AM MM s L pos id = MM (k + 1) id := by
  cases id with
  | nil => exact .inl ⟨rfl, fun k h => by cases h⟩
  | cons k t =>
    simp only [AM]
    split
    · rename_i h; obtain ⟨rfl, h2, h3⟩ := h; exact .inr ⟨k, rfl, h2, h3, rfl⟩
    · rename_i h
      refine .inl ⟨rfl, fun k' e hp => ?_⟩
      cases e
      cases hq : L.getD k false with
      | false => rfl
      | true => exact absurd ⟨rfl, hp, hq⟩ h

/-- what stands when some operations have come up -/
structure Inv (E : Env) (ops : Array Oper) (s : Id) (F : Nat → Tm) (MM : Nat → Mem) (vv : Nat → V) (ι0 : Inj) (C0 : Fro) (w0 : World) (sz : Nat) (L : Array Bool) (a : Act) (w : World) (ι : Inj) (C : Fro) (pos : Nat) : Prop where
  size : L.size = ops.size
  closed : LClosed ops L
  le : pos ≤ ops.size
  done : ∀ k, k < pos → cl E ops k = 4 → L.getD k false = true
  at_ : pos < ops.size → cl E ops pos = 4 ∧ L.getD pos false = false
  tms : TR ι C (TSn (F 0) ops vv L ops.size) a.tmps
  mem : MR ι C (AM MM s L pos) w
  stp : Stp s ι0 C0 (MM 0) w0 ι C (MM pos) w
  dom : ∀ id, ι id ≠ none → ι0 id ≠ none ∨ ∃ k, L.getD k false = true ∧ (k :: s) <:+ id
  dfr : a.defers = []
  tsz : a.tmps.size = sz

/-- what the loads that may come behind a writing operation, or ahead of one, read -/
def LooseOk (P : Program) (lo : List (Nat × Nat)) (ops : Array Oper) (F : Nat → Tm) (MM : Nat → Mem) : Prop :=
  ∀ p ∈ lo, p.1 < ops.size → p.2 < ops.size → loadAt P ops p.1 (F p.1) (MM p.1) = loadAt P ops p.1 (F p.1) (MM (upTo p))

theorem loadAt_op {E : Env} {ops : Array Oper} {i : Nat} {o : Oper} (ho : ops[i]? = some o) (hl : isLoad o.op = true) {m : Nat} {cur : FuncId} {id : Id} {f : Tm} {M M' : Mem} {v : V} (h : opN E m cur o id f M = some (v, M')) :
    loadAt E.P ops i f M = some v ∧ ∀ M2, loadAt E.P ops i f M2 = some v → opN E m cur o id f M2 = some (v, M2) := by
  cases m with
  | zero => simp [opN] at h
  | succ m =>
    obtain ⟨dst, op, typ, pos, aft, grd⟩ := o
    simp only at hl
    have hv : (∀ N, opN E (m + 1) cur ⟨dst, op, typ, pos, aft, grd⟩ id f N = opV E.P op (ev f) id N) ∧ ∃ X : Mem → Option V, ∀ N j, opV E.P op (ev f) j N = (X N).map fun v => (v, N) := by
      cases op <;> simp [isLoad] at hl
      case load t x => exact ⟨fun N => by simp only [opN], _, fun N j => rfl⟩
      case lookup => exact ⟨fun N => by simp only [opN], _, fun N j => rfl⟩
      case call c =>
        obtain ⟨ce, as, ts⟩ := c
        cases ce with
        | builtin b =>
          cases b <;> simp at hl
          refine ⟨fun N => by simp only [opN], fun N => (opV E.P (.call ⟨.builtin .len, as, ts⟩) (ev f) [] N).map (·.1), fun N j => ?_⟩
          simp only [opV, builtinV]
          split <;> first | (simp [Option.map_map, Function.comp_def]; done) | (rename_i hq _ _; cases hq; done) | (rename_i hq _; cases hq; done) | (rename_i hq; cases hq; done) | (simp at *; done)
        | _ => simp at hl
    obtain ⟨h1, X, hX⟩ := hv
    rw [h1, hX] at h
    simp only [Option.map_eq_some_iff, Prod.mk.injEq] at h
    obtain ⟨a, h2, rfl, rfl⟩ := h
    simp only [loadAt, ho, hX, h2, Option.map_some]
    refine ⟨trivial, fun M2 h3 => ?_⟩
    rw [h1, hX]
    cases hq : X M2 with
    | none => rw [hq] at h3; simp at h3
    | some b => rw [hq] at h3; simp only [Option.map_some, Option.some.injEq] at h3; rw [h3]; rfl

section
variable {E : Env} {n : Nat} {cur : FuncId} {lo : List (Nat × Nat)} {ops : Array Oper} {s : Id} {F : Nat → Tm} {MM : Nat → Mem} {vv : Nat → V} {ι0 : Inj} {C0 : Fro} {w0 : World} {sz : Nat}

theorem id_prop {p : Prop} (h : p) : p := h

/-- an operation that calls no function, run -/
theorem opV_wp {P : Program} {o : Oper} {f : Tm} {id : Id} {M M' : Mem} {v : V} {ι C} {a : Act} {w : World} {K : Act → World → Prop} {Q : Exit → Act → World → Prop} (h : opV P o.op (ev f) id M = some (v, M')) (ht : TR ι C f a.tmps) (hm : MR ι C M w) (hi : ι id = none)
    (hK : ∀ c w' ι' C', VR ι' C' v c → MR ι' C' M' w' → Stp id ι C M w ι' C' M' w' → K (a.put o.dst c) w') : o.wp P a w K Q := by
  obtain ⟨c, w', ι', hrun, g1, g2, g3⟩ := opV_sound o (fun x => ht.ev x) h hm hi
  unfold Oper.wp
  rcases hrun with hrun | ⟨hrun, rfl⟩
  · rw [hrun]; exact hK c w' ι' C g1 g2 g3
  · rw [hrun]; exact hK undef w' ι' C g1 g2 g3

theorem closed_next {L : Array Bool} (hL : LClosed ops L) (hsz : L.size = ops.size) {i : Nat} {o : Oper} (ho : ops[i]? = some o) (hready : ∀ e ∈ o.after, Region.binds .any e = true → L.getD e.on false = true) (his : i < ops.size) :
    LClosed ops (L.setIfInBounds i true) := by
  intro j k hb hk
  by_cases hki : k = i
  · subst hki; exact getD_set_true (bf_listed hL ho hready hb)
  · rw [getD_set_ne false (Ne.symm hki)] at hk
    exact getD_set_true (hL j k hb hk)

variable (hr : RegOk E lo ops) (T : Trace E n cur ops s F MM vv) (hp : PrimOk E) (hF : Fresh s ι0) (hFM : FreshM s (MM 0)) (hlo : LooseOk E.P lo ops F MM)
include hr T hp hF hFM hlo

/-- where an operation that does not write may be run -/
theorem place {L : Array Bool} {a : Act} {w : World} {ι C pos} (I : Inv E ops s F MM vv ι0 C0 w0 sz L a w ι C pos) {i : Nat} {o : Oper} (ho : ops[i]? = some o) (hi : L.getD i false = false)
    (hready : ∀ e ∈ o.after, Region.binds .any e = true → L.getD e.on false = true) (h4 : cls E o.op ≠ 4) {m : Nat} (hop : opN E m cur o (i :: s) (F i) (MM i) = some (vv i, MM (i + 1))) :
    ∃ Me Me', opN E m cur o (i :: s) (F i) Me = some (vv i, Me') ∧ (∀ id ob, Me id = some ob → MM pos id = some ob) ∧ FreshM (i :: s) Me ∧ (∀ id, Me' id = Me id ∨ (i :: s) <:+ id) ∧
      ∀ id ob, (i :: s) <:+ id → AM MM s (L.setIfInBounds i true) pos id = some ob → Me' id = some ob := by
  have _ := hF
  have his : i < ops.size := (Array.getElem?_eq_some_iff.1 ho).1
  have hcl : cl E ops i = cls E o.op := by simp [cl, ho]
  have hle := cls_le E o.op
  have hpl := I.le
  have hself : (L.setIfInBounds i true).getD i false = true := getD_set_self (by rw [I.size]; exact his)
  have hipos : i ≠ pos := by
    rintro rfl
    exact h4 (by rw [← hcl]; exact (I.at_ his).1)
  have hc3 := cls3 hp (show cls E o.op ≤ 3 by omega) hop
  -- what lies under the place of the operation
  have under : ∀ id, (i :: s) <:+ id → ∀ k, i + 1 ≤ k → k ≤ ops.size → MM k id ≠ none → MM (i + 1) id ≠ none := by
    intro id hid k h1 h2 h3
    have hk : i + 1 + (k - (i + 1)) = k := by omega
    rcases mm_ids' (i := i + 1) T hp (k - (i + 1)) (by omega) id (by rw [hk]; exact h3) with g | ⟨j, g1, g2, g3⟩
    · exact g
    · have := suffix_cons_eq g3 hid; omega
  have fr : ∀ k, k ≤ i → FreshM (i :: s) (MM k) := fun k hk => mm_fresh T hp hFM (by omega) hk
  -- the text's own place
  have own : (∀ j, i ≤ j → j < pos → cl E ops j ≠ 4) → i < pos → ∃ Me Me', opN E m cur o (i :: s) (F i) Me = some (vv i, Me') ∧ (∀ id ob, Me id = some ob → MM pos id = some ob) ∧ FreshM (i :: s) Me ∧ (∀ id, Me' id = Me id ∨ (i :: s) <:+ id) ∧
      ∀ id ob, (i :: s) <:+ id → AM MM s (L.setIfInBounds i true) pos id = some ob → Me' id = some ob := by
    intro hno hlt
    refine ⟨MM i, MM (i + 1), hop, mm_mono T hp hFM (Nat.le_of_lt hlt) I.le hno, fr i (Nat.le_refl _), fun id => (hc3.1 id).imp id_prop (fun h => h.2.1), fun id ob hid h => ?_⟩
    rcases AM_cases MM s (L.setIfInBounds i true) pos id with ⟨e, _⟩ | ⟨k, e1, e2, e3, e4⟩
    · rw [e] at h
      rcases mm_seg T hp hFM (show i + 1 ≤ pos by omega) I.le (fun j h1 h2 => hno j (by omega) h2) id with g | ⟨k, g1, g2, g3, _⟩
      · rw [← g]; exact h
      · have := suffix_cons_eq g3 hid; omega
    · rw [e1] at hid
      have := suffix_cons_eq hid (List.suffix_refl _); omega
  -- what reads alone, run somewhere else
  have reads : ∀ Me, opN E m cur o (i :: s) (F i) Me = some (vv i, Me) → (∀ id ob, Me id = some ob → MM pos id = some ob) → cls E o.op = 1 ∨ cls E o.op = 0 → ∃ Me Me', opN E m cur o (i :: s) (F i) Me = some (vv i, Me') ∧ (∀ id ob, Me id = some ob → MM pos id = some ob) ∧ FreshM (i :: s) Me ∧ (∀ id, Me' id = Me id ∨ (i :: s) <:+ id) ∧
      ∀ id ob, (i :: s) <:+ id → AM MM s (L.setIfInBounds i true) pos id = some ob → Me' id = some ob := by
    intro Me hMe hsub hc
    have e1 : MM (i + 1) = MM i := by
      rcases hc with hc | hc
      · exact cls1 hp hc hop
      · exact (cls0 hc hop).1
    have nopos : ∀ id, (i :: s) <:+ id → MM pos id = none := by
      intro id hid
      cases hq : MM pos id with
      | none => rfl
      | some ob =>
        exfalso
        rcases Nat.lt_or_ge i pos with hlt | hge
        · have := under id hid pos (by omega) I.le (by rw [hq]; simp)
          rw [e1, fr i (Nat.le_refl _) id hid] at this; exact this rfl
        · rw [fr pos hge id hid] at hq; cases hq
    refine ⟨Me, Me, hMe, hsub, fun id hid => ?_, fun _ => .inl rfl, fun id ob hid h => ?_⟩
    · cases hq : Me id with
      | none => rfl
      | some ob => have := hsub id ob hq; rw [nopos id hid] at this; cases this
    · exfalso
      rcases AM_cases MM s (L.setIfInBounds i true) pos id with ⟨e, _⟩ | ⟨k, e1', e2, e3, e4⟩
      · rw [e, nopos id hid] at h; cases h
      · rw [e1'] at hid
        have hk := suffix_cons_eq hid (List.suffix_refl _)
        subst hk
        rw [e4, e1, e1', fr i (Nat.le_refl _) _ (List.suffix_refl _)] at h; cases h
  -- an operation ahead of the next writing one, and one that writes between them
  have ahead : ∀ j, i < j → j < pos → cl E ops j = 4 → 1 ≤ cls E o.op → isLoad o.op = true ∧ (i, j) ∈ lo := by
    intro j h1 h2 h3 h5
    have hjl := I.done j h2 h3
    have hjs : j < ops.size := by omega
    obtain ⟨y, hy⟩ : ∃ y, ops[j]? = some y := ⟨_, Array.getElem?_eq_getElem hjs⟩
    simp only [cl, hy] at h3
    rcases hr.pair i j o y h1 ho hy with hb | hc'
    · have := I.closed i j hb hjl; rw [hi] at this; cases this
    · exact (clash_parts hc').2.2 h3 h5
  have later : pos < i → (cls E o.op = 1 ∨ 3 ≤ cls E o.op) → isLoad o.op = true ∧ (i, pos) ∈ lo := by
    intro h1 h2
    have hps : pos < ops.size := by omega
    obtain ⟨hw2, hnl⟩ := I.at_ hps
    obtain ⟨x, hx⟩ : ∃ x, ops[pos]? = some x := ⟨_, Array.getElem?_eq_getElem hps⟩
    simp only [cl, hx] at hw2
    rcases hr.pair pos i x o (by omega) hx ho with hb | hc'
    · have := bf_listed I.closed ho hready hb; rw [hnl] at this; cases this
    · exact (clash_parts hc').2.1 hw2 h2
  by_cases h0 : cls E o.op = 0
  · exact reads (MM pos) ((cls0 h0 hop).2 _) (fun _ _ h => h) (.inr h0)
  by_cases h1 : cls E o.op = 1
  · rcases Nat.lt_or_ge i pos with hlt | hge
    · -- the last writing operation ahead of the next one
      have hlast : (∀ j, i ≤ j → j < pos → cl E ops j ≠ 4) ∨ ∃ j, i < j ∧ j < pos ∧ cl E ops j = 4 ∧ ∀ k, j + 1 ≤ k → k < pos → cl E ops k ≠ 4 := by
        have : ∀ d, i + d ≤ pos → (∀ j, i ≤ j → j < i + d → cl E ops j ≠ 4) ∨ ∃ j, i < j ∧ j < i + d ∧ cl E ops j = 4 ∧ ∀ k, j + 1 ≤ k → k < i + d → cl E ops k ≠ 4 := by
          intro d
          induction d with
          | zero => intro _; exact .inl (fun j h1 h2 => by omega)
          | succ d ih =>
            intro hd
            by_cases hc : cl E ops (i + d) = 4
            · have : i ≠ i + d := by
                intro e
                rw [← e, hcl] at hc
                exact h4 hc
              exact .inr ⟨i + d, by omega, by omega, hc, fun k h1 h2 => by omega⟩
            · rcases ih (by omega) with g | ⟨j, g1, g2, g3, g4⟩
              · refine .inl (fun j h1 h2 => ?_)
                by_cases hj : j = i + d
                · subst hj; exact hc
                · exact g j h1 (by omega)
              · refine .inr ⟨j, g1, by omega, g3, fun k h1 h2 => ?_⟩
                by_cases hk : k = i + d
                · subst hk; exact hc
                · exact g4 k h1 (by omega)
        have := this (pos - i) (by omega)
        rwa [show i + (pos - i) = pos by omega] at this
      rcases hlast with hno | ⟨j, g1, g2, g3, g4⟩
      · exact own hno hlt
      · obtain ⟨hl, hm⟩ := ahead j g1 g2 g3 (by omega)
        obtain ⟨q1, q2⟩ := loadAt_op ho hl hop
        have q3 := hlo (i, j) hm his (by omega)
        simp only [upTo, if_pos g1] at q3
        rw [q1] at q3
        exact reads (MM (j + 1)) (q2 _ q3.symm) (mm_mono T hp hFM (by omega) I.le g4) (.inl h1)
    · obtain ⟨hl, hm⟩ := later (by omega) (.inl h1)
      obtain ⟨q1, q2⟩ := loadAt_op ho hl hop
      have q3 := hlo (i, pos) hm his (by omega)
      simp only [upTo, if_neg (show ¬ i < pos by omega)] at q3
      rw [q1] at q3
      exact reads (MM pos) (q2 _ q3.symm) (fun _ _ h => h) (.inl h1)
  have hnoload : isLoad o.op = false := by
    cases hq : isLoad o.op with
    | false => rfl
    | true => exact absurd (isLoad_cls hq) h1
  rcases Nat.lt_or_ge i pos with hlt | hge
  · refine own (fun j h5 h6 h7 => ?_) hlt
    by_cases hji : j = i
    · subst hji; exact h4 (by rw [← hcl]; exact h7)
    · have := (ahead j (by omega) h6 h7 (by omega)).1; rw [hnoload] at this; cases this
  · by_cases h2 : cls E o.op = 2
    · obtain ⟨ob, hob⟩ := cls2 h2 hop
      have e1 : MM (i + 1) = (MM i).set (i :: s) ob := by
        have := hob (MM i); rw [hop] at this; simp only [Option.some.injEq, Prod.mk.injEq, true_and] at this; exact this
      refine ⟨MM pos, (MM pos).set (i :: s) ob, hob _, fun _ _ h => h, fr pos (by omega), fun id => ?_, fun id ob' hid h => ?_⟩
      · by_cases hq : id = i :: s
        · subst hq; exact .inr (List.suffix_refl _)
        · exact .inl (by unfold Mem.set; rw [if_neg hq])
      · rcases AM_cases MM s (L.setIfInBounds i true) pos id with ⟨e, _⟩ | ⟨k, e1', e2, e3, e4⟩
        · rw [e, fr pos (by omega) id hid] at h; cases h
        · rw [e1'] at hid
          have hk := suffix_cons_eq hid (List.suffix_refl _)
          subst hk
          rw [e4, e1] at h
          subst e1'
          simpa [Mem.set] using h
    · have := (later (by omega) (.inr (by omega))).1; rw [hnoload] at this; cases this

/-- one operation comes up -/
theorem inv_step (hop : ∀ m, m < n → OpSound E m) (hdst : ∀ (k : Nat) (o : Oper), ops[k]? = some o → ∀ t, o.dst = some t → t < sz) {L : Array Bool} {a : Act} {w : World} {ι C pos} (I : Inv E ops s F MM vv ι0 C0 w0 sz L a w ι C pos) {i : Nat} {o : Oper} (ho : ops[i]? = some o)
    (hi : L.getD i false = false) (hready : ∀ e ∈ o.after, Region.binds .any e = true → L.getD e.on false = true) (K : Act → World → Prop) (Q : Exit → Act → World → Prop)
    (hK : ∀ a' w' ι' C' pos', Inv E ops s F MM vv ι0 C0 w0 sz (L.setIfInBounds i true) a' w' ι' C' pos' → K a' w') : wpOp E.P ops Q i K a w := by
  have his : i < ops.size := (Array.getElem?_eq_some_iff.1 ho).1
  obtain ⟨b, hwant, hb1, hb2, hFi⟩ := T.step i o ho
  have hag := ts_agree hr T I.closed ho hi hready
  rw [← hag.wanted] at hwant
  have hwv := wanted_sound hwant I.tms
  have hcl : cl E ops i = cls E o.op := by simp [cl, ho]
  have hclosed' := closed_next I.closed I.size ho hready his
  have hsize' : (L.setIfInBounds i true).size = ops.size := by simpa using I.size
  have hcover : ∀ k, L.getD k false = true → (L.setIfInBounds i true).getD k false = true := fun k h => getD_set_true h
  have hself : (L.setIfInBounds i true).getD i false = true := getD_set_self (by rw [I.size]; exact his)
  have hpl := I.le
  have hwr : cls E o.op = 4 → i = pos := by
    intro hc
    by_cases hne : i = pos
    · exact hne
    · exfalso
      rcases Nat.lt_or_ge i pos with hlt | hge
      · have := I.done i hlt (by rw [hcl]; exact hc)
        rw [hi] at this; cases this
      · have hps : pos < ops.size := by omega
        obtain ⟨hw2, hnl⟩ := I.at_ hps
        obtain ⟨x, hx⟩ : ∃ x, ops[pos]? = some x := ⟨_, Array.getElem?_eq_getElem hps⟩
        simp only [cl, hx] at hw2
        rcases hr.pair pos i x o (by omega) hx ho with hb | hc'
        · have := bf_listed I.closed ho hready hb; rw [hnl] at this; cases this
        · have := isLoad_cls (E := E) ((clash_parts hc').2.1 hw2 (by omega)).1; omega
  have htms' : ∀ {ι' C' c}, TR ι' C' (TSn (F 0) ops vv L ops.size) a.tmps → VR ι' C' (vv i) c → TR ι' C' (TSn (F 0) ops vv (L.setIfInBounds i true) ops.size) (a.put o.dst c).tmps := by
    intro ι' C' c h1 h2 t
    rw [ts_next hr T I.size I.closed ho hi t]
    exact (h1.put h2 (fun t ht => by rw [I.tsz]; exact hdst i o ho t ht)) t
  have hnot : ∀ k, k ≠ i → (L.setIfInBounds i true).getD k false = L.getD k false := fun k h => getD_set_ne false (Ne.symm h)
  have hdfr : ∀ c, (a.put o.dst c).defers = [] := fun c => by rw [← I.dfr]; cases o.dst <;> rfl
  have hpsz : ∀ c, (a.put o.dst c).tmps.size = sz := fun c => by rw [Act.put_size]; exact I.tsz
  have hdom0 : ∀ id, ι id ≠ none → ι0 id ≠ none ∨ ∃ k, (L.setIfInBounds i true).getD k false = true ∧ (k :: s) <:+ id := fun id h =>
    (I.dom id h).imp id_prop (fun ⟨k, g1, g2⟩ => ⟨k, hcover k g1, g2⟩)
  have hfresh : Fresh (i :: s) ι := by
    intro id hid
    cases hq : ι id with
    | none => rfl
    | some pl =>
      exfalso
      rcases I.dom id (by rw [hq]; simp) with g | ⟨k, g1, g2⟩
      · exact g (hF id (suffix_tail hid))
      · have := suffix_cons_eq g2 hid; subst this; rw [hi] at g1; cases g1
  have hdomN : ∀ {M1 w1 ι' C' M1' w1'}, Stp (i :: s) ι C M1 w1 ι' C' M1' w1' → ∀ id, ι' id ≠ none → ι0 id ≠ none ∨ ∃ k, (L.setIfInBounds i true).getD k false = true ∧ (k :: s) <:+ id := by
    intro M1 w1 ι' C' M1' w1' hst id h
    by_cases hq : ι id = none
    · exact .inr ⟨i, hself, hst.new id hq h⟩
    · exact hdom0 id hq
  -- under the operation's place nothing lies yet
  have hmmfr : ∀ k, k ≤ i → FreshM (i :: s) (MM k) := fun k hk => mm_fresh T hp hFM (by omega) hk
  -- the place of the next writing operation stays
  have stay : ∀ (ι' : Inj) (C' : Fro) (a' : Act) (w' : World), i ≠ pos → TR ι' C' (TSn (F 0) ops vv (L.setIfInBounds i true) ops.size) a'.tmps → MR ι' C' (AM MM s (L.setIfInBounds i true) pos) w' → Stp s ι0 C0 (MM 0) w0 ι' C' (MM pos) w' →
      (∀ id, ι' id ≠ none → ι0 id ≠ none ∨ ∃ k, (L.setIfInBounds i true).getD k false = true ∧ (k :: s) <:+ id) → a'.defers = [] → a'.tmps.size = sz → K a' w' := by
    intro ι' C' a' w' hne h1 h2 h3 h4 h5 h6
    exact hK a' w' ι' C' pos ⟨hsize', hclosed', I.le, fun k hk hk2 => hcover k (I.done k hk hk2), fun hps => ⟨(I.at_ hps).1, by rw [hnot pos (Ne.symm hne)]; exact (I.at_ hps).2⟩, h1, h2, h3, h4, h5, h6⟩
  -- the part of the memory that the writing operation sees
  have subW : ∀ id ob, MM pos id = some ob → AM MM s L pos id = some ob := by
    intro id ob h
    rcases AM_cases MM s L pos id with ⟨e, _⟩ | ⟨k, e1, e2, e3, e4⟩
    · rw [e]; exact h
    · exfalso
      have := mm_fresh T hp hFM I.le e2 id (by rw [e1]; exact List.suffix_refl _)
      rw [this] at h; cases h
  -- what has come up behind the next writing operation made objects at most
  have behind : i = pos → ∀ k, i < k → k < ops.size → L.getD k false = true → cl E ops k ≤ 2 := by
    intro hip k hk hks hkl
    obtain ⟨x, hx⟩ : ∃ x, ops[k]? = some x := ⟨_, Array.getElem?_eq_getElem hks⟩
    have hcx : cl E ops k = cls E x.op := by simp [cl, hx]
    have := cls_le E x.op
    rcases Nat.lt_or_ge 2 (cl E ops k) with h | h
    · exfalso
      have hi4 : cls E o.op = 4 := by rw [← hcl, hip]; exact (I.at_ (by omega)).1
      rcases hr.pair i k o x hk ho hx with hb | hc'
      · have := I.closed i k hb hkl; rw [hi] at this; cases this
      · have := isLoad_cls (E := E) ((clash_parts hc').2.1 hi4 (by omega)).1; omega
    · exact h
  -- behind a step at the writing operation
  have goOn : ∀ (ι' : Inj) (C' : Fro) (a' : Act) (w' : World), i = pos → TR ι' C' (TSn (F 0) ops vv (L.setIfInBounds i true) ops.size) a'.tmps → MR ι' C' (MM (i + 1)) w' → (∀ id, MM (i + 1) id ≠ none → MM i id ≠ none ∨ (i :: s) <:+ id) → Stp (i :: s) ι C (MM i) w ι' C' (MM (i + 1)) w' →
      (∀ id, ι' id ≠ none → ι0 id ≠ none ∨ ∃ k, (L.setIfInBounds i true).getD k false = true ∧ (k :: s) <:+ id) → a'.defers = [] → a'.tmps.size = sz → K a' w' := by
    intro ι' C' a' w' hip h1 h2 hids h3' h4 h5 h6
    subst hip
    have h3 := I.stp.trans (h3'.weaken (List.suffix_cons i s))
    obtain ⟨pos', q1, q2, q3, q4⟩ := nextW E ops (ops.size - (i + 1)) (i + 1) (by omega)
    have inner : ∀ k, i + 1 ≤ k → k < pos' → ∀ id, (k :: s) <:+ id → ι' id ≠ none → L.getD k false = true := by
      intro k g1 g2 id hid hne
      rcases h4 id hne with g | ⟨j, g3, g4⟩
      · exact absurd (hF _ (suffix_tail hid)) g
      · have e := suffix_cons_eq g4 hid
        subst e
        rwa [hnot j (by omega)] at g3
    have hB : ∀ id ob, ι' id ≠ none → AM MM s (L.setIfInBounds i true) pos' id = some ob → MM (i + 1) id = some ob ∨ (MM i id = none ∧ AM MM s L i id = some ob ∧ ¬ (i :: s) <:+ id) := by
      intro id ob hne h
      have atk : ∀ k, i + 1 ≤ k → L.getD k false = true → id = k :: s → MM (k + 1) id = some ob → MM i id = none ∧ AM MM s L i id = some ob ∧ ¬ (i :: s) <:+ id := by
        intro k g1 g2 g3 g4
        refine ⟨mm_fresh T hp hFM (by omega) (show i ≤ k by omega) id (by rw [g3]; exact List.suffix_refl _), ?_, fun hid => by rw [g3] at hid; have := suffix_cons_eq hid (List.suffix_refl _); omega⟩
        rcases AM_cases MM s L i id with ⟨e, e'⟩ | ⟨k', e1, e2, e3, e4⟩
        · have := e' k g3 (by omega); rw [g2] at this; cases this
        · rw [g3] at e1; cases e1; rw [e4]; exact g4
      rcases AM_cases MM s (L.setIfInBounds i true) pos' id with ⟨e, _⟩ | ⟨k, e1, e2, e3, e4⟩
      · rw [e] at h
        rcases mm_seg T hp hFM q1 q2 q3 id with g | ⟨k, g1, g2, g3, g4, g5, g6⟩
        · exact .inl (by rw [← g]; exact h)
        · have hkl := inner k g1 g2 id g3 hne
          have hk2 := behind rfl k (by omega) (by omega) hkl
          exact .inr (atk k g1 hkl (g5 (by omega)) (by rw [← g6]; exact h))
      · rw [e4] at h
        exact .inr (atk k (by omega) (by rwa [hnot k (by omega)] at e3) e1 h)
    have hmem : MR ι' C' (AM MM s (L.setIfInBounds i true) pos') w' := I.mem.join subW h2 h3' hB
    have hstp : Stp s ι0 C0 (MM 0) w0 ι' C' (MM pos') w' := { h3 with nores := (fun id g1 g2 => by
      rcases mm_seg T hp hFM q1 q2 q3 id with g | ⟨k, g3, g4, g5, _⟩
      · rw [g]; exact h3.nores id g1 g2
      · exact absurd (hF _ (suffix_tail g5)) g1) }
    refine hK a' w' ι' C' pos' ⟨hsize', hclosed', q2, fun k hk hk2 => ?_, fun hps => ⟨q4 hps, ?_⟩, h1, hmem, hstp, h4, h5, h6⟩
    · by_cases hki : k = i
      · subst hki; exact hself
      · by_cases hlt : k < i
        · exact hcover k (I.done k hlt hk2)
        · exact absurd hk2 (q3 k (by omega) hk)
    · rw [hnot pos' (by omega)]
      cases hq : L.getD pos' false with
      | false => rfl
      | true => have := behind rfl pos' (by omega) hps hq; rw [q4 hps] at this; omega
  unfold wpOp
  rw [ho]
  simp only [hwv]
  cases b with
  | false =>
    obtain ⟨e1, e2⟩ := hb2 rfl
    simp only [Bool.false_eq_true, if_false]
    have hT := htms' I.tms (c := undef) (by rw [e1]; exact undef_rel)
    by_cases hne : i = pos
    · refine goOn ι C _ w hne hT ?_ (fun id h => by rw [e2] at h; exact .inl h) ?_ hdom0 (hdfr _) (hpsz _)
      · rw [e2]; subst hne; exact I.mem.less (fun id ob _ h => subW id ob h)
      · rw [e2]; exact .refl _ _ _ _ _
    · refine stay ι C _ w hne hT (I.mem.less (fun id ob g1 h => ?_)) I.stp hdom0 (hdfr _) (hpsz _)
      rcases AM_cases MM s (L.setIfInBounds i true) pos id with ⟨e, e'⟩ | ⟨k, q1, q2, q3, q4⟩
      · rcases AM_cases MM s L pos id with ⟨f, _⟩ | ⟨k, q1, q2, q3, q4⟩
        · rw [f, ← e]; exact h
        · have := e' k q1 q2; rw [hcover k q3] at this; cases this
      · by_cases hki : k = i
        · subst hki; exact absurd (hfresh id (by rw [q1]; exact List.suffix_refl _)) g1
        · rcases AM_cases MM s L pos id with ⟨f, f'⟩ | ⟨k', p1, p2, p3, p4⟩
          · have := f' k q1 q2; rw [hnot k hki] at q3; rw [q3] at this; cases this
          · rw [q1] at p1; cases p1; rw [p4, ← q4]; exact h
  | true =>
    obtain ⟨m, hm, hopn⟩ := hb1 rfl
    have hopn' : ∀ M1, opN E m cur o (i :: s) (F i) M1 = opN E m cur o (i :: s) (TSn (F 0) ops vv L ops.size) M1 := fun M1 => (opN_congr hag.ev).symm
    simp only [if_true]
    refine .inl ?_
    by_cases h2 : cls E o.op = 4
    · have hip := hwr h2
      have hids := (allIds E hp m).op _ _ _ _ _ _ _ hopn
      rw [hopn'] at hopn
      have hmi : MR ι C (MM i) w := by subst hip; exact I.mem.less (fun id ob _ h => subW id ob h)
      refine hop m hm cur o (i :: s) _ _ _ _ hopn ι C a w K Q I.tms hmi hfresh (hmmfr i (Nat.le_refl _)) (fun c w' ι' C' g1 g2 g3 => ?_)
      exact goOn ι' C' _ w' hip (htms' (I.tms.mono g3.dom g3.fro) g1) g2 hids g3 (hdomN g3) (hdfr c) (hpsz c)
    · have hne : i ≠ pos := by
        rintro rfl
        exact h2 (by rw [← hcl]; exact (I.at_ his).1)
      obtain ⟨Me, Me', p1, p2, p3, p4, p5⟩ := place hr T hp hF hFM hlo I ho hi hready h2 hopn
      rw [hopn'] at p1
      have hsub : ∀ id ob, Me id = some ob → AM MM s L pos id = some ob := fun id ob h => subW id ob (p2 id ob h)
      refine hop m hm cur o (i :: s) _ _ _ _ p1 ι C a w K Q I.tms (I.mem.less fun id ob _ h => hsub id ob h) hfresh p3 (fun c w' ι' C' g1 g2 g3 => ?_)
      have hB : ∀ id ob, ι' id ≠ none → AM MM s (L.setIfInBounds i true) pos id = some ob → Me' id = some ob ∨ (Me id = none ∧ AM MM s L pos id = some ob ∧ ¬ (i :: s) <:+ id) := by
        intro id ob hne' h
        by_cases hid : (i :: s) <:+ id
        · exact .inl (p5 id ob hid h)
        · have hA : AM MM s L pos id = some ob := by
            rcases AM_cases MM s (L.setIfInBounds i true) pos id with ⟨e, e'⟩ | ⟨k, q1, q2, q3, q4⟩
            · rcases AM_cases MM s L pos id with ⟨f, _⟩ | ⟨k, q1, q2, q3, q4⟩
              · rw [f, ← e]; exact h
              · have := e' k q1 q2; rw [hcover k q3] at this; cases this
            · have hki : k ≠ i := by rintro rfl; exact hid (by rw [q1]; exact List.suffix_refl _)
              rcases AM_cases MM s L pos id with ⟨f, f'⟩ | ⟨k', r1, r2, r3, r4⟩
              · have := f' k q1 q2; rw [hnot k hki] at q3; rw [q3] at this; cases this
              · rw [q1] at r1; cases r1; rw [r4, ← q4]; exact h
          cases hq : Me id with
          | none => exact .inr ⟨rfl, hA, hid⟩
          | some ob' =>
            have := hsub id ob' hq
            rw [hA] at this; cases this
            refine .inl ?_
            rcases p4 id with g | g
            · rw [g]; exact hq
            · exact absurd g hid
      have hmp := I.mem.join hsub g2 g3 hB
      exact stay ι' C' _ w' hne (htms' (I.tms.mono g3.dom g3.fro) g1) hmp (I.stp.trans (g3.part (List.suffix_cons i s) p2)) (hdomN g3) (hdfr c) (hpsz c)
end
end Go.Ab

/- The evaluator is sound: what it says of a call, the model's call does. Conditions: the static look at the code, and the soundness of what stands in for functions. -/
namespace Go.Ab

theorem region_any {E : Env} {n : Nat} {cur : FuncId} {lo : List (Nat × Nat)} {ops : Array Oper} {s : Id} {F : Nat → Tm} {MM : Nat → Mem} {vv : Nat → V} {ι0 : Inj} {C0 : Fro} {w0 : World} {sz : Nat} (hr : RegOk E lo ops) (T : Trace E n cur ops s F MM vv) (hp : PrimOk E)
    (hF : Fresh s ι0) (hFM : FreshM s (MM 0)) (hlo : LooseOk E.P lo ops F MM) (hop : ∀ m, m < n → OpSound E m) (hdst : ∀ (k : Nat) (o : Oper), ops[k]? = some o → ∀ t, o.dst = some t → t < sz) (Q : Exit → Act → World → Prop)
    (hQ : ∀ a' w' ι' C', TR ι' C' (F ops.size) a'.tmps → MR ι' C' (MM ops.size) w' → Stp s ι0 C0 (MM 0) w0 ι' C' (MM ops.size) w' → a'.defers = [] → a'.tmps.size = sz → Q .normal a' w') :
    ∀ (fuel : Nat) (L : Array Bool) (a : Act) (w : World) (ι : Inj) (C : Fro) (pos : Nat), Inv E ops s F MM vv ι0 C0 w0 sz L a w ι C pos → cntN L ops.size = fuel → wpAny E.P .any ops Q fuel L a w := by
  have fin : ∀ (L : Array Bool) (a : Act) (w : World) (ι : Inj) (C : Fro) (pos : Nat), Inv E ops s F MM vv ι0 C0 w0 sz L a w ι C pos → (∀ k, k < ops.size → L.getD k false = true) → Q .normal a w := by
    intro L a w ι C pos I hall
    have hpos : pos = ops.size := by
      have := I.le
      by_cases h : pos < ops.size
      · have h1 := (I.at_ h).2; rw [hall pos h] at h1; cases h1
      · omega
    subst hpos
    have ht := I.tms
    rw [ts_all T hall ops.size (Nat.le_refl _)] at ht
    refine hQ a w ι C ht (I.mem.less fun id ob _ h => ?_) I.stp I.dfr I.tsz
    rcases AM_cases MM s L ops.size id with ⟨e, _⟩ | ⟨k, e1, e2, e3, e4⟩
    · rw [e]; exact h
    · have : L.getD k false = false := by
        rw [Array.getD_eq_getD_getElem?, Array.getElem?_eq_none (by rw [I.size]; exact e2)]; rfl
      rw [e3] at this; cases this
  have done : ∀ (L : Array Bool), L.size = ops.size → Region.ready .any ops L = [] → ∀ k, k < ops.size → L.getD k false = true := by
    intro L hsz hrd k
    induction k using Nat.strongRecOn with
    | _ k ih =>
      intro hk
      cases hq : L.getD k false with
      | true => rfl
      | false =>
        exfalso
        have hmem : k ∈ Region.ready .any ops L := by
          rw [mem_ready]
          refine ⟨?_, ops[k], Array.getElem?_eq_getElem hk, fun e he hb => ?_⟩
          · simp [show k < L.size by omega] at hq ⊢; exact hq
          · have := hr.back k _ e (Array.getElem?_eq_getElem hk) he hb
            exact ih e.on this (by omega)
        rw [hrd] at hmem; cases hmem
  intro fuel
  induction fuel with
  | zero =>
    intro L a w ι C pos I hc
    have hall := cntN_zero ops.size hc
    refine ⟨?_, fin L a w ι C pos I hall⟩
    cases hrd : Region.ready .any ops L with
    | nil => rfl
    | cons k l =>
      exfalso
      have hmem : k ∈ Region.ready .any ops L := by rw [hrd]; exact List.mem_cons_self ..
      rw [mem_ready] at hmem
      obtain ⟨h1, o, ho, _⟩ := hmem
      have hk : k < ops.size := (Array.getElem?_eq_some_iff.1 ho).1
      have h2 := hall k hk
      simp [show k < L.size by rw [I.size]; exact hk] at h1 h2
      rw [h2] at h1; cases h1
  | succ fuel ih =>
    intro L a w ι C pos I hc
    refine ⟨fun hrd => fin L a w ι C pos I (done L I.size hrd), fun i hi => ?_⟩
    rw [mem_ready] at hi
    obtain ⟨h1, o, ho, h2⟩ := hi
    have hk : i < ops.size := (Array.getElem?_eq_some_iff.1 ho).1
    have hL : L.getD i false = false := by
      simp [show i < L.size by rw [I.size]; exact hk] at h1 ⊢; exact h1
    refine inv_step hr T hp hF hFM hlo hop hdst I ho hL h2 _ Q (fun a' w' ι' C' pos' I' => ih _ a' w' ι' C' pos' I' ?_)
    have := (cntN_set (by rw [I.size]; exact hk) hL ops.size).1 hk
    omega

/-! the static look -/
def okCode (E : Env) (cur : FuncId) (N : Nat) : Code → Bool
  | .seq a b => okCode E cur N a && okCode E cur N b
  | .cond _ a b => okCode E cur N a && okCode E cur N b
  | .block _ a => okCode E cur N a
  | .loop a => okCode E cur N a
  | .region r ops draw => (ops.toList.all fun o => match o.dst with | some t => decide (t < N) | none => true) && (!draw || (okRegion E (E.loose cur r) ops && ((E.loose cur r).all fun p => decide (p.1 < ops.size) && decide (p.2 < ops.size))))
  | _ => true

structure Sound (E : Env) : Prop where
  prim : PrimOk E
  mixed : E.P.follows .mixedOrders = true
  code : ∀ cur c p f s M f' M', E.cprim cur c = some p → p f s M = some (f', M') → ∀ N, okCode E cur N c = true → ∀ (ι : Inj) (C : Fro) (a : Act) (w : World) (Q : Exit → Act → World → Prop), TR ι C f a.tmps → MR ι C M w → Fresh s ι → FreshM s M → a.defers = [] → N ≤ a.tmps.size →
    (∀ a' w' ι' C', TR ι' C' f' a'.tmps → MR ι' C' M' w' → Stp s ι C M w ι' C' M' w' → a'.defers = [] → a'.tmps.size = a.tmps.size → Q .normal a' w') → c.wp E.P Q a w
  ok : ∀ f fn c, entry E.P f = some (fn, c) → E.prim f = none → okCode E f fn.ntmps c = true

def Ex.to : Ex → Exit
  | .normal => .normal
  | .exit id => .exit id
  | .ret => .ret

def CodeSound (E : Env) (n : Nat) : Prop :=
  ∀ cur c s f M ex f' M', codeN E n cur c s f M = some (ex, f', M') → ∀ N, okCode E cur N c = true → ∀ (ι : Inj) (C : Fro) (a : Act) (w : World) (Q : Exit → Act → World → Prop), TR ι C f a.tmps → MR ι C M w → Fresh s ι → FreshM s M → a.defers = [] → N ≤ a.tmps.size →
    (∀ a' w' ι' C', TR ι' C' f' a'.tmps → MR ι' C' M' w' → Stp s ι C M w ι' C' M' w' → a'.defers = [] → a'.tmps.size = a.tmps.size → Q ex.to a' w') → c.wp E.P Q a w

def FnSound (E : Env) (n : Nat) : Prop :=
  ∀ frz f args s M v M', fnN E n frz f args s M = some (v, M') → ∀ (ι : Inj) (C : Fro) (w : World) (cargs : Array Value), LR ι C args cargs → MR ι C M w → Fresh s ι → FreshM s M →
    Calls E.P f cargs w fun e w' => ∃ c ι' C', e = .returned c ∧ VR ι' C' v c ∧ MR ι' C' M' w' ∧ Stp s ι C M w ι' C' M' w'

theorem run_callFunc {P : Program} {f : FuncId} {fn : Func} {c : Code} (h : entry P f = some (fn, c)) (args : Array Value) (w : World) : (callFunc f args).run P w = .ok (.enter f args) w := by
  unfold entry at h
  split at h
  · rename_i fn' hf
    split at h
    · cases h
    · rename_i hn
      simp only [Option.map_eq_some_iff, Prod.mk.injEq] at h
      obtain ⟨c', hb, rfl, rfl⟩ := h
      unfold callFunc
      have h1 : (fn'.name == "runtime.NumGoroutine") = false := by simpa using hn
      simp [hf, h1, hb, hn]
  · cases h

theorem op_sound {E : Env} (hs : Sound E) {n : Nat} (hf : FnSound E n) : OpSound E (n + 1) := by
  intro cur o s f M v M' h ι C a w K Q ht hm hfr hfm hK
  by_cases hnc : ∃ c x, o.op = .call c ∧ c.callee = .value x
  · obtain ⟨c, x, hop, hce⟩ := hnc
    simp only [opN, hop, hce] at h
    split at h
    · rename_i g args hcall
      unfold callOf at hcall
      simp only [hce] at hcall
      split at hcall
      · rename_i g' l1 l2 hx
        simp only [Option.some.injEq, Prod.mk.injEq] at hcall
        obtain ⟨rfl, rfl⟩ := hcall
        have hxv := ht.ev x
        rw [hx] at hxv
        generalize hcx : a.eval x = cx at hxv
        cases hxv with
        | fn _ _ _ a1 a2 e1 e2 r1 r2 =>
          have hent : ∃ fn c, entry E.P g' = some (fn, c) := by
            cases n with
            | zero => simp [fnN] at h
            | succ n =>
              simp only [fnN] at h
              split at h
              · exact ⟨_, _, ‹_›⟩
              · cases h
          obtain ⟨fn, cc, hent⟩ := hent
          have hargs : LR ι C (l1 ++ c.args.toList.map (ev f) ++ l2) (a1 ++ c.args.map a.eval ++ a2) :=
            (LR.append (LR.append ⟨e1, r1⟩ (args_rel (fun x => ht.ev x) c.args)) ⟨e2, r2⟩)
          have hcalls := hf _ _ _ _ _ _ _ h ι C w _ hargs hm hfr hfm
          unfold Oper.wp
          have hrun : (execOp a.eval o).run E.P w = .ok (.enter g' (a1 ++ c.args.map a.eval ++ a2)) w := by
            obtain ⟨dst, op, typ, pos, aft, grd⟩ := o
            simp only at hop; subst hop
            simp only [execOp, resolve, hce, hcx, Deferred.ofValue, Sem.run_bind, Sem.run_pure, Result.andThen_ok, invoke]
            exact run_callFunc hent _ w
          rw [hrun]
          simp only [Oper.upon]
          refine hcalls.mono (fun e w' hq => ?_)
          obtain ⟨r, ι', C', rfl, g1, g2, g3⟩ := hq
          exact hK r w' ι' C' g1 g2 g3
      · cases hcall
    · cases h
  · have h' : opV E.P o.op (ev f) s M = some (v, M') := by
      simp only [opN] at h
      split at h
      · rename_i c hop
        split at h
        · rename_i x hce; exact absurd ⟨c, x, hop, hce⟩ hnc
        · exact h
      · exact h
    exact opV_wp h' ht hm (hfr _ (List.suffix_refl _)) hK

/-- the operations of a region, one behind the other -/
theorem ops_sound {E : Env} {cur : FuncId} {all : Array Oper} {s : Id} : ∀ (n : Nat), (∀ m, m < n → OpSound E m) → (∀ m, AllIds E m) → ∀ (l : List Oper) (k : Nat) (f : Tm) (M : Mem) (f' : Tm) (M' : Mem), opsN E n cur all l k s f M = some (f', M') →
    ∀ (N : Nat), (∀ o ∈ l, ∀ t, o.dst = some t → t < N) → ∀ (ι : Inj) (C : Fro) (a : Act) (w : World) (Q : Exit → Act → World → Prop), TR ι C f a.tmps → MR ι C M w → (∀ j, k ≤ j → Fresh (j :: s) ι) → (∀ j, k ≤ j → FreshM (j :: s) M) → a.defers = [] → N ≤ a.tmps.size →
    (∀ a' w' ι' C', TR ι' C' f' a'.tmps → MR ι' C' M' w' → Stp s ι C M w ι' C' M' w' → a'.defers = [] → a'.tmps.size = a.tmps.size → Q .normal a' w') → wpList E.P all Q l a w
  | 0, _, _, l, k, f, M, f', M', h => by simp [opsN] at h
  | n + 1, hop, hids, [], k, f, M, f', M', h => by
    intro N _ ι C a w Q ht hm _ _ hd hsz hQ
    simp only [opsN, Option.some.injEq, Prod.mk.injEq] at h
    obtain ⟨rfl, rfl⟩ := h
    exact hQ a w ι C ht hm (.refl _ _ _ _ _) hd rfl
  | n + 1, hop, hids, o :: l, k, f, M, f', M', h => by
    intro N hN ι C a w Q ht hm hF hFM hd hsz hQ
    have hdst : ∀ t, o.dst = some t → t < a.tmps.size := fun t e => Nat.lt_of_lt_of_le (hN o (List.mem_cons_self ..) t e) hsz
    simp only [opsN] at h
    have hput : ∀ (c : Value), (a.put o.dst c).defers = [] := fun c => by rw [← hd]; cases o.dst <;> rfl
    split at h
    · rename_i hw
      have := wanted_sound hw ht
      simp only [wpList, this, Bool.false_eq_true, if_false]
      exact ops_sound n (fun m hm => hop m (by omega)) hids l (k + 1) _ M f' M' h N (fun o' ho' => hN o' (List.mem_cons_of_mem _ ho')) ι C _ w Q (ht.put undef_rel hdst) hm (fun j hj => hF j (by omega)) (fun j hj => hFM j (by omega)) (hput _) (by rw [Act.put_size]; exact hsz)
        (fun a' w' ι' C' g1 g2 g3 g4 g5 => hQ a' w' ι' C' g1 g2 g3 g4 (by rw [g5, Act.put_size]))
    · rename_i hw
      have := wanted_sound hw ht
      simp only [wpList, this, if_true]
      split at h
      · rename_i v M1 h1
        refine .inl (hop n (by omega) cur o (k :: s) f M v M1 h1 ι C a w _ Q ht hm (hF k (Nat.le_refl _)) (hFM k (Nat.le_refl _)) (fun c w' ι' C' g1 g2 g3 => ?_))
        have hi := (hids n).op _ _ _ _ _ _ _ h1
        exact ops_sound n (fun m hm => hop m (by omega)) hids l (k + 1) _ M1 f' M' h N (fun o' ho' => hN o' (List.mem_cons_of_mem _ ho')) ι' C' _ w' Q ((ht.mono g3.dom g3.fro).put g1 hdst) g2 (fun j hj => (hF j (by omega)).next g3 (by omega)) (fun j hj => (hFM j (by omega)).next hi (by omega)) (hput _)
          (by rw [Act.put_size]; exact hsz) (fun a' w'' ι'' C'' q1 q2 q3 q4 q5 => hQ a' w'' ι'' C'' q1 q2 ((g3.weaken (List.suffix_cons k s)).trans q3) q4 (by rw [q5, Act.put_size]))
      · cases h
    · cases h

theorem least {p : Nat → Prop} (h : ∃ m, p m) : ∃ m, p m ∧ ∀ k, p k → m ≤ k := by
  obtain ⟨m, hm⟩ := h
  induction m using Nat.strongRecOn with
  | _ m ih =>
    by_cases hq : ∃ k, k < m ∧ p k
    · obtain ⟨k, hk, hp⟩ := hq; exact ih k hk hp
    · exact ⟨m, hm, fun k hp => by
        rcases Nat.lt_or_ge k m with h | h
        · exact absurd ⟨k, h, hp⟩ hq
        · exact h⟩

theorem loop_sound {E : Env} {cur : FuncId} {body : Code} {s : Id} {n : Nat} (hids : ∀ m, AllIds E m) (hcode : ∀ m, m < n → CodeSound E m) {N : Nat} (hok : okCode E cur N body = true) {ex : Ex} {f' : Tm} {M' : Mem} {f : Tm} {M : Mem} {j : Nat}
    (h : loopN E n cur body j s f M = some (ex, f', M')) {ι : Inj} {C : Fro} {a : Act} {w : World} {Q : Exit → Act → World → Prop} (ht : TR ι C f a.tmps) (hm : MR ι C M w) (hF : ∀ k, j ≤ k → Fresh (k :: s) ι) (hFM : ∀ k, j ≤ k → FreshM (k :: s) M) (hd : a.defers = []) (hsz : N ≤ a.tmps.size)
    (hQ : ∀ a' w' ι' C', TR ι' C' f' a'.tmps → MR ι' C' M' w' → Stp s ι C M w ι' C' M' w' → a'.defers = [] → a'.tmps.size = a.tmps.size → Q ex.to a' w') : (Code.loop body).wp E.P Q a w := by
  let I : Nat → Act → World → Prop := fun m a1 w1 => m ≤ n ∧ ∃ j1 f1 M1 ι1 C1, loopN E m cur body j1 s f1 M1 = some (ex, f', M') ∧ TR ι1 C1 f1 a1.tmps ∧ MR ι1 C1 M1 w1 ∧ (∀ k, j1 ≤ k → Fresh (k :: s) ι1) ∧ (∀ k, j1 ≤ k → FreshM (k :: s) M1) ∧
    a1.defers = [] ∧ a1.tmps.size = a.tmps.size ∧ Stp s ι C M w ι1 C1 M1 w1
  classical
  let μ : Act → World → Nat := fun a1 w1 => if hh : ∃ m, I m a1 w1 then Classical.choose (least hh) else 0
  refine wp_loop (fun a1 w1 => ∃ m, I m a1 w1) μ ⟨n, Nat.le_refl _, j, f, M, ι, C, h, ht, hm, hF, hFM, hd, rfl, .refl _ _ _ _ _⟩ ?_
  intro a1 w1 hI
  have hfind := (Classical.choose_spec (least hI)).1
  have hμ : μ a1 w1 = Classical.choose (least hI) := by simp only [μ]; rw [dif_pos hI]
  generalize Classical.choose (least hI) = m at hfind hμ
  obtain ⟨hmn, j1, f1, M1, ι1, C1, hl, t1, m1, F1, FM1, d1, z1, s1⟩ := hfind
  cases m with
  | zero => simp [loopN] at hl
  | succ m =>
    simp only [loopN] at hl
    split at hl
    · rename_i f2 M2 hc
      refine hcode m (by omega) cur body (j1 :: s) f1 M1 _ _ _ hc N hok ι1 C1 a1 w1 _ t1 m1 (F1 j1 (Nat.le_refl _)) (FM1 j1 (Nat.le_refl _)) d1 (by omega) (fun a2 w2 ι2 C2 q1 q2 q3 q4 q5 => ?_)
      have hi := (hids m).code _ _ _ _ _ _ _ _ hc
      have hI2 : I m a2 w2 := ⟨by omega, j1 + 1, f2, M2, ι2, C2, hl, q1, q2, fun k hk => (F1 k (by omega)).next q3 (by omega), fun k hk => (FM1 k (by omega)).next hi (by omega), q4, by rw [q5, z1], s1.trans (q3.weaken (List.suffix_cons j1 s))⟩
      refine ⟨⟨m, hI2⟩, ?_⟩
      have hle : μ a2 w2 ≤ m := by
        have hex : ∃ m, I m a2 w2 := ⟨m, hI2⟩
        simp only [μ]; rw [dif_pos hex]; exact (Classical.choose_spec (least hex)).2 m hI2
      omega
    · rename_i hne
      have hex : ex ≠ .normal := by
        rintro rfl
        exact hne _ _ hl
      refine hcode m (by omega) cur body (j1 :: s) f1 M1 _ _ _ hl N hok ι1 C1 a1 w1 _ t1 m1 (F1 j1 (Nat.le_refl _)) (FM1 j1 (Nat.le_refl _)) d1 (by omega) (fun a2 w2 ι2 C2 q1 q2 q3 q4 q5 => ?_)
      have := hQ a2 w2 ι2 C2 q1 q2 (s1.trans (q3.weaken (List.suffix_cons j1 s))) q4 (by rw [q5, z1])
      cases ex with
      | normal => exact absurd rfl hex
      | exit id => exact this
      | ret => exact this
end Go.Ab
