/- The evaluator is sound: what it says of a call, the model's call does. Conditions: the static look at the code, and the soundness of what stands in for functions. -/
import Derived.Test.YtpohfmcpfkbabaaGreatEd
set_option linter.unusedSimpArgs false
set_option linter.unusedVariables false
namespace Go.Ab

theorem code_sound {E : Env} (hS : Sound E) {n : Nat} (hcode : ∀ m, m < n → CodeSound E m) (hop : ∀ m, m < n → OpSound E m) : CodeSound E n := by
  have hids := allIds E hS.prim
  intro cur c s f M ex f' M' h N hok ι C a w Q ht hm hF hFM hd hsz hQ
  cases n with
  | zero => simp [codeN] at h
  | succ n =>
    have hc := hcode n (Nat.lt_succ_self n)
    cases c <;> simp only [codeN] at h <;> try (simp at h; done)
    case skip =>
      simp only [Option.some.injEq, Prod.mk.injEq] at h; obtain ⟨rfl, rfl, rfl⟩ := h
      exact wp_skip (hQ a w ι C ht hm (.refl _ _ _ _ _) hd rfl)
    case ret =>
      simp only [Option.some.injEq, Prod.mk.injEq] at h; obtain ⟨rfl, rfl, rfl⟩ := h
      exact wp_ret (hQ a w ι C ht hm (.refl _ _ _ _ _) hd rfl)
    case exit id =>
      simp only [Option.some.injEq, Prod.mk.injEq] at h; obtain ⟨rfl, rfl, rfl⟩ := h
      exact wp_exit (hQ a w ι C ht hm (.refl _ _ _ _ _) hd rfl)
    case seq x y =>
      split at h
      · rename_i p hcp
        split at h
        · rename_i hp1
          simp only [Option.some.injEq, Prod.mk.injEq] at h; obtain ⟨rfl, rfl, rfl⟩ := h
          exact hS.code _ _ _ _ _ _ _ _ hcp hp1 N hok ι C a w Q ht hm hF hFM hd hsz hQ
        · cases h
      simp only [okCode, Bool.and_eq_true] at hok
      refine wp_seq ?_
      split at h
      · rename_i f1 M1 h1
        refine hc cur x (0 :: s) f M _ _ _ h1 N hok.1 ι C a w _ ht hm (hF.tail 0) (hFM.tail 0) hd hsz (fun a1 w1 ι1 C1 q1 q2 q3 q4 q5 => ?_)
        have hi := (hids n).code _ _ _ _ _ _ _ _ h1
        exact hc cur y (1 :: s) f1 M1 _ _ _ h N hok.2 ι1 C1 a1 w1 Q q1 q2 ((hF.tail 1).next q3 (by omega)) ((hFM.tail 1).next hi (by omega)) q4 (by omega)
          (fun a2 w2 ι2 C2 p1 p2 p3 p4 p5 => hQ a2 w2 ι2 C2 p1 p2 ((q3.weaken (List.suffix_cons 0 s)).trans (p3.weaken (List.suffix_cons 1 s))) p4 (by rw [p5, q5]))
      · rename_i hne
        have hex : ex ≠ .normal := by rintro rfl; exact hne _ _ h
        refine hc cur x (0 :: s) f M _ _ _ h N hok.1 ι C a w _ ht hm (hF.tail 0) (hFM.tail 0) hd hsz (fun a1 w1 ι1 C1 q1 q2 q3 q4 q5 => ?_)
        have := hQ a1 w1 ι1 C1 q1 q2 (q3.weaken (List.suffix_cons 0 s)) q4 q5
        cases ex with
        | normal => exact absurd rfl hex
        | exit id => exact this
        | ret => exact this
    case cond x y z =>
      simp only [okCode, Bool.and_eq_true] at hok
      have hx := ht.ev x
      split at h
      · rename_i t hxt
        rw [hxt] at hx
        have hev : a.eval x = .bool t := by generalize a.eval x = q at hx; cases hx; rfl
        refine wp_cond hev ?_
        split at h
        · rename_i ht1
          subst ht1
          simp only [if_true]
          exact hc cur y (0 :: s) f M _ _ _ h N hok.1 ι C a w Q ht hm (hF.tail 0) (hFM.tail 0) hd hsz (fun a1 w1 ι1 C1 q1 q2 q3 q4 q5 => hQ a1 w1 ι1 C1 q1 q2 (q3.weaken (List.suffix_cons 0 s)) q4 q5)
        · rename_i ht1
          have : t = false := by simpa using ht1
          subst this
          simp only [Bool.false_eq_true, if_false]
          exact hc cur z (1 :: s) f M _ _ _ h N hok.2 ι C a w Q ht hm (hF.tail 1) (hFM.tail 1) hd hsz (fun a1 w1 ι1 C1 q1 q2 q3 q4 q5 => hQ a1 w1 ι1 C1 q1 q2 (q3.weaken (List.suffix_cons 1 s)) q4 q5)
      · cases h
    case block id x =>
      simp only [okCode] at hok
      refine wp_block ?_
      split at h
      · rename_i id' f1 M1 h1
        refine hc cur x (0 :: s) f M _ _ _ h1 N hok ι C a w _ ht hm (hF.tail 0) (hFM.tail 0) hd hsz (fun a1 w1 ι1 C1 q1 q2 q3 q4 q5 => ?_)
        simp only [Ex.to, Exit.inBlock]
        split at h
        · rename_i hid
          simp only [Option.some.injEq, Prod.mk.injEq] at h; obtain ⟨rfl, rfl, rfl⟩ := h
          rw [if_pos hid]
          exact hQ a1 w1 ι1 C1 q1 q2 (q3.weaken (List.suffix_cons 0 s)) q4 q5
        · rename_i hid
          simp only [Option.some.injEq, Prod.mk.injEq] at h; obtain ⟨rfl, rfl, rfl⟩ := h
          rw [if_neg hid]
          exact hQ a1 w1 ι1 C1 q1 q2 (q3.weaken (List.suffix_cons 0 s)) q4 q5
      · rename_i hne
        refine hc cur x (0 :: s) f M _ _ _ h N hok ι C a w _ ht hm (hF.tail 0) (hFM.tail 0) hd hsz (fun a1 w1 ι1 C1 q1 q2 q3 q4 q5 => ?_)
        have := hQ a1 w1 ι1 C1 q1 q2 (q3.weaken (List.suffix_cons 0 s)) q4 q5
        cases ex with
        | normal => exact this
        | exit id' => exact absurd h (hne _ _ _)
        | ret => exact this
    case loop x =>
      simp only [okCode] at hok
      exact loop_sound (n := n) hids (fun m hm' => hcode m (by omega)) hok h ht hm (fun k _ => hF.tail k) (fun k _ => hFM.tail k) hd hsz hQ
    case region id ops d =>
      simp only [okCode, Bool.and_eq_true] at hok
      split at h
      · rename_i f1 M1 h1
        split at h
        rotate_left
        · cases h
        rename_i hloose
        simp only [Option.some.injEq, Prod.mk.injEq] at h; obtain ⟨rfl, rfl, rfl⟩ := h
        have hN : ∀ o ∈ ops.toList, ∀ t, o.dst = some t → t < N := by
          intro o ho t ht'
          have := (List.all_eq_true.1 hok.1) o ho
          rw [ht'] at this
          simpa using this
        cases d with
        | false =>
          refine wp_region_list ?_
          exact ops_sound n (fun m hm' => hop m (by omega)) hids ops.toList 0 f M _ _ h1 N hN ι C a w Q ht hm (fun j _ => hF.tail j) (fun j _ => hFM.tail j) hd hsz hQ
        | true =>
          have hok2 : okRegion E (E.loose cur id) ops = true ∧ ((E.loose cur id).all fun p => decide (p.1 < ops.size) && decide (p.2 < ops.size)) = true := by simpa only [Bool.not_true, Bool.false_or, Bool.and_eq_true] using hok.2
          have hreg := okRegion_spec hok2.1
          refine wp_region_any hS.mixed ?_
          obtain ⟨F, MM, vv, e1, e2, e3, e4, hst⟩ := opsN_trace n ops.toList 0 f M _ _ h1
          have T : Trace E n cur ops s F MM vv := ⟨fun k o ho => by
            have := hst k o (by simpa using ho)
            simpa only [Nat.zero_add] using this⟩
          simp only [Nat.zero_add, Array.length_toList] at e3 e4
          have hlo : LooseOk E.P (E.loose cur id) ops F MM := by
            intro p hp q1 q2
            obtain ⟨fl, Ml, fw, Mw, g1, g2, g3⟩ := hloose p hp
            have t1 := opsN_take e1 e2 hst (show p.1 ≤ ops.toList.length by simp; omega) g1 (fun m m' o t g N r r' => opN_det m m' o t g N r r')
            have t2 := opsN_take e1 e2 hst (show upTo p ≤ ops.toList.length by simp [upTo]; split <;> omega) g2 (fun m m' o t g N r r' => opN_det m m' o t g N r r')
            simp only [Nat.zero_add] at t1 t2
            rw [t1.1, t1.2, t2.2] at g3
            exact g3
          have hm0 : MR ι C (MM 0) { w with drawn := w.drawn + 1 } := by rw [e2]; exact hm.heap rfl
          have hstp0 : Stp s ι C M w ι C (MM 0) { w with drawn := w.drawn + 1 } := by rw [e2]; exact Stp.same_heap s rfl rfl rfl rfl
          have hcap : ∀ k, k < ops.size → (Array.replicate ops.size false).getD k false = false := fun k hk => by simp [hk]
          have hnone : ∀ k, (Array.replicate ops.size false).getD k false = false := fun k => by
            by_cases hk : k < ops.size
            · exact hcap k hk
            · simp [hk]
          obtain ⟨pos, p1, p2, p3, p4⟩ := nextW E ops ops.size 0 (by omega)
          have hts : ∀ k, TSn (F 0) ops vv (Array.replicate ops.size false) k = F 0 := by
            intro k
            induction k with
            | zero => rfl
            | succ k ih => simp only [TSn]; split <;> simp [hnone, ih]
          have hFM0 : FreshM s (MM 0) := by rw [e2]; exact hFM
          have hmp : MR ι C (AM MM s (Array.replicate ops.size false) pos) { w with drawn := w.drawn + 1 } := hm0.less (fun i o g1 g2 => by
            rcases AM_cases MM s (Array.replicate ops.size false) pos i with ⟨e, _⟩ | ⟨k, _, _, q3, _⟩
            · rw [e] at g2
              rcases mm_seg T hS.prim hFM0 p1 p2 p3 i with g | ⟨k, _, _, g5, _⟩
              · rw [← g]; exact g2
              · exact absurd (hF _ (suffix_tail g5)) g1
            · rw [hnone k] at q3; cases q3)
          have hsp : Stp s ι C (MM 0) { w with drawn := w.drawn + 1 } ι C (MM pos) { w with drawn := w.drawn + 1 } := { Stp.refl s ι C (MM 0) { w with drawn := w.drawn + 1 } with nores := (fun i g1 g2 => by
            rcases mm_seg T hS.prim hFM0 p1 p2 p3 i with g | ⟨k, _, _, g5, _⟩
            · rw [g]; exact g2
            · exact absurd (hF _ (suffix_tail g5)) g1) }
          have I0 : Inv E ops s F MM vv ι C { w with drawn := w.drawn + 1 } a.tmps.size (Array.replicate ops.size false) a { w with drawn := w.drawn + 1 } ι C pos :=
            ⟨by simp, fun j k _ hk => absurd hk (by rw [hnone k]; simp), p2, fun k hk hk2 => absurd hk2 (p3 k (Nat.zero_le _) hk), fun hps => ⟨p4 hps, hnone pos⟩, (by rw [hts, e1]; exact ht), hmp, hsp, fun id hid => .inl hid, hd, rfl⟩
          refine region_any hreg T hS.prim hF hFM0 hlo (fun m hm' => hop m (by omega)) (fun k o ho t hto => Nat.lt_of_lt_of_le (hN o (List.mem_of_getElem? (by simpa using ho)) t hto) hsz) Q (fun a' w' ι' C' q1 q2 q3 q4 q5 => ?_)
            ops.size _ a _ ι C pos I0 (cntN_replicate _ _ (Nat.le_refl _))
          rw [e3] at q1
          rw [e4] at q2 q3
          exact hQ a' w' ι' C' q1 q2 (hstp0.trans q3) q4 q5
      · cases h

theorem argsTm_rel {ι C} {args : List V} {cargs : Array Value} (h : LR ι C args cargs) (n : Nat) : TR ι C (argsTm args) (cargs ++ Array.replicate n undef) := by
  intro t
  unfold argsTm
  by_cases ht : t < args.length
  · rw [List.getD_eq_getElem?_getD, List.getElem?_eq_getElem ht, Array.getD_eq_getD_getElem?, Array.getElem?_append_left (by have := h.1; omega), Array.getElem?_eq_getElem (by have := h.1; omega)]
    exact h.2 t ht (by have := h.1; omega)
  · rw [List.getD_eq_getElem?_getD, List.getElem?_eq_none (by omega), Array.getD_eq_getD_getElem?, Array.getElem?_append_right (by have := h.1; omega)]
    by_cases hq : t - cargs.size < n
    · simp [hq]; exact undef_rel
    · simp [hq]; exact undef_rel

theorem fn_sound {E : Env} (hS : Sound E) {n : Nat} (hcode : CodeSound E n) : FnSound E (n + 1) := by
  intro frz f args s M v M' h ι C w cargs ha hm hF hFM
  simp only [fnN] at h
  split at h
  · rename_i fn c hent
    split at h
    · rename_i p hp
      exact hS.prim.sound _ _ _ _ _ _ _ _ _ _ _ hp h ha hm hF hFM
    · rename_i hp
      have hok := hS.ok f fn c hent hp
      have hbody : E.P.funcs[f]? = some fn ∧ fn.body = some c := by
        unfold entry at hent
        split at hent
        · rename_i fn' hf
          split at hent
          · cases hent
          · simp only [Option.map_eq_some_iff, Prod.mk.injEq] at hent
            obtain ⟨c', hb, rfl, rfl⟩ := hent
            exact ⟨hf, hb⟩
        · cases hent
      split at h
      · cases h
      · rename_i ex f' M1 hne hc
        split at h
        · rename_i r hr
          refine calls_of_wp hbody.1 hbody.2 ?_
          refine hcode f c (0 :: s) (argsTm args) M _ _ _ hc fn.ntmps hok ι C _ w _ (argsTm_rel ha _) hm (hF.tail 0) (hFM.tail 0) rfl (by simp; omega) (fun a' w' ι' C' q1 q2 q3 q4 q5 => ?_)
          obtain ⟨cv, g1, g2⟩ := resultsV_sound hr q1 q2
          obtain ⟨ι2, C2, k1, k2, k3⟩ := leave_sound h g2 q2 (q3.weaken (List.suffix_cons 0 s))
          cases ex with
          | normal => exact ⟨q4, cv, g1, cv, ι2, C2, rfl, k1, k2, k3⟩
          | ret => exact ⟨q4, cv, g1, cv, ι2, C2, rfl, k1, k2, k3⟩
          | exit id => exact absurd rfl (hne id)
        · cases h
      · cases h
  · cases h

theorem all_sound {E : Env} (hS : Sound E) : ∀ n, CodeSound E n ∧ FnSound E n ∧ OpSound E n := by
  intro n
  induction n using Nat.strongRecOn with
  | _ n ih =>
    have hcode : CodeSound E n := code_sound hS (fun m hm => (ih m hm).1) (fun m hm => (ih m hm).2.2)
    refine ⟨hcode, ?_, ?_⟩
    · cases n with
      | zero => intro frz f args s M v M' h; simp [fnN] at h
      | succ n => exact fn_sound hS (ih n (Nat.lt_succ_self n)).1
    · cases n with
      | zero => intro cur o s f M v M' h; simp [opN] at h
      | succ n => exact op_sound hS (ih n (Nat.lt_succ_self n)).2.1
end Go.Ab

/- The evaluator without a count of rounds, and its equations. Conditions: none. -/
namespace Go.Ab

/-! limits -/
open Classical in
noncomputable def lim {α : Type} (g : Nat → Option α) : Option α := if h : ∃ r n, g n = some r then some (Classical.choose h) else none

def Mono {α : Type} (g : Nat → Option α) : Prop := ∀ n r, g n = some r → g (n + 1) = some r

theorem Mono.le {α : Type} {g : Nat → Option α} (h : Mono g) {n m : Nat} {r : α} (hn : g n = some r) (hm : n ≤ m) : g m = some r := by
  induction m with
  | zero => have : n = 0 := by omega
            subst this; exact hn
  | succ m ih =>
    by_cases hnm : n = m + 1
    · subst hnm; exact hn
    · exact h m r (ih (by omega))

theorem lim_some {α : Type} {g : Nat → Option α} (h : Mono g) {r : α} : lim g = some r ↔ ∃ n, g n = some r := by
  unfold lim
  constructor
  · intro hl
    split at hl
    · rename_i hx
      simp only [Option.some.injEq] at hl
      exact hl ▸ Classical.choose_spec hx
    · cases hl
  · rintro ⟨n, hn⟩
    have hx : ∃ r n, g n = some r := ⟨r, n, hn⟩
    rw [dif_pos hx]
    obtain ⟨m, hm⟩ := Classical.choose_spec hx
    have h1 := h.le hn (Nat.le_max_left n m)
    have h2 := h.le hm (Nat.le_max_right n m)
    rw [h1] at h2
    exact h2.symm

theorem lim_ext {α : Type} {g k : Nat → Option α} (hg : Mono g) (hk : Mono k) (h : ∀ r, (∃ n, g n = some r) ↔ ∃ n, k n = some r) : lim g = lim k := by
  apply Option.ext
  intro r
  rw [lim_some hg, lim_some hk, h]

variable (E : Env)
noncomputable def Fn (frz : Bool) (f : FuncId) (args : List V) (s : Id) (M : Mem) : Option (V × Mem) := lim fun n => fnN E n frz f args s M
noncomputable def Co (cur : FuncId) (c : Code) (s : Id) (f : Tm) (M : Mem) : Option (Ex × Tm × Mem) := lim fun n => codeN E n cur c s f M
noncomputable def Lo (cur : FuncId) (a : Code) (j : Nat) (s : Id) (f : Tm) (M : Mem) : Option (Ex × Tm × Mem) := lim fun n => loopN E n cur a j s f M
noncomputable def Os (cur : FuncId) (all : Array Oper) (l : List Oper) (k : Nat) (s : Id) (f : Tm) (M : Mem) : Option (Tm × Mem) := lim fun n => opsN E n cur all l k s f M
noncomputable def Oo (cur : FuncId) (o : Oper) (s : Id) (f : Tm) (M : Mem) : Option (V × Mem) := lim fun n => opN E n cur o s f M

theorem fn_mono (frz f args s M) : Mono fun n => fnN E n frz f args s M := fun n r h => (allMono E n).fn _ _ _ _ _ _ h
theorem co_mono (cur c s f M) : Mono fun n => codeN E n cur c s f M := fun n r h => (allMono E n).code _ _ _ _ _ _ h
theorem lo_mono (cur a j s f M) : Mono fun n => loopN E n cur a j s f M := fun n r h => (allMono E n).loop _ _ _ _ _ _ _ h
theorem os_mono (cur all l k s f M) : Mono fun n => opsN E n cur all l k s f M := fun n r h => (allMono E n).ops _ _ _ _ _ _ _ _ h
theorem oo_mono (cur o s f M) : Mono fun n => opN E n cur o s f M := fun n r h => (allMono E n).op _ _ _ _ _ _ h

theorem lim_succ {α : Type} {g k : Nat → Option α} (hg : Mono g) (hk : Mono k) (h : ∀ n, g (n + 1) = k n) : lim g = lim k := by
  refine lim_ext hg hk (fun r => ⟨fun ⟨n, hn⟩ => ⟨n, by rw [← h]; exact hg n r hn⟩, fun ⟨n, hn⟩ => ⟨n + 1, by rw [h]; exact hn⟩⟩)

theorem lim_const {α : Type} {g : Nat → Option α} (hg : Mono g) {x : Option α} (h : ∀ n, g (n + 1) = x) : lim g = x := by
  apply Option.ext
  intro r
  rw [lim_some hg]
  exact ⟨fun ⟨n, hn⟩ => by rw [← h n]; exact hg n r hn, fun hx => ⟨1, by rw [h, hx]⟩⟩

variable {E}
theorem Co_skip (cur s f M) : Co E cur .skip s f M = some (.normal, f, M) := lim_const (co_mono E _ _ _ _ _) fun n => by simp only [codeN]
theorem Co_ret (cur s f M) : Co E cur .ret s f M = some (.ret, f, M) := lim_const (co_mono E _ _ _ _ _) fun n => by simp only [codeN]
theorem Co_exit (cur id s f M) : Co E cur (.exit id) s f M = some (.exit id, f, M) := lim_const (co_mono E _ _ _ _ _) fun n => by simp only [codeN]
theorem Co_loop (cur a s f M) : Co E cur (.loop a) s f M = Lo E cur a 0 s f M := lim_succ (co_mono E _ _ _ _ _) (lo_mono E _ _ _ _ _ _) fun n => by simp only [codeN]

theorem Co_cond (cur x a b s f M) : Co E cur (.cond x a b) s f M = match ev f x with | .bool t => (if t then Co E cur a (0 :: s) f M else Co E cur b (1 :: s) f M) | _ => none := by
  cases hx : ev f x
  case bool t =>
    cases t with
    | true => exact lim_succ (co_mono E _ _ _ _ _) (co_mono E _ _ _ _ _) fun n => by simp only [codeN, hx, if_true]
    | false => exact lim_succ (co_mono E _ _ _ _ _) (co_mono E _ _ _ _ _) fun n => by simp only [codeN, hx, Bool.false_eq_true, if_false]
  all_goals exact lim_const (co_mono E _ _ _ _ _) fun n => by simp only [codeN, hx]

theorem Co_hook {cur : FuncId} {c : Code} {p} (h : E.cprim cur c = some p) (s f M) (hc : ∃ a b, c = .seq a b) : Co E cur c s f M = (p f s M).map fun x => (.normal, x.1, x.2) := by
  obtain ⟨a, b, rfl⟩ := hc
  refine lim_const (co_mono E _ _ _ _ _) fun n => ?_
  simp only [codeN, h]
  cases p f s M <;> rfl

theorem Co_seq (cur a b s f M) (hno : E.cprim cur (.seq a b) = none) : Co E cur (.seq a b) s f M = match Co E cur a (0 :: s) f M with | some (.normal, f', M') => Co E cur b (1 :: s) f' M' | r => r := by
  apply Option.ext
  intro r
  unfold Co
  rw [lim_some (co_mono E _ _ _ _ _)]
  cases ha : lim (fun n => codeN E n cur a (0 :: s) f M) with
  | none =>
    have hno' : ∀ n, codeN E n cur a (0 :: s) f M = none := fun n => by
      cases hq : codeN E n cur a (0 :: s) f M with
      | none => rfl
      | some q => have := (lim_some (co_mono E cur a (0 :: s) f M)).2 ⟨n, hq⟩; rw [ha] at this; cases this
    simp only
    constructor
    · rintro ⟨n, hn⟩
      cases n with
      | zero => simp [codeN] at hn
      | succ n => simp only [codeN, hno, hno'] at hn; cases hn
    · intro h; cases h
  | some q =>
    obtain ⟨m, hm⟩ := (lim_some (co_mono E cur a (0 :: s) f M)).1 ha
    obtain ⟨ex, f', M'⟩ := q
    have hmm : ∀ n, m ≤ n → codeN E n cur a (0 :: s) f M = some (ex, f', M') := fun n hn => (co_mono E cur a (0 :: s) f M).le hm hn
    have hu : ∀ n x, codeN E n cur a (0 :: s) f M = some x → x = (ex, f', M') := fun n x hx => by
      have h1 := (co_mono E cur a (0 :: s) f M).le hx (Nat.le_max_left n m)
      have h2 := hmm (max n m) (Nat.le_max_right n m)
      exact Option.some.inj (h1.symm.trans h2)
    cases ex with
    | normal =>
      simp only
      rw [lim_some (co_mono E _ _ _ _ _)]
      constructor
      · rintro ⟨n, hn⟩
        cases n with
        | zero => simp [codeN] at hn
        | succ n =>
          simp only [codeN, hno] at hn
          split at hn
          · rename_i h1
            have := hu _ _ h1
            simp only [Prod.mk.injEq, true_and] at this
            obtain ⟨rfl, rfl⟩ := this
            exact ⟨n, hn⟩
          · rename_i hne
            have := hu _ _ hn
            subst this
            exact absurd hn (hne _ _)
      · rintro ⟨n, hn⟩
        refine ⟨max n m + 1, ?_⟩
        simp only [codeN, hno, hmm _ (Nat.le_max_right n m)]
        exact (co_mono E cur b (1 :: s) f' M').le hn (Nat.le_max_left n m)
    | exit id =>
      simp only
      constructor
      · rintro ⟨n, hn⟩
        cases n with
        | zero => simp [codeN] at hn
        | succ n =>
          simp only [codeN, hno] at hn
          split at hn
          · rename_i h1; have := hu _ _ h1; simp at this
          · rw [hu _ _ hn]
      · intro h
        simp only [Option.some.injEq] at h; subst h
        exact ⟨m + 1, by simp only [codeN, hno, hm]⟩
    | ret =>
      simp only
      constructor
      · rintro ⟨n, hn⟩
        cases n with
        | zero => simp [codeN] at hn
        | succ n =>
          simp only [codeN, hno] at hn
          split at hn
          · rename_i h1; have := hu _ _ h1; simp at this
          · rw [hu _ _ hn]
      · intro h
        simp only [Option.some.injEq] at h; subst h
        exact ⟨m + 1, by simp only [codeN, hno, hm]⟩

/-- one limit behind another one -/
theorem lim_bind {α β : Type} {g : Nat → Option α} {k : Nat → Option β} (h : α → Nat → Option β) (hg : Mono g) (hk : Mono k) (hh : ∀ x, Mono (h x)) (e : ∀ n, k (n + 1) = (g n).bind fun x => h x n) : lim k = (lim g).bind fun x => lim (h x) := by
  apply Option.ext
  intro r
  rw [lim_some hk, Option.bind_eq_some_iff]
  constructor
  · rintro ⟨n, hn⟩
    have h1 := hk n r hn
    rw [e, Option.bind_eq_some_iff] at h1
    obtain ⟨x, h2, h3⟩ := h1
    exact ⟨x, (lim_some hg).2 ⟨n, h2⟩, (lim_some (hh x)).2 ⟨n, h3⟩⟩
  · rintro ⟨x, h2, h3⟩
    obtain ⟨a, ha⟩ := (lim_some hg).1 h2
    obtain ⟨b, hb⟩ := (lim_some (hh x)).1 h3
    refine ⟨max a b + 1, ?_⟩
    rw [e, Option.bind_eq_some_iff]
    exact ⟨x, hg.le ha (Nat.le_max_left a b), (hh x).le hb (Nat.le_max_right a b)⟩

theorem mono_const {α : Type} (x : Option α) : Mono fun _ => x := fun _ _ h => h
theorem lim_constant {α : Type} (x : Option α) : lim (fun _ => x) = x := lim_const (mono_const x) fun _ => rfl

theorem Co_block (cur id a s f M) : Co E cur (.block id a) s f M = (Co E cur a (0 :: s) f M).bind fun x => match x with | (.exit id', f', M') => (if id' = id then some (.normal, f', M') else some (.exit id', f', M')) | r => some r := by
  unfold Co
  rw [lim_bind (fun x _ => match x with | (.exit id', f', M') => (if id' = id then some (.normal, f', M') else some (.exit id', f', M')) | r => some r) (co_mono E cur a (0 :: s) f M) (co_mono E _ _ _ _ _) (fun x => mono_const _) (fun n => ?_)]
  · simp only [lim_constant]
  · simp only [codeN]
    cases codeN E n cur a (0 :: s) f M with
    | none => rfl
    | some x =>
      obtain ⟨ex, f', M'⟩ := x
      cases ex <;> rfl

/-- what the loads of a region that may come behind a writing operation, or ahead of one, read is the same -/
def Chk (E : Env) (cur : FuncId) (id : Nat) (ops : Array Oper) (s : Id) (f : Tm) (M : Mem) : Prop :=
  ∀ p ∈ E.loose cur id, ∃ fl Ml fw Mw, Os E cur ops (ops.toList.take p.1) 0 s f M = some (fl, Ml) ∧ Os E cur ops (ops.toList.take (upTo p)) 0 s f M = some (fw, Mw) ∧ loadAt E.P ops p.1 fl Ml = loadAt E.P ops p.1 fl Mw

theorem Co_region (cur id ops d s f M) (hc : Chk E cur id ops s f M) : Co E cur (.region id ops d) s f M = (Os E cur ops ops.toList 0 s f M).map fun x => (.normal, x.1, x.2) := by
  have hall : ∃ m, ∀ n, m ≤ n → ∀ p ∈ E.loose cur id, ∃ fl Ml fw Mw, opsN E n cur ops (ops.toList.take p.1) 0 s f M = some (fl, Ml) ∧ opsN E n cur ops (ops.toList.take (upTo p)) 0 s f M = some (fw, Mw) ∧ loadAt E.P ops p.1 fl Ml = loadAt E.P ops p.1 fl Mw := by
    unfold Chk at hc
    generalize E.loose cur id = l at hc
    induction l with
    | nil => exact ⟨0, fun n _ p hp => by cases hp⟩
    | cons q l ih =>
      obtain ⟨m1, h1⟩ := ih (fun p hp => hc p (List.mem_cons_of_mem _ hp))
      obtain ⟨fl, Ml, fw, Mw, g1, g2, g3⟩ := hc q (List.mem_cons_self ..)
      obtain ⟨m2, h2⟩ := (lim_some (os_mono E _ _ _ _ _ _ _)).1 g1
      obtain ⟨m3, h3⟩ := (lim_some (os_mono E _ _ _ _ _ _ _)).1 g2
      refine ⟨max m1 (max m2 m3), fun n hn p hp => ?_⟩
      rcases List.mem_cons.1 hp with rfl | hp
      · exact ⟨fl, Ml, fw, Mw, (os_mono E _ _ _ _ _ _ _).le h2 (by omega), (os_mono E _ _ _ _ _ _ _).le h3 (by omega), g3⟩
      · exact h1 n (by omega) p hp
  obtain ⟨m0, hm0⟩ := hall
  apply Option.ext
  intro r
  unfold Co
  rw [lim_some (co_mono E _ _ _ _ _), Option.map_eq_some_iff]
  unfold Os
  constructor
  · rintro ⟨n, hn⟩
    cases n with
    | zero => simp [codeN] at hn
    | succ n =>
      simp only [codeN] at hn
      split at hn
      · rename_i f' M' h1
        split at hn
        · simp only [Option.some.injEq] at hn
          exact ⟨(f', M'), (lim_some (os_mono E _ _ _ _ _ _ _)).2 ⟨n, h1⟩, hn⟩
        · cases hn
      · cases hn
  · rintro ⟨x, hx, rfl⟩
    obtain ⟨n, hn⟩ := (lim_some (os_mono E _ _ _ _ _ _ _)).1 hx
    refine ⟨max n m0 + 1, ?_⟩
    have h1 := (os_mono E cur ops ops.toList 0 s f M).le hn (Nat.le_max_left n m0)
    simp only [codeN, h1]
    rw [if_pos (hm0 _ (Nat.le_max_right n m0))]

theorem Lo_step (cur a j s f M) : Lo E cur a j s f M = (Co E cur a (j :: s) f M).bind fun x => match x with | (.normal, f', M') => Lo E cur a (j + 1) s f' M' | r => some r := by
  unfold Lo Co
  rw [lim_bind (fun x n => match x with | (.normal, f', M') => loopN E n cur a (j + 1) s f' M' | r => some r) (co_mono E cur a (j :: s) f M) (lo_mono E _ _ _ _ _ _) (fun x => ?_) (fun n => ?_)]
  · congr 1
    funext x
    obtain ⟨ex, f', M'⟩ := x
    cases ex
    · rfl
    · exact lim_constant _
    · exact lim_constant _
  · obtain ⟨ex, f', M'⟩ := x
    cases ex
    · exact lo_mono E _ _ _ _ _ _
    · exact mono_const _
    · exact mono_const _
  · simp only [loopN]
    cases codeN E n cur a (j :: s) f M with
    | none => rfl
    | some x =>
      obtain ⟨ex, f', M'⟩ := x
      cases ex <;> rfl

theorem Os_nil (cur all k s f M) : Os E cur all [] k s f M = some (f, M) := lim_const (os_mono E _ _ _ _ _ _ _) fun n => by simp only [opsN]
theorem Os_cons (cur all o l k s f M) : Os E cur all (o :: l) k s f M = match wantedV f all o with
    | some false => Os E cur all l (k + 1) s (put f o.dst undefV) M
    | some true => (Oo E cur o (k :: s) f M).bind fun x => Os E cur all l (k + 1) s (put f o.dst x.1) x.2
    | none => none := by
  cases hw : wantedV f all o with
  | none => exact lim_const (os_mono E _ _ _ _ _ _ _) fun n => by simp only [opsN, hw]
  | some b =>
    cases b with
    | false => exact lim_succ (os_mono E _ _ _ _ _ _ _) (os_mono E _ _ _ _ _ _ _) fun n => by simp only [opsN, hw]
    | true =>
      unfold Os Oo
      refine lim_bind (fun x n => opsN E n cur all l (k + 1) s (put f o.dst x.1) x.2) (oo_mono E cur o (k :: s) f M) (os_mono E _ _ _ _ _ _ _) (fun x => os_mono E _ _ _ _ _ _ _) (fun n => ?_)
      simp only [opsN, hw]
      cases opN E n cur o (k :: s) f M with
      | none => rfl
      | some x => rfl

theorem Oo_op (cur : FuncId) (o : Oper) (s f M) (h : (match o.op with | .call { callee := .value _, .. } => false | _ => true) = true) : Oo E cur o s f M = opV E.P o.op (ev f) s M := by
  refine lim_const (oo_mono E _ _ _ _ _) fun n => ?_
  simp only [opN]
  split
  · rename_i c hc
    split
    · rename_i x hx
      rw [hc] at h
      obtain ⟨ce, as, ts⟩ := c
      simp only at hx; subst hx
      simp at h
    · rfl
  · rfl

theorem Oo_call (cur : FuncId) (d x as ts t p q g s f M) : Oo E cur ⟨d, .call ⟨.value x, as, ts⟩, t, p, q, g⟩ s f M = (callOf (ev f) ⟨.value x, as, ts⟩).bind fun y => Fn E (E.fz cur y.1) y.1 y.2 s M := by
  unfold Oo
  cases hc : callOf (ev f) ⟨.value x, as, ts⟩ with
  | none => exact lim_const (oo_mono E _ _ _ _ _) fun n => by simp only [opN, hc]; rfl
  | some y => exact lim_succ (oo_mono E _ _ _ _ _) (fn_mono E _ _ _ _ _) fun n => by simp only [opN, hc]

/-! the rest as a list of things to do -/
inductive It where
  | code (c : Code) (s : Id)
  | blk (id : Nat)
  | lp (a : Code) (j : Nat) (s : Id)
  | ops (all : Array Oper) (l : List Oper) (k : Nat) (s : Id)

def unwind : Nat → List It → Option (List It)
  | id, .blk id' :: k => if id = id' then some k else unwind id k
  | id, _ :: k => unwind id k
  | _, [] => none

theorem unwind_len : ∀ (id : Nat) (l k : List It), unwind id l = some k → k.length < l.length
  | id, [], k, h => by simp [unwind] at h
  | id, x :: l, k, h => by
    cases x <;> simp only [unwind] at h
    case blk id' =>
      split at h
      · simp only [Option.some.injEq] at h; subst h; simp
      · have := unwind_len id l k h; simp; omega
    all_goals (have := unwind_len id l k h; simp; omega)

noncomputable def runK (E : Env) (cur : FuncId) : Nat → List It → Tm → Mem → Option (Tm × Mem)
  | 0, _, _, _ => none
  | _ + 1, [], f, M => some (f, M)
  | n + 1, .blk _ :: k, f, M => runK E cur n k f M
  | n + 1, .code c s :: k, f, M => (Co E cur c s f M).bind fun x => match x with
    | (.normal, f', M') => runK E cur n k f' M'
    | (.exit id, f', M') => (unwind id k).bind fun k' => runK E cur n k' f' M'
    | (.ret, f', M') => some (f', M')
  | n + 1, .lp a j s :: k, f, M => (Lo E cur a j s f M).bind fun x => match x with
    | (.normal, f', M') => runK E cur n k f' M'
    | (.exit id, f', M') => (unwind id k).bind fun k' => runK E cur n k' f' M'
    | (.ret, f', M') => some (f', M')
  | n + 1, .ops all l i s :: k, f, M => (Os E cur all l i s f M).bind fun x => runK E cur n k x.1 x.2

/-- enough rounds -/
theorem runK_enough (E : Env) (cur : FuncId) : ∀ (n : Nat) (k : List It) (m : Nat), k.length < n → k.length < m → ∀ f M, runK E cur n k f M = runK E cur m k f M
  | 0, k, m, h, _ => by omega
  | n + 1, k, 0, _, h => by omega
  | n + 1, [], m + 1, _, _ => fun f M => rfl
  | n + 1, x :: k, m + 1, h1, h2 => fun f M => by
    simp only [List.length_cons] at h1 h2
    have ih := fun k' (hk : k'.length ≤ k.length) => runK_enough E cur n k' m (by omega) (by omega)
    have hun : ∀ id f' M', ((unwind id k).bind fun k' => runK E cur n k' f' M') = (unwind id k).bind fun k' => runK E cur m k' f' M' := by
      intro id f' M'
      cases hu : unwind id k with
      | none => rfl
      | some k' => simp only [Option.bind_some]; exact ih k' (Nat.le_of_lt (unwind_len id k k' hu)) f' M'
    cases x with
    | blk id => simp only [runK]; exact ih k (Nat.le_refl _) f M
    | code c s =>
      simp only [runK]
      congr 1
      funext y
      obtain ⟨ex, f', M'⟩ := y
      cases ex
      · exact ih k (Nat.le_refl _) f' M'
      · exact hun _ _ _
      · rfl
    | lp a j s =>
      simp only [runK]
      congr 1
      funext y
      obtain ⟨ex, f', M'⟩ := y
      cases ex
      · exact ih k (Nat.le_refl _) f' M'
      · exact hun _ _ _
      · rfl
    | ops all l i s =>
      simp only [runK]
      congr 1
      funext y
      exact ih k (Nat.le_refl _) _ _

noncomputable def run (E : Env) (cur : FuncId) (k : List It) (f : Tm) (M : Mem) : Option (Tm × Mem) := runK E cur (k.length + 1) k f M

theorem run_nil (cur f M) : run E cur [] f M = some (f, M) := rfl
theorem run_blk (cur id k f M) : run E cur (.blk id :: k) f M = run E cur k f M := rfl
theorem run_unwind (cur : FuncId) (id k f M) (n : Nat) (h : k.length < n) : ((unwind id k).bind fun k' => runK E cur n k' f M) = (unwind id k).bind fun k' => run E cur k' f M := by
  cases hu : unwind id k with
  | none => rfl
  | some k' => simp only [Option.bind_some]; exact runK_enough E cur _ _ _ (by have := unwind_len id k k' hu; omega) (by omega) f M
theorem run_code' (cur c s k f M) : run E cur (.code c s :: k) f M = (Co E cur c s f M).bind fun x => match x with
    | (.normal, f', M') => run E cur k f' M'
    | (.exit id, f', M') => (unwind id k).bind fun k' => run E cur k' f' M'
    | (.ret, f', M') => some (f', M') := by
  unfold run
  simp only [List.length_cons, runK]
  congr 1
  funext y
  obtain ⟨ex, f', M'⟩ := y
  cases ex
  · rfl
  · exact run_unwind cur _ k f' M' _ (Nat.lt_succ_self _)
  · rfl
theorem run_lp' (cur a j s k f M) : run E cur (.lp a j s :: k) f M = (Lo E cur a j s f M).bind fun x => match x with
    | (.normal, f', M') => run E cur k f' M'
    | (.exit id, f', M') => (unwind id k).bind fun k' => run E cur k' f' M'
    | (.ret, f', M') => some (f', M') := by
  unfold run
  simp only [List.length_cons, runK]
  congr 1
  funext y
  obtain ⟨ex, f', M'⟩ := y
  cases ex
  · rfl
  · exact run_unwind cur _ k f' M' _ (Nat.lt_succ_self _)
  · rfl
theorem run_ops' (cur all l i s k f M) : run E cur (.ops all l i s :: k) f M = (Os E cur all l i s f M).bind fun x => run E cur k x.1 x.2 := rfl

theorem run_hook {cur : FuncId} {a b : Code} {p} (h : E.cprim cur (.seq a b) = some p) (s k f M) : run E cur (.code (.seq a b) s :: k) f M = (p f s M).bind fun x => run E cur k x.1 x.2 := by
  rw [run_code', Co_hook h _ _ _ ⟨a, b, rfl⟩]
  cases p f s M <;> rfl
theorem run_seq (cur a b s k f M) (hno : E.cprim cur (.seq a b) = none) : run E cur (.code (.seq a b) s :: k) f M = run E cur (.code a (0 :: s) :: .code b (1 :: s) :: k) f M := by
  rw [run_code', run_code', Co_seq _ _ _ _ _ _ hno]
  cases Co E cur a (0 :: s) f M with
  | none => rfl
  | some x =>
    obtain ⟨ex, f', M'⟩ := x
    cases ex
    · simp only [Option.bind_some]; rw [run_code']
    · rfl
    · rfl
theorem run_skip (cur s k f M) : run E cur (.code .skip s :: k) f M = run E cur k f M := by rw [run_code', Co_skip]; rfl
theorem run_ret (cur s k f M) : run E cur (.code .ret s :: k) f M = some (f, M) := by rw [run_code', Co_ret]; rfl
theorem run_exit (cur id s k f M) : run E cur (.code (.exit id) s :: k) f M = (unwind id k).bind fun k' => run E cur k' f M := by rw [run_code', Co_exit]; rfl
theorem run_cond (cur x a b s k f M) : run E cur (.code (.cond x a b) s :: k) f M = match ev f x with | .bool t => (if t then run E cur (.code a (0 :: s) :: k) f M else run E cur (.code b (1 :: s) :: k) f M) | _ => none := by
  rw [run_code', Co_cond]
  cases ev f x <;> try rfl
  rename_i t
  cases t
  · simp only [Bool.false_eq_true, if_false]; rw [run_code']
  · simp only [if_true]; rw [run_code']
theorem run_block (cur id a s k f M) : run E cur (.code (.block id a) s :: k) f M = run E cur (.code a (0 :: s) :: .blk id :: k) f M := by
  rw [run_code', run_code', Co_block]
  cases Co E cur a (0 :: s) f M with
  | none => rfl
  | some x =>
    obtain ⟨ex, f', M'⟩ := x
    cases ex
    · rfl
    · rename_i id'
      simp only [Option.bind_some, unwind]
      by_cases h : id' = id
      · simp [h]
      · simp [h]
    · rfl
theorem run_loop (cur a s k f M) : run E cur (.code (.loop a) s :: k) f M = run E cur (.lp a 0 s :: k) f M := by rw [run_code', run_lp', Co_loop]
theorem run_lp (cur a j s k f M) : run E cur (.lp a j s :: k) f M = run E cur (.code a (j :: s) :: .lp a (j + 1) s :: k) f M := by
  rw [run_lp', run_code', Lo_step]
  cases Co E cur a (j :: s) f M with
  | none => rfl
  | some x =>
    obtain ⟨ex, f', M'⟩ := x
    cases ex
    · simp only [Option.bind_some]; rw [run_lp']
    · rfl
    · rfl
theorem run_region (cur id ops d s k f M) (hc : Chk E cur id ops s f M) : run E cur (.code (.region id ops d) s :: k) f M = run E cur (.ops ops ops.toList 0 s :: k) f M := by
  rw [run_code', run_ops', Co_region _ _ _ _ _ _ _ hc]
  cases Os E cur ops ops.toList 0 s f M <;> rfl
theorem run_ops_nil (cur all i s k f M) : run E cur (.ops all [] i s :: k) f M = run E cur k f M := by rw [run_ops', Os_nil]; rfl
theorem run_ops_cons (cur all o l i s k f M) : run E cur (.ops all (o :: l) i s :: k) f M = match wantedV f all o with
    | some false => run E cur (.ops all l (i + 1) s :: k) (put f o.dst undefV) M
    | some true => (Oo E cur o (i :: s) f M).bind fun x => run E cur (.ops all l (i + 1) s :: k) (put f o.dst x.1) x.2
    | none => none := by
  rw [run_ops', Os_cons]
  cases wantedV f all o with
  | none => rfl
  | some b =>
    cases b
    · simp only; rw [run_ops']
    · simp only
      cases Oo E cur o (i :: s) f M with
      | none => rfl
      | some x => simp only [Option.bind_some]; rw [run_ops']

theorem Fn_eq (frz f args s M) : Fn E frz f args s M = match entry E.P f with
    | some (fn, c) => match E.prim f with
      | some p => p args s M
      | none => (run E f [.code c (0 :: s)] (argsTm args) M).bind fun x => (resultsV E.P fn x.1 x.2).bind fun v => leave (E.lv f) frz M v x.2
    | none => none := by
  cases he : entry E.P f with
  | none => exact lim_const (fn_mono E _ _ _ _ _) fun n => by simp only [fnN, he]
  | some y =>
    obtain ⟨fn, c⟩ := y
    cases hp : E.prim f with
    | some p => exact lim_const (fn_mono E _ _ _ _ _) fun n => by simp only [fnN, he, hp]
    | none =>
      simp only
      rw [run_code']
      unfold Fn Co
      rw [lim_bind (fun x _ => match x with
        | (.exit _, _, _) => none
        | (_, f', M1) => (resultsV E.P fn f' M1).bind fun v => leave (E.lv f) frz M v M1) (co_mono E f c (0 :: s) (argsTm args) M) (fn_mono E _ _ _ _ _) (fun x => mono_const _) (fun n => ?_)]
      · rw [Option.bind_assoc]
        congr 1
        funext x
        obtain ⟨ex, f', M'⟩ := x
        rw [lim_constant]
        cases ex <;> rfl
      · simp only [fnN, he, hp]
        cases codeN E n f c (0 :: s) (argsTm args) M with
        | none => rfl
        | some x =>
          obtain ⟨ex, f', M'⟩ := x
          cases ex
          · simp only [Option.bind_some]; cases resultsV E.P fn f' M' <;> rfl
          · rfl
          · simp only [Option.bind_some]; cases resultsV E.P fn f' M' <;> rfl

/-- what the evaluator says of a call, the model's call does -/
theorem Fn_sound (hS : Sound E) {frz : Bool} {f : FuncId} {args : List V} {s : Id} {M : Mem} {v : V} {M' : Mem} (h : Fn E frz f args s M = some (v, M')) {ι : Inj} {C : Fro} {w : World} {cargs : Array Value} (ha : LR ι C args cargs) (hm : MR ι C M w) (hF : Fresh s ι) (hFM : FreshM s M) :
    Calls E.P f cargs w fun e w' => ∃ c ι' C', e = .returned c ∧ VR ι' C' v c ∧ MR ι' C' M' w' ∧ Stp s ι C M w ι' C' M' w' := by
  obtain ⟨n, hn⟩ := (lim_some (fn_mono E frz f args s M)).1 h
  exact (all_sound hS n).2.1 frz f args s M v M' hn ι C w cargs ha hm hF hFM
end Go.Ab
