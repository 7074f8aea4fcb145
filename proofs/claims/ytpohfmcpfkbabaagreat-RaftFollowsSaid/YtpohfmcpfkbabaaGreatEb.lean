/- Each operation of the evaluator is the model's: structs compared, maps read, conversions. Conditions: none. -/
import Derived.Test.YtpohfmcpfkbabaaGreatEa
set_option linter.unusedSimpArgs false
set_option linter.unusedVariables false
namespace Go.Ab

theorem eq1_run {P : Program} {t : TypeId} (hs : scalarT P t = true) {x y : V} {r : Bool} (h : eq1 x y = some r) {ι C c d} (hx : VR ι C x c) (hy : VR ι C y d) (w : World) (dep : Nat)
    (hok : (∃ k n, c = .int k n ∧ ∃ j, P.underlying t = some (.int j)) ∨ (∃ b, c = .bool b ∧ P.underlying t = some .bool)) : (Op.equalIn (dep + 1) t c d).run P w = .ok r w := by
  unfold Op.equalIn
  rw [Sem.run_bind]
  unfold eq1 at h
  split at h
  · simp only [Option.some.injEq] at h; subst h
    cases hx; cases hy
    rcases hok with ⟨k, n, e, _⟩ | ⟨b, e, hu⟩
    · cases e
    · rw [run_underlying hu]; rfl
  · split at h
    · rename_i hk; subst hk
      simp only [Option.some.injEq] at h; subst h
      cases hx; cases hy
      rcases hok with ⟨k, n, e, j, hu⟩ | ⟨b, e, hu⟩
      · rw [run_underlying hu]; simp
      · cases e
    · cases h
  · cases h

/-- do a struct's cells fit its fields' kinds? -/
def fitsC (P : Program) (fs : Array Field) (l : List V) : Bool :=
  (fs.toList.zip l).all fun (f, v) => match P.underlying f.type, v with
    | some (.int _), .int _ _ => true
    | some .bool, .bool _ => true
    | _, _ => false

theorem flat_loop {P : Program} (a b : Array Value) (w : World) (dep : Nat) (la lb : List V) {ι C} (ha : LR ι C la a) (hb : LR ι C lb b) :
    ∀ (fl : List Field) (k : Nat) (r : Bool), (∀ j (p : j < fl.length), fl[j].offset = k + j ∧ fl[j].name ≠ "_" ∧ scalarT P fl[j].type = true) →
      (∀ j (p : j < fl.length) (q : k + j < la.length), (∃ kk n, la[k+j] = .int kk n ∧ ∃ i, P.underlying fl[j].type = some (.int i)) ∨ (∃ bb, la[k+j] = .bool bb ∧ P.underlying fl[j].type = some .bool)) →
      la.length = k + fl.length → lb.length = k + fl.length → eqCells (la.drop k) (lb.drop k) = some r →
      ((do
        let __s ← forIn fl (none, ()) fun f __s =>
              if f.name ≠ "_" then do
                let __do_lift ← part f.type a f.offset
                let __do_lift_1 ← part f.type b f.offset
                let __do_lift ← Op.equalIn (dep + 1) f.type __do_lift __do_lift_1
                if (!__do_lift) = true then pure (ForInStep.done (some false, ()))
                  else pure (ForInStep.yield (none, ()))
              else pure (ForInStep.yield (none, ()))
        match __s.fst with
          | some r => pure r
          | none => pure true : Sem Bool).run P w) = .ok r w
  | [], k, r, _, _, h1, h2, h3 => by
    rw [List.drop_of_length_le (by simp at h1; omega), List.drop_of_length_le (by simp at h2; omega)] at h3
    simp [eqCells] at h3
    subst h3
    simp
  | f :: fl, k, r, hf, hk, h1, h2, h3 => by
    simp only [List.length_cons] at h1 h2
    have hla : k < la.length := by omega
    have hlb : k < lb.length := by omega
    rw [List.drop_eq_getElem_cons hla, List.drop_eq_getElem_cons hlb] at h3
    simp only [eqCells] at h3
    have hf0 := hf 0 (by simp)
    simp only [List.getElem_cons_zero, Nat.add_zero] at hf0
    have hk0 := hk 0 (by simp) (by omega)
    simp only [List.getElem_cons_zero, Nat.add_zero] at hk0
    split at h3
    · rename_i r1 he1
      split at h3
      · rename_i r2 he2
        simp only [Option.some.injEq] at h3
        subst h3
        have hpa := part_scalar hf0.2.2 a f.offset (by have := ha.1; omega) w
        have hpb := part_scalar hf0.2.2 b f.offset (by have := hb.1; omega) w
        have hva := ha.2 k hla (by have := ha.1; omega)
        have hvb := hb.2 k hlb (by have := hb.1; omega)
        simp only [hf0.1] at hpa hpb
        have hrun := eq1_run hf0.2.2 he1 hva hvb w dep (by
          rcases hk0 with ⟨kk, n, e1, e2⟩ | ⟨bb, e1, e2⟩
          · rw [e1] at hva; generalize a[k]'(by have := ha.1; omega) = q at hva; cases hva; exact .inl ⟨_, _, rfl, e2⟩
          · rw [e1] at hva; generalize a[k]'(by have := ha.1; omega) = q at hva; cases hva; exact .inr ⟨_, rfl, e2⟩)
        simp only [List.forIn_cons, hf0.2.1, ne_eq, not_false_eq_true, if_true, bind_assoc, Sem.run_bind, hf0.1, hpa, hpb, Result.andThen_ok, hrun]
        cases r1 with
        | false => simp
        | true =>
          have ih := flat_loop a b w dep la lb ha hb fl (k + 1) r2 (fun j p => by
            have := hf (j + 1) (by simpa using p)
            simp only [List.getElem_cons_succ] at this
            rw [show k + 1 + j = k + (j + 1) by omega]; exact this) (fun j p q => by
            have := hk (j + 1) (by simpa using p) (by omega)
            simp only [List.getElem_cons_succ] at this
            simpa only [show k + 1 + j = k + (j + 1) by omega] using this) (by omega) (by omega) he2
          simp only [Bool.not_true, Bool.false_eq_true, if_false, Sem.run_pure, Result.andThen_ok, Bool.true_and]
          simpa only [Sem.run_bind] using ih
      · cases h3
    · cases h3

/-- '==' of two structs of numbers and bools, as far as their cells fit -/
theorem equal_struct {P : Program} {t : TypeId} {fs : Array Field} {a b : Array Value} {la lb : List V} {r : Bool} {ι C} (hu : P.underlying t = some (.struct fs)) (hf : flatT P t fs = true)
    (ha : LR ι C la a) (hb : LR ι C lb b) (h1 : la.length = fs.size) (h2 : lb.length = fs.size) (h : eqCells la lb = some r) (hfit : fitsC P fs la = true) (w : World) :
    (Op.equal t (.agg a) (.agg b)).run P w = .ok r w := by
  rw [equal_succ]
  rw [show (9999 : Nat) = 9998 + 1 from rfl]
  generalize 9998 = dep
  unfold flatT at hf
  simp only [Bool.and_eq_true, Bool.not_eq_true'] at hf
  obtain ⟨⟨hf1, hf2⟩, _⟩ := hf
  unfold Op.equalIn
  rw [Sem.run_bind, run_underlying hu]
  simp only [Result.andThen_ok]
  rw [Sem.run_bind]
  simp only [run_program, Result.andThen_ok, hf2, Bool.false_eq_true, if_false]
  rw [← Array.forIn_toList]
  have key := flat_loop (P := P) a b w dep la lb ha hb fs.toList 0 r ?_ ?_ (by simpa using h1) (by simpa using h2) (by simpa using h)
  · rw [Sem.run_bind] at key ⊢
    refine Eq.trans ?_ key
    congr 1
    funext s w'
    cases s.fst <;> rfl
  all_goals intro j p
  rotate_left
  · intro q
    have := (List.all_eq_true.1 hfit) (fs.toList[j], la[0 + j]) (by
      rw [List.mem_iff_getElem?]
      refine ⟨j, ?_⟩
      rw [List.getElem?_zip_eq_some]
      constructor
      · exact List.getElem?_eq_getElem p
      · simp only [Nat.zero_add]; exact List.getElem?_eq_getElem (by omega))
    simp only [Array.getElem_toList] at this ⊢
    split at this
    · rename_i k hk hv; exact .inl ⟨_, _, hv, _, hk⟩
    · rename_i hk hv; exact .inr ⟨_, hv, hk⟩
    · cases this
  · have := (List.all_eq_true.1 hf1) (fs.toList[j], j) (by
      rw [List.mem_zipIdx_iff_getElem?]; simp at p ⊢)
    simp at this ⊢
    exact ⟨this.1.1, this.1.2, this.2⟩

theorem fitK_fitsC {P : Program} : ∀ (fs : List Field) (l : List V), fitK (fs.map (intT P ·.type)) l = true → (∀ f ∈ fs, scalarT P f.type = true) →
    ((fs.zip l).all fun (f, v) => match P.underlying f.type, v with
    | some (.int _), .int _ _ => true
    | some .bool, .bool _ => true
    | _, _ => false) = true
  | [], _, _, _ => by simp
  | f :: fs, [], _, _ => by simp
  | f :: fs, v :: l, h, hs => by
    have hs0 := (scalar_under (hs f (List.mem_cons_self ..))).1
    have hs1 : ∀ g ∈ fs, scalarT P g.type = true := fun g hg => hs g (List.mem_cons_of_mem _ hg)
    simp only [List.zip_cons_cons, List.all_cons, Bool.and_eq_true]
    simp only [List.map_cons] at h
    rcases hs0 with hu | ⟨k, hu⟩
    · have hi : intT P f.type = false := by simp [intT, hu]
      rw [hi] at h
      cases v <;> simp only [fitK, Bool.false_eq_true] at h
      exact ⟨by simp [hu], fitK_fitsC fs l h hs1⟩
    · have hi : intT P f.type = true := by simp [intT, hu]
      rw [hi] at h
      cases v <;> simp only [fitK, Bool.false_eq_true] at h
      exact ⟨by simp [hu], fitK_fitsC fs l h hs1⟩

theorem kd_struct' {P : Program} {t : TypeId} {fs : List Ft} {ks : List Bool} (h : kd P t = some (.struct fs (some ks))) :
    ∃ a, P.underlying t = some (.struct a) ∧ flatT P t a = true ∧ ks = a.toList.map (intT P ·.type) := by
  obtain ⟨a, hu, _, hfl, _⟩ := kd_struct h
  refine ⟨a, hu, ?_⟩
  split at hfl
  · rename_i hf; simp only [Option.some.injEq] at hfl; exact ⟨hf, hfl⟩
  · cases hfl

/-- '==' -/
theorem eqV_sound {P : Program} {t : TypeId} {x y : V} {r : Bool} {ι C c d} (h : eqV P t x y = some r) (hx : VR ι C x c) (hy : VR ι C y d) (w : World) (hstr : kd P t ≠ some .str) :
    (Op.equal t c d).run P w = .ok r w := by
  by_cases hn : ∃ fs ks, kd P t = some (.struct fs (some ks))
  · obtain ⟨fs, ks, hk⟩ := hn
    obtain ⟨a, hu, hf, hks⟩ := kd_struct' hk
    unfold eqV at h
    rw [hk] at h
    split at h <;> try (simp_all; done)
    rename_i ks' la lb hk'
    simp only [Option.some.injEq, Kd.struct.injEq] at hk'
    obtain ⟨_, rfl⟩ := hk'
    split at h
    · rename_i hc
      cases hx with
      | agg _ aa hl1 hr1 =>
        cases hy with
        | agg _ bb hl2 hr2 =>
          have hlen : ks.length = a.size := by rw [hks]; simp
          have hs : ∀ f ∈ a.toList, scalarT P f.type = true := by
            intro f hfm
            unfold flatT at hf
            simp only [Bool.and_eq_true] at hf
            obtain ⟨j, hj⟩ := List.mem_iff_getElem?.1 hfm
            have := (List.all_eq_true.1 hf.1.1) (f, j) (by rw [List.mem_zipIdx_iff_getElem?]; exact hj)
            simp at this
            exact this.2
          exact equal_struct hu hf ⟨hl1, hr1⟩ ⟨hl2, hr2⟩ (by omega) (by omega) h (fitK_fitsC _ _ (by rw [← hks]; exact hc.2.2) hs) w
    · cases h
  · exact equal_simple h hx hy w (fun fs ks hk => hn ⟨fs, ks, hk⟩) hstr

theorem eqV_guard {P : Program} {op : BinOp} {t : TypeId} {x y : V} {v : V} {ι C c d} (h : binV P op t x y = some v) (hx : VR ι C x c) (hy : VR ι C y d) (w : World) (xo yo : Operand) :
    (eqGuard op t xo yo c d).run P w = .ok () w := by
  by_cases hop : op = .eql ∨ op = .neq
  · have hv : (∃ r, eqV P t x y = some r) ∨ (∃ k a k' b, x = .int k a ∧ y = .int k' b) := by
      unfold binV at h
      split at h <;> first
        | exact .inr ⟨_, _, _, _, rfl, rfl⟩
        | (cases he : eqV P t x y with | none => simp [he] at h | some r => exact .inl ⟨r, rfl⟩)
        | (simp at h; done)
    clear h
    have hop' : eqGuard op t xo yo c d = eqGuard .eql t xo yo c d := by rcases hop with rfl | rfl <;> rfl
    rw [hop']
    unfold eqGuard
    simp only [Bool.not_true, Bool.false_eq_true, if_false]
    rcases hv with ⟨r, he⟩ | ⟨k, a, k', b, rfl, rfl⟩
    · by_cases hn : ∃ fs ks, kd P t = some (.struct fs (some ks))
      · obtain ⟨fs, ks, hk⟩ := hn
        obtain ⟨a, hu, hf, hks⟩ := kd_struct' hk
        unfold eqV at he
        rw [hk] at he
        split at he <;> try (simp_all; done)
        unfold flatT at hf
        simp only [Bool.and_eq_true, Bool.not_eq_true'] at hf
        cases hx; cases hy
        simp [hf.2]
      · unfold eqV at he
        split at he <;> try (simp at he; done)
        case h_19 fs ks a b hk => exact absurd ⟨fs, ks, hk⟩ hn
        all_goals (cases hx <;> cases hy <;> rfl)
    · cases hx; cases hy; rfl
  · cases op <;> first | rfl | simp at hop
end Go.Ab

/- Each operation of the evaluator is the model's: maps read, conversions, lengths, literals. Conditions: none. -/
namespace Go.Ab

theorem unV_sound {P : Program} {o : UnOp} {x v : V} {ι C c} (h : unV o x = some v) (hx : VR ι C x c) (w : World) : ∃ r, (Op.unary o c).run P w = .ok r w ∧ VR ι C v r := by
  unfold unV at h
  split at h
  · simp only [Option.some.injEq] at h; subst h; cases hx; exact ⟨_, rfl, .bool _⟩
  · simp only [Option.some.injEq] at h; subst h; cases hx
    exact ⟨_, by simp [Op.unary, Op.intArith], .int _ _⟩
  · cases h

theorem bytes_loop (P : Program) (w : World) : ∀ (l : List V) (a : List Value) (bs : List UInt8) (acc : ByteArray), bytesOfCells l = some bs → l.length = a.length →
    (∀ j (p : j < l.length) (q : j < a.length), ∃ ι C, VR ι C l[j] a[j]) →
    ((forIn a acc fun c __s => match c with
        | Value.int IntKind.u8 n => pure (ForInStep.yield (__s.push (UInt8.ofNat n.toNat)))
        | _ => do stuck "bytesToString: byte expected"; pure (ForInStep.yield __s) : Sem ByteArray)).run P w = .ok ⟨(acc.data.toList ++ bs).toArray⟩ w
  | [], a, bs, acc, h, hl, _ => by
    obtain rfl : a = [] := by cases a <;> simp_all
    simp [bytesOfCells] at h
    subst h
    simp
  | v :: l, [], _, _, _, hl, _ => by simp at hl
  | v :: l, c :: a, bs, acc, h, hl, hr => by
    obtain ⟨ι, C, h0⟩ := hr 0 (by simp) (by simp)
    simp only [List.getElem_cons_zero] at h0
    cases v <;> try (simp [bytesOfCells] at h; done)
    rename_i k n
    cases k <;> try (simp [bytesOfCells] at h; done)
    cases h0
    simp only [bytesOfCells, Option.map_eq_some_iff] at h
    obtain ⟨bs', h1, rfl⟩ := h
    have ih := bytes_loop P w l a bs' (acc.push (UInt8.ofNat n.toNat)) h1 (by simpa using hl) (fun j p q => by
      have := hr (j + 1) (by simpa using p) (by simpa using q)
      simpa using this)
    simp only [List.forIn_cons, Sem.run_bind, Sem.run_pure, Result.andThen_ok]
    rw [ih]
    simp [ByteArray.push]

theorem run_bytesToString {P : Program} {w : World} {a : Addr} (ha : a.spot = none) {g : Nat → Value} {len cap : Nat} {l : List V} {bs : List UInt8} {ι C}
    (h : ∀ j, j < len → w.cell? ⟨a.block, a.off + j, none⟩ = some (g j)) (hl : l.length = len) (hr : ∀ j (p : j < l.length), VR ι C l[j] (g j)) (hb : bytesOfCells l = some bs) :
    (Conv.bytesToString (.slice (some a) len cap)).run P w = .ok (.string ⟨bs.toArray⟩) w := by
  unfold Conv.bytesToString
  simp only [Sem.run_bind]
  rw [run_loadCells P w a ha g len h]
  simp only [Result.andThen_ok]
  rw [← Array.forIn_toList]
  have key := bytes_loop P w l ((List.range len).map g) bs ByteArray.empty hb (by simp [hl]) (fun j p q => ⟨ι, C, by simpa using hr j p⟩)
  refine Eq.trans (congrArg (fun r => Result.andThen r _) (Eq.trans ?_ key)) ?_
  · congr 1
  · simp [ByteArray.empty, ByteArray.emptyWithCapacity]; rfl

theorem convV_sound {P : Program} {s t : TypeId} {M : Mem} {x v : V} {ι C w c} (h : convV P s t M x = some v) (hx : VR ι C x c) (hm : MR ι C M w) :
    ∃ r, (convert s t c).run P w = .ok r w ∧ VR ι C v r := by
  unfold convV at h
  unfold convert
  split at h
  · rename_i k0 k j n hk1 hk2
    simp only [Option.some.injEq] at h; subst h
    cases hx
    exact ⟨_, by simp [run_underlying (kd_int hk1), run_underlying (kd_int hk2), Conv.intToInt], .int _ _⟩
  · rename_i s hk1 hk2
    simp only [Option.some.injEq] at h; subst h
    cases hx
    exact ⟨_, by simp [run_underlying (kd_str hk1), run_underlying (kd_str hk2)], .str _⟩
  · rename_i e hk1 hk2
    obtain ⟨u, hu, he⟩ := kd_slice hk1
    split at h
    · rename_i hu8
      simp only [Option.some.injEq] at h; subst h
      cases hx
      obtain ⟨_, _, _, _, _, _, _, d, hd, hd8⟩ := elOf_spec he
      have : d = .int .u8 := by rw [hu8] at hd8; unfold u8D at hd8; split at hd8 <;> simp_all
      subst this
      exact ⟨_, by simp [run_underlying hu, run_underlying (kd_str hk2), run_underlying hd, Conv.bytesToString], .str _⟩
    · cases h
  · rename_i e cs len capped hk1 hk2
    obtain ⟨u, hu, he⟩ := kd_slice hk1
    split at h
    · rename_i hc
      obtain ⟨hu8, hlen⟩ := hc
      simp only [Option.map_eq_some_iff] at h
      obtain ⟨bs, hb, rfl⟩ := h
      obtain ⟨_, _, _, _, _, _, _, d, hd, hd8⟩ := elOf_spec he
      have : d = .int .u8 := by rw [hu8] at hd8; unfold u8D at hd8; split at hd8 <;> simp_all
      subst this
      cases hx with
      | psl _ _ _ b o ccap g hl hcp h0 hC hv =>
        refine ⟨.string ⟨bs.toArray⟩, ?_, .str _⟩
        simp only [Sem.run_bind, run_underlying hu, run_underlying (kd_str hk2), run_underlying hd, Result.andThen_ok]
        exact run_bytesToString rfl (fun j hj => (hm.fro _ _ _ (hC j (by omega))).1) hlen hv hb
      | psl0 _ a =>
        refine ⟨.string ⟨bs.toArray⟩, ?_, .str _⟩
        simp only [bytesOfCells, Option.some.injEq] at hb
        subst hb
        simp [run_underlying hu, run_underlying (kd_str hk2), run_underlying hd, Result.andThen_ok, Conv.bytesToString, loadCells, loadCellsFrom]
        rfl
    · cases h
  · rename_i e i off len sz cap hk1 hk2
    obtain ⟨u, hu, he⟩ := kd_slice hk1
    split at h
    · rename_i hu8
      split at h
      · rename_i cs hM
        split at h
        · rename_i hle
          simp only [Option.map_eq_some_iff] at h
          obtain ⟨bs, hb, rfl⟩ := h
          obtain ⟨_, _, _, _, _, _, _, d, hd, hd8⟩ := elOf_spec he
          have : d = .int .u8 := by rw [hu8] at hd8; unfold u8D at hd8; split at hd8 <;> simp_all
          subst this
          cases hx with
          | sl _ _ _ _ _ pl a ccap hi hl hcp hsp h2 =>
            obtain ⟨b', o', r', rfl, hO⟩ := hm.obj i pl _ hi hM
            obtain ⟨g1, g2, _⟩ := h2 b' o' r' rfl
            cases hO with
            | cells _ _ _ _ arr el hbk hr hl' h0 hv =>
              refine ⟨.string ⟨bs.toArray⟩, ?_, .str _⟩
              simp only [Sem.run_bind, run_underlying hu, run_underlying (kd_str hk2), run_underlying hd, Result.andThen_ok]
              by_cases hz : len = 0
              · subst hz
                refine run_bytesToString hsp (g := fun _ => undef) (l := (cs.drop off).take 0) (ι := ι) (C := C) (fun j hj => by omega) (by simp) (fun j p => by simp at p) hb
              · obtain rfl := g1 (by omega)
                refine run_bytesToString rfl (g := fun j => arr.getD (o' + off + j) undef) (l := (cs.drop off).take len) (ι := ι) (C := C) (fun j hj => ?_) (by simp; omega) (fun j p => ?_) hb
                · rw [cell_some hbk]; simp only; rw [Array.getD_eq_getD_getElem?, Array.getElem?_eq_getElem (by omega)]; rfl
                · simp at p
                  have := hv (off + j) (by omega) (by omega)
                  have e1 : arr.getD (o' + off + j) undef = arr[o' + (off + j)]'(by omega) := by
                    rw [Array.getD_eq_getD_getElem?, Array.getElem?_eq_getElem (by omega)]; simp [Nat.add_assoc]
                  rw [e1]
                  simpa using this
        · cases h
      · cases h
    · cases h
  · cases h

/-! maps -/
def kkFits (k : Kk) (td : TypeDesc) : Prop :=
  match k, td with
  | .int, .int _ | .bool, .bool | .str, .string => True
  | _, _ => False

theorem sameKey_sound {k : Kk} {x y : V} {r : Bool} {ι C c d} (h : sameKey k x y = some r) (hx : VR ι C x c) (hy : VR ι C y d) {td : TypeDesc}
    (htd : kkFits k td) : Instr.sameNow td c d = some r := by
  cases k <;> cases hx <;> try (simp [sameKey] at h; done)
  all_goals cases hy <;> try (simp [sameKey] at h; done)
  all_goals (cases td <;> simp [kkFits] at htd)
  · simp only [sameKey] at h; simp only [Option.some.injEq] at h; subst h; rfl
  · simp only [sameKey] at h
    split at h
    · simp only [Option.some.injEq] at h; subst h; simp_all [Instr.sameNow]
    · cases h
  · simp only [sameKey] at h; simp only [Option.some.injEq] at h; subst h; rfl

theorem keyT_desc {P : Program} {a : TypeId} {k : Kk} (h : keyT P a = some k) : ∃ td, P.underlying a = some td ∧ kkFits k td := by
  unfold keyT at h
  split at h <;> simp at h <;> subst h
  · rename_i k hk; exact ⟨_, hk, trivial⟩
  · rename_i hk; exact ⟨_, hk, trivial⟩
  · rename_i hk; exact ⟨_, hk, trivial⟩

theorem findK_sound {k : Kk} {x : V} {ι C c} (hx : VR ι C x c) {td : TypeDesc} (htd : kkFits k td) :
    ∀ (es : List (V × V)) (ces : List MapEntry) (n : Nat) (r : Option (Nat × V)), findK k x es n = some r → es.length = ces.length →
      (∀ j (p : j < es.length) (q : j < ces.length), VR ι C es[j].1 ces[j].key ∧ VR ι C es[j].2 ces[j].val) →
      ∃ r', Instr.findNow td c ces n = some r' ∧ (match r, r' with
        | none, none => True
        | some (m, v), some (m', v') => m = m' ∧ n ≤ m ∧ m < n + es.length ∧ VR ι C v v' ∧ (∀ q : m - n < ces.length, ∀ p : m - n < es.length, v' = ces[m - n].val ∧ v = es[m - n].2 ∧ sameKey k x es[m - n].1 = some true)
        | _, _ => False)
  | [], ces, n, r, h, hl, _ => by
    obtain rfl : ces = [] := by cases ces <;> simp_all
    simp [findK] at h; subst h
    exact ⟨none, rfl, trivial⟩
  | (y, v) :: es, [], n, r, h, hl, _ => by simp at hl
  | (y, v) :: es, e :: ces, n, r, h, hl, hr => by
    have h0 := hr 0 (by simp) (by simp)
    simp only [List.getElem_cons_zero] at h0
    simp only [findK] at h
    split at h
    · rename_i hs
      simp only [Option.some.injEq] at h; subst h
      refine ⟨some (n, e.val), by simp [Instr.findNow, sameKey_sound hs hx h0.1 htd], rfl, by omega, by simp, h0.2, ?_⟩
      intro q p
      have hnn : n - n = 0 := by omega
      simp [hnn, hs]
    · rename_i hs
      obtain ⟨r', h1, h2⟩ := findK_sound hx htd es ces (n + 1) r h (by simpa using hl) (fun j p q => by
        have := hr (j + 1) (by simpa using p) (by simpa using q)
        simpa using this)
      refine ⟨r', by simp [Instr.findNow, sameKey_sound hs hx h0.1 htd, h1], ?_⟩
      cases r with
      | none => cases r' <;> simp_all
      | some mv =>
        obtain ⟨m, vv⟩ := mv
        cases r' with
        | none => simp_all
        | some mv' =>
          obtain ⟨m', vv'⟩ := mv'
          obtain ⟨e1, e2, e3, e4, e5⟩ := h2
          refine ⟨e1, by omega, by simp; omega, e4, ?_⟩
          intro q p
          have hm : m - n = (m - (n + 1)) + 1 := by omega
          have := e5 (by simp at q; omega) (by simp at p; omega)
          simp only [hm, List.getElem_cons_succ]
          exact this
    · cases h

theorem isKey_check {P : Program} {k : Kk} {a : TypeId} {x : V} {ι C c} (hx : VR ι C x c) (hk : isKey k x = true) (ha : keyT P a = some k) (b : Bool) (w : World) (n : Nat) :
    (Instr.checkKey b (n + 1) a c).run P w = .ok () w := by
  obtain ⟨td, hu, htd⟩ := keyT_desc ha
  unfold Instr.checkKey
  rw [Sem.run_bind, run_underlying hu]
  unfold isKey at hk
  split at hk <;> first | (simp at hk; done) | (cases hx; cases td <;> simp [kkFits] at htd <;> rfl)

theorem findKey_run {P : Program} {a : TypeId} {td : TypeDesc} (hu : P.underlying a = some td) {c : Value} {ces : List MapEntry} {r} (h : Instr.findNow td c ces 0 = some r) (w : World) :
    (Instr.findKey a c ces).run P w = .ok r w := by
  unfold Instr.findKey
  rw [Sem.run_bind, run_underlying hu]
  simp only [Result.andThen_ok, h]
  rfl

theorem entries_get {M : Mem} {x : V} {es : List (V × V)} {ι C w c} (h : entriesV M x = some es) (hx : VR ι C x c) (hm : MR ι C M w) :
    (c = .map none ∧ es = []) ∨ ∃ r ces k, c = .map (some r) ∧ w.heap[r]? = some (.map ces k) ∧ es.length = ces.size ∧
      (∀ j (p : j < es.length) (q : j < ces.size), VR ι C es[j].1 ces[j].key ∧ VR ι C es[j].2 ces[j].val) := by
  unfold entriesV at h
  split at h
  · simp only [Option.some.injEq] at h; cases hx; exact .inl ⟨rfl, h.symm⟩
  · split at h
    · rename_i hM
      simp only [Option.some.injEq] at h; subst h
      cases hx with
      | mapr _ pl r hi h2 =>
        obtain ⟨b, o, rm, rfl, hO⟩ := hm.obj _ _ _ hi hM
        obtain rfl := h2 _ _ _ rfl
        cases hO with
        | map _ _ _ _ ces k hb _ hl hr => exact .inr ⟨_, ces, k, rfl, hb, hl, hr⟩
    · cases h
  · cases h

theorem run_getObj_map {P : Program} {w : World} {r : Nat} {ces : Array MapEntry} {k : Nat} (h : w.heap[r]? = some (.map ces k)) : (getObj r).run P w = .ok (.map ces k) w := by
  simp [getObj, Sem.run, h]

theorem look_run {P : Program} {t a b : TypeId} {td : TypeDesc} {w : World} {c ci : Value} {ces : Array MapEntry} (hu : P.underlying t = some (.map a b)) (hua : P.underlying a = some td)
    (hc : (c = .map none ∧ ces = #[]) ∨ ∃ r k, c = .map (some r) ∧ w.heap[r]? = some (.map ces k)) (hck : ∀ e, (Instr.checkKey e (9999 + 1) a ci).run P w = .ok () w) (ok : Bool) :
    (∀ m v, Instr.findNow td ci ces.toList 0 = some (some (m, v)) → (Instr.lookup t c ci ok).run P w = .ok (if ok then .tuple #[v, .bool true] else v) w) ∧
    (∀ z, (zeroValue b).run P w = .ok z w → Instr.findNow td ci ces.toList 0 = some none → (Instr.lookup t c ci ok).run P w = .ok (if ok then .tuple #[z, .bool false] else z) w) := by
  have hck' : ∀ e, (Instr.checkKey e 10000 a ci).run P w = .ok () w := hck
  constructor
  · intro m v h
    rcases hc with ⟨rfl, rfl⟩ | ⟨r, k, rfl, hb⟩
    · simp [Instr.findNow] at h
    · unfold Instr.lookup
      simp only [Sem.run_bind, run_underlying hu, Result.andThen_ok, run_getObj_map hb, Sem.run_pure, hck', findKey_run hua h w]
  · intro z hz h
    rcases hc with ⟨rfl, rfl⟩ | ⟨r, k, rfl, hb⟩
    · unfold Instr.lookup
      simp only [Sem.run_bind, run_underlying hu, Result.andThen_ok, Sem.run_pure, hck', findKey_run hua h w, hz]
    · unfold Instr.lookup
      simp only [Sem.run_bind, run_underlying hu, Result.andThen_ok, run_getObj_map hb, Sem.run_pure, hck', findKey_run hua h w, hz]

theorem lookupV_sound {P : Program} {t : TypeId} {M : Mem} {x ix v : V} {ok : Bool} {ι C w c ci} (h : lookupV P t M x ix ok = some v) (hx : VR ι C x c) (hix : VR ι C ix ci) (hm : MR ι C M w) :
    ∃ r, (Instr.lookup t c ci ok).run P w = .ok r w ∧ VR ι C v r := by
  unfold lookupV at h
  split at h
  · rename_i k z es hk hes
    obtain ⟨a, b, hu, ha, hz⟩ := kd_map hk
    obtain ⟨td, hua, htd⟩ := keyT_desc ha
    split at h
    · rename_i hkey
      have hck := fun e => isKey_check (P := P) (b := e) hix hkey ha w 9999
      obtain ⟨ces, hc, hlen, hrel⟩ : ∃ ces : Array MapEntry, ((c = .map none ∧ ces = #[]) ∨ ∃ r k, c = .map (some r) ∧ w.heap[r]? = some (.map ces k)) ∧ es.length = ces.size ∧
          (∀ j (p : j < es.length) (q : j < ces.size), VR ι C es[j].1 ces[j].key ∧ VR ι C es[j].2 ces[j].val) := by
        rcases entries_get hes hx hm with ⟨rfl, rfl⟩ | ⟨r, ces, kk, rfl, hb, hl, hr⟩
        · exact ⟨#[], .inl ⟨rfl, rfl⟩, rfl, fun j p _ => absurd p (by simp)⟩
        · exact ⟨ces, .inr ⟨r, kk, rfl, hb⟩, hl, hr⟩
      obtain ⟨L1, L2⟩ := look_run hu hua hc hck ok
      split at h
      · rename_i m vv hf
        simp only [Option.some.injEq] at h
        obtain ⟨r', h1, h2⟩ := findK_sound hix htd es ces.toList 0 _ hf (by simpa using hlen) (fun j p q => by simpa using hrel j p (by simpa using q))
        cases r' with
        | none => simp at h2
        | some mv =>
          obtain ⟨m', v'⟩ := mv
          obtain ⟨_, _, _, hv, _⟩ := h2
          refine ⟨_, L1 m' v' h1, ?_⟩
          subst h
          cases ok
          · exact hv
          · refine .tup _ _ rfl (fun j p q => ?_)
            match j, p with
            | 0, _ => exact hv
            | 1, _ => exact .bool true
      · rename_i hf
        simp only [Option.some.injEq] at h
        obtain ⟨r', h1, h2⟩ := findK_sound hix htd es ces.toList 0 _ hf (by simpa using hlen) (fun j p q => by simpa using hrel j p (by simpa using q))
        cases r' with
        | some mv => simp at h2
        | none =>
          obtain ⟨zv, hz1, hz2, _⟩ := zeroV_spec hz w
          have hv : VR ι C z zv := by rw [hz2]; exact VR.constZ ι C zv
          refine ⟨_, L2 zv hz1 h1, ?_⟩
          subst h
          cases ok
          · exact hv
          · refine .tup _ _ rfl (fun j p q => ?_)
            match j, p with
            | 0, _ => exact hv
            | 1, _ => exact .bool false
      · cases h
    · cases h
  · cases h

theorem lenV_sound {P : Program} {t : TypeId} {M : Mem} {x v : V} {ι C w c} (ty : TypeId) (ts : Array TypeId) (hts : ts[0]? = some t) (h : lenV P t M x = some v) (hx : VR ι C x c) (hm : MR ι C M w) :
    ∃ r, (Builtin.len_ ts ty #[c]).run P w = .ok r w ∧ VR ι C v r := by
  unfold lenV at h
  unfold Builtin.len_
  simp only [hts]
  split at h
  · rename_i s hk
    simp only [Option.some.injEq] at h; subst h; cases hx
    exact ⟨_, by simp [run_underlying (kd_str hk)]; rfl, .int _ _⟩
  · rename_i n e hk
    simp only [Option.some.injEq] at h; subst h
    obtain ⟨u, hu, _⟩ := kd_array hk
    exact ⟨_, by simp [run_underlying hu]; rfl, .int _ _⟩
  · rename_i e hk
    simp only [Option.some.injEq] at h; subst h; cases hx
    obtain ⟨u, hu, _⟩ := kd_slice hk
    exact ⟨_, by simp [run_underlying hu]; rfl, .int _ _⟩
  · rename_i e i off n sz cap hk
    simp only [Option.some.injEq] at h; subst h; cases hx
    obtain ⟨u, hu, _⟩ := kd_slice hk
    exact ⟨_, by simp [run_underlying hu]; rfl, .int _ _⟩
  · rename_i e cs n cp hk
    simp only [Option.some.injEq] at h; subst h
    obtain ⟨u, hu, _⟩ := kd_slice hk
    cases hx <;> exact ⟨_, by simp [run_underlying hu]; rfl, .int _ _⟩
  · rename_i hk
    simp only [Option.some.injEq] at h; subst h; cases hx
    obtain ⟨a, b, hu, _⟩ := kd_map hk
    exact ⟨_, by simp [run_underlying hu]; rfl, .int _ _⟩
  · rename_i i hk
    split at h
    · rename_i es hM
      simp only [Option.some.injEq] at h; subst h
      obtain ⟨a, b, hu, _⟩ := kd_map hk
      rcases entries_get (M := M) (x := .mapr i) (es := es) (by simp [entriesV, hM]) hx hm with ⟨rfl, rfl⟩ | ⟨r, ces, kk, rfl, hb, hl, hr⟩
      · cases hx
      · refine ⟨.int .i64 es.length, ?_, .int _ _⟩
        simp [run_underlying hu, run_getObj_map hb, goInt, hl]
    · cases h
  · cases h

theorem min_fold {P : Program} {k : IntKind} (ι C) (w : World) : ∀ (l : List V) (cl : List Value) (a : Int) (v : V),
    l.foldlM (fun x y => match x, y with | .int k a, .int _ b => some (.int k (if b < a then b else a)) | _, _ => none) (.int k a) = some v → l.length = cl.length →
    (∀ j (p : j < l.length) (q : j < cl.length), VR ι C l[j] cl[j]) → ∃ r, (cl.foldlM Builtin.min2 (.int k a)).run P w = .ok r w ∧ VR ι C v r
  | [], cl, a, v, h, hl, _ => by
    obtain rfl : cl = [] := by cases cl <;> simp_all
    simp at h; subst h; exact ⟨_, rfl, .int _ _⟩
  | y :: l, [], a, v, h, hl, _ => by simp at hl
  | y :: l, c :: cl, a, v, h, hl, hr => by
    have h0 := hr 0 (by simp) (by simp)
    simp only [List.getElem_cons_zero] at h0
    cases y <;> simp only [List.foldlM_cons] at h <;> try (simp at h; done)
    cases h0
    rename_i kb b
    obtain ⟨r, h1, h2⟩ := min_fold ι C w l cl _ v h (by simpa using hl) (fun j p q => by
      have := hr (j + 1) (by simpa using p) (by simpa using q)
      simpa using this)
    exact ⟨r, by simp only [List.foldlM_cons, Sem.run_bind, Builtin.min2, Sem.run_pure, Result.andThen_ok]; exact h1, h2⟩

theorem max_fold {P : Program} {k : IntKind} (ι C) (w : World) : ∀ (l : List V) (cl : List Value) (a : Int) (v : V),
    l.foldlM (fun x y => match x, y with | .int k a, .int _ b => some (.int k (if b > a then b else a)) | _, _ => none) (.int k a) = some v → l.length = cl.length →
    (∀ j (p : j < l.length) (q : j < cl.length), VR ι C l[j] cl[j]) → ∃ r, (cl.foldlM Builtin.max2 (.int k a)).run P w = .ok r w ∧ VR ι C v r
  | [], cl, a, v, h, hl, _ => by
    obtain rfl : cl = [] := by cases cl <;> simp_all
    simp at h; subst h; exact ⟨_, rfl, .int _ _⟩
  | y :: l, [], a, v, h, hl, _ => by simp at hl
  | y :: l, c :: cl, a, v, h, hl, hr => by
    have h0 := hr 0 (by simp) (by simp)
    simp only [List.getElem_cons_zero] at h0
    cases y <;> simp only [List.foldlM_cons] at h <;> try (simp at h; done)
    cases h0
    rename_i kb b
    obtain ⟨r, h1, h2⟩ := max_fold ι C w l cl _ v h (by simpa using hl) (fun j p q => by
      have := hr (j + 1) (by simpa using p) (by simpa using q)
      simpa using this)
    exact ⟨r, by simp only [List.foldlM_cons, Sem.run_bind, Builtin.max2, Sem.run_pure, Result.andThen_ok]; exact h1, h2⟩

theorem nilCheck_sound {P : Program} {x v : V} {ι C c} (h : nilCheckV x = some v) (hx : VR ι C x c) {ρ' : Operand → Value} (o : Oper) (y : Operand) (ho : o.op = .nilCheck y) (hy : ρ' y = c) (w : World) :
    (execOp ρ' o).run P w = .ok (.value c) w ∧ v = x := by
  unfold execOp
  simp only [ho, hy]
  cases hx <;> simp only [nilCheckV] at h <;> first
    | (simp at h; done)
    | (simp only [Option.some.injEq] at h; exact ⟨rfl, h.symm⟩)
    | (rename_i f l1 l2 a1 a2 _ _ _ _
       cases f <;> simp only [] at h <;> first
         | (simp at h; done)
         | (simp only [Option.some.injEq] at h; exact ⟨rfl, h.symm⟩))
end Go.Ab

/- Each operation of the evaluator is the model's: writes, new blocks, literals. Conditions: none. -/
namespace Go.Ab

def spliceA (c : Array Value) (off : Nat) : List Value → Array Value
  | [] => c
  | v :: l => spliceA (c.setIfInBounds off v) (off + 1) l

theorem spliceA_size : ∀ (l : List Value) (c : Array Value) (off : Nat), (spliceA c off l).size = c.size
  | [], _, _ => rfl
  | v :: l, c, off => by simp [spliceA, spliceA_size l]

theorem spliceA_get : ∀ (l : List Value) (c : Array Value) (off j : Nat), off + l.length ≤ c.size →
    (spliceA c off l)[j]? = if off ≤ j ∧ j < off + l.length then l[j - off]? else c[j]?
  | [], c, off, j, h => by simp [spliceA]; intro h1 h2; omega
  | v :: l, c, off, j, h => by
    simp only [List.length_cons] at h ⊢
    rw [spliceA, spliceA_get l _ _ _ (by simpa using by omega)]
    by_cases h1 : off + 1 ≤ j ∧ j < off + 1 + l.length
    · rw [if_pos h1, if_pos (by omega), show j - off = (j - (off + 1)) + 1 by omega]; simp
    · rw [if_neg h1]
      by_cases h2 : j = off
      · subst h2
        rw [if_pos (by omega), Array.getElem?_setIfInBounds, if_pos rfl, if_pos (by omega)]
        simp
      · rw [if_neg (by omega), Array.getElem?_setIfInBounds]
        rw [if_neg (by omega)]

/-- a heap with one block turned -/
def putBlock (w : World) (b : Nat) (o : Obj) : World := { w with heap := w.heap.setIfInBounds b o }

theorem putBlock_size (w : World) (b : Nat) (o : Obj) : (putBlock w b o).heap.size = w.heap.size := by simp [putBlock]
theorem putBlock_other (w : World) (b : Nat) (o : Obj) (k : Nat) (h : k ≠ b) : (putBlock w b o).heap[k]? = w.heap[k]? := by
  simp [putBlock, Array.getElem?_setIfInBounds, Ne.symm h]
theorem putBlock_same (w : World) (b : Nat) (o : Obj) (h : b < w.heap.size) : (putBlock w b o).heap[b]? = some o := by
  simp [putBlock, Array.getElem?_setIfInBounds, h]
theorem putBlock_put (w : World) (b : Nat) (o o' : Obj) : putBlock (putBlock w b o) b o' = putBlock w b o' := by
  simp [putBlock, Array.setIfInBounds_setIfInBounds]

theorem setCell_put {w : World} {b : Nat} {c : Array Value} {el : TypeId} {fz : Nat × Nat} (h : w.heap[b]? = some (.cells c el fz)) (o : Nat) (v : Value) :
    w.setCell ⟨b, o, none⟩ v = putBlock w b (.cells (c.setIfInBounds o v) el fz) := by
  have hb : b < w.heap.size := (Array.getElem?_eq_some_iff.1 h).1
  have hg : w.heap[b] = .cells c el fz := (Array.getElem?_eq_some_iff.1 h).2
  simp only [World.setCell, putBlock]
  congr 1
  apply Array.ext_getElem?
  intro k
  rw [Array.getElem?_modify, Array.getElem?_setIfInBounds]
  by_cases hk : b = k
  · subst hk; simp [hb, hg]
  · simp [hk]

theorem putBlock_id {w : World} {b : Nat} {o : Obj} (h : w.heap[b]? = some o) : putBlock w b o = w := by
  have hb : b < w.heap.size := (Array.getElem?_eq_some_iff.1 h).1
  have hg : w.heap[b] = o := (Array.getElem?_eq_some_iff.1 h).2
  have e : w.heap.setIfInBounds b o = w.heap := by
    apply Array.ext_getElem?
    intro k
    rw [Array.getElem?_setIfInBounds]
    by_cases hk : b = k
    · subst hk; simp [hb, hg]
    · simp [hk]
  simp only [putBlock, e]

theorem run_store_cell {P : Program} {w : World} {b : Nat} {c : Array Value} {el : TypeId} (h : w.heap[b]? = some (.cells c el (0, 0))) {o : Nat} (ho : o < c.size) {v : Value} (hv : v.oneCell' = true) :
    (store ⟨b, o, none⟩ v).run P w = .ok () (putBlock w b (.cells (c.setIfInBounds o v) el (0, 0))) := by
  rw [run_store P w _ v .plain hv, cell_some h, Array.getElem?_eq_getElem ho]
  simp only []
  rw [if_neg (by simp [World.frozen?, h]), setCell_put h]

theorem run_storeCells {P : Program} {el : TypeId} {b : Nat} : ∀ (l : List Value) (w : World) (c : Array Value) (off i : Nat), w.heap[b]? = some (.cells c el (0, 0)) → off + i + l.length ≤ c.size →
    (∀ v ∈ l, v.oneCell' = true) → (storeCells ⟨b, off, none⟩ l i).run P w = .ok () (putBlock w b (.cells (spliceA c (off + i) l) el (0, 0)))
  | [], w, c, off, i, h, _, _ => by
    simp only [storeCells, Sem.run_pure, spliceA]
    rw [putBlock_id h]
  | v :: l, w, c, off, i, h, hl, hv => by
    simp only [List.length_cons] at hl
    have hb : b < w.heap.size := (Array.getElem?_eq_some_iff.1 h).1
    simp only [storeCells, Sem.run_bind, add_plain ⟨b, off, none⟩ rfl]
    rw [run_store_cell h (show off + i < c.size by omega) (hv v (List.mem_cons_self ..))]
    simp only [Result.andThen_ok]
    rw [run_storeCells l (putBlock w b (.cells (c.setIfInBounds (off + i) v) el (0, 0))) (c.setIfInBounds (off + i) v) off (i + 1) (putBlock_same _ _ _ hb) (by simpa using by omega)
      (fun u hu => hv u (List.mem_cons_of_mem _ hu)), putBlock_put]
    rfl

/-- a value's cells beside the model's -/
theorem VR.cellsR {ι C v c} (h : VR ι C v c) (h1 : v.cells.all V.one = true) : LR ι C v.cells c.cells := by
  cases h with
  | agg l a hl hr => exact ⟨hl, hr⟩
  | bad => simp [V.cells, V.one] at h1
  | tup => simp [V.cells, V.one] at h1
  | bool b => exact ⟨rfl, fun j p q => by (match j, p with | 0, _ => exact .bool b)⟩
  | int k n => exact ⟨rfl, fun j p q => by (match j, p with | 0, _ => exact .int k n)⟩
  | str s => exact ⟨rfl, fun j p q => by (match j, p with | 0, _ => exact .str s)⟩
  | flt k b => exact ⟨rfl, fun j p q => by (match j, p with | 0, _ => exact .flt k b)⟩
  | nilp => exact ⟨rfl, fun j p q => by (match j, p with | 0, _ => exact .nilp)⟩
  | ptr i off pl a x y => exact ⟨rfl, fun j p q => by (match j, p with | 0, _ => exact .ptr i off pl a x y)⟩
  | pptr cs b o g x y z => exact ⟨rfl, fun j p q => by (match j, p with | 0, _ => exact .pptr cs b o g x y z)⟩
  | nils => exact ⟨rfl, fun j p q => by (match j, p with | 0, _ => exact .nils)⟩
  | sl i off len sz cap pl a ccap x1 x2 x3 x4 x5 => exact ⟨rfl, fun j p q => by (match j, p with | 0, _ => exact .sl i off len sz cap pl a ccap x1 x2 x3 x4 x5)⟩
  | psl cs len capped b o ccap g x1 x2 x3 x4 x5 => exact ⟨rfl, fun j p q => by (match j, p with | 0, _ => exact .psl cs len capped b o ccap g x1 x2 x3 x4 x5)⟩
  | psl0 capped a => exact ⟨rfl, fun j p q => by (match j, p with | 0, _ => exact .psl0 capped a)⟩
  | nilm => exact ⟨rfl, fun j p q => by (match j, p with | 0, _ => exact .nilm)⟩
  | mapr i pl r x y => exact ⟨rfl, fun j p q => by (match j, p with | 0, _ => exact .mapr i pl r x y)⟩
  | fn f l1 l2 a1 a2 x1 x2 x3 x4 => exact ⟨rfl, fun j p q => by (match j, p with | 0, _ => exact .fn f l1 l2 a1 a2 x1 x2 x3 x4)⟩
  | nilf => exact ⟨rfl, fun j p q => by (match j, p with | 0, _ => exact .nilf)⟩
  | iface t v c x => exact ⟨rfl, fun j p q => by (match j, p with | 0, _ => exact .iface t v c x)⟩
  | nili => exact ⟨rfl, fun j p q => by (match j, p with | 0, _ => exact .nili)⟩

theorem LR.oneAll {ι C l a} (h : LR ι C l a) (h1 : l.all V.one = true) : ∀ v ∈ a.toList, v.oneCell' = true := by
  intro v hv
  obtain ⟨j, hj, rfl⟩ := List.mem_iff_getElem.1 hv
  simp at hj
  have := h.2 j (by have := h.1; omega) hj
  exact this.one ((List.all_eq_true.1 h1) _ (List.getElem_mem _))

theorem splice_length (cs : List V) (off : Nat) (vs : List V) (h : off + vs.length ≤ cs.length) : (splice cs off vs).length = cs.length := by
  simp [splice]; omega

theorem splice_get (cs : List V) (off : Nat) (vs : List V) (h : off + vs.length ≤ cs.length) (j : Nat) (hj : j < (splice cs off vs).length) :
    (splice cs off vs)[j] = if q : off ≤ j ∧ j < off + vs.length then vs[j - off]'(by omega) else cs[j]'(by rw [splice_length cs off vs h] at hj; exact hj) := by
  rw [splice_length cs off vs h] at hj
  simp only [splice]
  by_cases h1 : j < off
  · rw [dif_neg (by omega), List.getElem_append_left (by simp; omega), List.getElem_append_left (by simp; omega)]; simp
  · by_cases h2 : j < off + vs.length
    · rw [dif_pos (by omega), List.getElem_append_left (by simp; omega), List.getElem_append_right (by simp; omega)]
      congr 1; simp; omega
    · rw [dif_neg (by omega), List.getElem_append_right (by simp; omega)]
      simp
      congr 1; omega

/-- cells written into an object -/
theorem write_obj {ι C M w} (hm : MR ι C M w) {i : Id} {b off r : Nat} {c : Array Value} {el : TypeId} {cs : List V} (hi : ι i = some (.at b off r)) (hM : M i = some (.cells cs))
    (hb : w.heap[b]? = some (.cells c el (0, 0))) (hr : off + r ≤ c.size) (hl : cs.length ≤ r) (h0 : ∀ j (hj : j < cs.length), cs[j].one = true)
    (hv : ∀ j (hj : j < cs.length) (hc : off + j < c.size), VR ι C cs[j] c[off + j]) {vs : List V} {va : Array Value} (hvs : LR ι C vs va) (h1 : vs.all V.one = true) {o : Nat} (ho : o + vs.length ≤ cs.length) (s : Id) :
    MR ι C (M.set i (.cells (splice cs o vs))) (putBlock w b (.cells (spliceA c (off + o) va.toList) el (0, 0))) ∧
      Stp s ι C M w ι C (M.set i (.cells (splice cs o vs))) (putBlock w b (.cells (spliceA c (off + o) va.toList) el (0, 0))) := by
  have hbs : b < w.heap.size := (Array.getElem?_eq_some_iff.1 hb).1
  have hvl : va.toList.length = vs.length := by simp [hvs.1]
  refine hm.change i b off r hi (by rw [hM]; simp) _ _ (putBlock_size _ _ _) (fun k hk => putBlock_other _ _ _ _ hk) rfl rfl rfl ?_ s
  refine .cells _ _ _ _ (spliceA c (off + o) va.toList) el (putBlock_same _ _ _ hbs) (by rw [spliceA_size]; exact hr) (by rw [splice_length _ _ _ ho]; exact hl) (fun j hj => ?_) (fun j hj hc => ?_)
  · rw [splice_get _ _ _ ho]
    split
    · exact (List.all_eq_true.1 h1) _ (List.getElem_mem _)
    · exact h0 _ _
  · rw [splice_length _ _ _ ho] at hj
    have hget := spliceA_get va.toList c (off + o) (off + j) (by omega)
    rw [Array.getElem?_eq_getElem hc] at hget
    rw [splice_get _ _ _ ho]
    by_cases hq : o ≤ j ∧ j < o + vs.length
    · rw [dif_pos hq]
      rw [if_pos (by omega)] at hget
      have e1 : off + j - (off + o) = j - o := by omega
      rw [e1, List.getElem?_eq_getElem (by omega)] at hget
      simp only [Option.some.injEq] at hget
      rw [hget]
      simpa using hvs.2 (j - o) (by omega) (by have := hvs.1; omega)
    · rw [dif_neg hq]
      rw [if_neg (by omega), Array.getElem?_eq_getElem (by omega)] at hget
      simp only [Option.some.injEq] at hget
      rw [hget]
      exact hv j hj (by omega)

theorem storeV_sound {P : Program} {t : TypeId} {M M' : Mem} {x v : V} {ι C w c cv} (h : storeV P t M x v = some M') (hx : VR ι C x c) (hv : VR ι C v cv) (hm : MR ι C M w) (s : Id) :
    ∃ w', (Instr.storeAt t c cv).run P w = .ok () w' ∧ MR ι C M' w' ∧ Stp s ι C M w ι C M' w' := by
  unfold storeV at h
  split at h
  · rename_i i off
    split at h
    · rename_i cs n b hM hs
      split at h
      · rename_i hc
        obtain ⟨hc1, hc2, hc3⟩ := hc
        simp only [Option.some.injEq] at h; subst h
        cases hx with
        | ptr _ _ pl a hi h2 =>
          obtain ⟨b', o', r', rfl, hO⟩ := hm.obj i pl _ hi hM
          obtain rfl := h2 b' o' r' rfl
          cases hO with
          | cells _ _ _ _ arr el hb hr hl h0 hval =>
            have hlr := hv.cellsR hc3
            obtain ⟨g1, g2⟩ := write_obj hm hi hM hb hr hl h0 hval hlr hc3 (o := off) (by omega) s
            refine ⟨_, ?_, g1, g2⟩
            have hsz : cv.cells.size = n := by have := hlr.1; omega
            simp only [Instr.storeAt, Instr.sureAddr, Sem.run_bind, Sem.run_pure, Result.andThen_ok, storeVar, run_sizeOf' hs, hsz, ne_eq, not_true_eq_false, if_false]
            exact run_storeCells cv.cells.toList w arr (o' + off) 0 hb (by simp; have := hlr.1; omega) (hlr.oneAll hc3)
      · cases h
    · cases h
  · cases h

/-- a new object of cells; the block may be longer -/
theorem new_cells {ι C M w} (hm : MR ι C M w) {i : Id} (hi : ι i = none) {cs : List V} {a : Array Value} {el : TypeId} (hl : cs.length ≤ a.size) (h0 : cs.all V.one = true)
    (hv : ∀ j (p : j < cs.length) (q : j < a.size), VR ι C cs[j] a[j]) :
    MR (ι.upd i (.at w.heap.size 0 a.size)) C (M.set i (.cells cs)) (w.alloc (.cells a el)) ∧ Stp i ι C M w (ι.upd i (.at w.heap.size 0 a.size)) C (M.set i (.cells cs)) (w.alloc (.cells a el)) := by
  refine hm.new i hi _ _ _ (fun ι' hdom => ?_)
  refine .cells _ _ _ _ a el ?_ (by omega) hl (fun j hj => (List.all_eq_true.1 h0) _ (List.getElem_mem _)) (fun j hj hc => ?_)
  · show (w.heap.push _)[w.heap.size]? = _
    simp
  · simpa using (hv j hj (by omega)).mono hdom (fun _ _ _ h => h)

theorem new_ptr {ι : Inj} {C : Fro} {w : World} {i : Id} {r : Nat} : VR (ι.upd i (.at w.heap.size 0 r)) C (.ptr i 0) (.pointer (some ⟨w.heap.size, 0, none⟩)) :=
  .ptr i 0 (.at w.heap.size 0 r) _ (by simp [Inj.upd]) (fun b o r e => by cases e; rfl)

theorem absZ_cells (v : Value) : (absZ v).cells.all V.one = true → LR (fun _ => none) (fun _ _ => none) (absZ v).cells v.cells := fun h => (VR.constZ _ _ v).cellsR h

theorem alloc_sound {P : Program} {e : TypeId} {z : V} {M : Mem} {ι C w} {i : Id} (hz : zeroV P e = some z) (h1 : z.cells.all V.one = true) (hm : MR ι C M w) (hi : ι i = none) :
    ∃ c w' ι', (Instr.alloc e true (.tuple #[])).run P w = .ok c w' ∧ VR ι' C (.ptr i 0) c ∧ MR ι' C (M.set i (.cells z.cells)) w' ∧ Stp i ι C M w ι' C (M.set i (.cells z.cells)) w' := by
  obtain ⟨v, hv1, hv2, _⟩ := zeroV_spec hz w
  have hlr : LR ι C z.cells v.cells := by rw [hv2] at h1 ⊢; exact (VR.constZ ι C v).cellsR h1
  obtain ⟨g1, g2⟩ := new_cells (el := e) hm hi (Nat.le_of_eq hlr.1) h1 hlr.2
  refine ⟨_, _, _, ?_, new_ptr, g1, g2⟩
  simp only [Instr.alloc, Sem.run_bind, hv1, Result.andThen_ok, newVar, newRow]
  rfl

theorem box_sound {P : Program} {e : TypeId} {x : V} {c : Value} {M : Mem} {ι C w} {i : Id} (hx : VR ι C x c) (h1 : x.cells.all V.one = true) (hm : MR ι C M w) (hi : ι i = none) :
    ∃ r w' ι', (Instr.box e c).run P w = .ok r w' ∧ VR ι' C (.ptr i 0) r ∧ MR ι' C (M.set i (.cells x.cells)) w' ∧ Stp i ι C M w ι' C (M.set i (.cells x.cells)) w' := by
  have hlr := hx.cellsR h1
  obtain ⟨g1, g2⟩ := new_cells (el := e) hm hi (Nat.le_of_eq hlr.1) h1 hlr.2
  refine ⟨_, _, _, ?_, new_ptr, g1, g2⟩
  simp only [Instr.box, newVar, newRow, Sem.run_bind]
  rfl

/-! literals -/
theorem foldl_fill (off : Nat) : ∀ (l : List Value) (k : Nat) (cs : Array Value), (l.zipIdx k).foldl (fun cs (c, j) => cs.setIfInBounds (off + j) c) cs = spliceA cs (off + k) l
  | [], k, cs => rfl
  | v :: l, k, cs => by
    simp only [List.zipIdx_cons, List.foldl_cons, spliceA]
    rw [foldl_fill off l (k + 1)]
    rfl

theorem fill_sound {ι C} {place : Nat → Option (Nat × Nat)} : ∀ (parts : List (Nat × V)) (cparts : List (Nat × Value)) (cs : List V) (a : Array Value) (r : List V), fillV place cs parts = some r → parts.length = cparts.length →
    (∀ j (p : j < parts.length) (q : j < cparts.length), parts[j].1 = cparts[j].1 ∧ VR ι C parts[j].2 cparts[j].2) → LR ι C cs a → cs.all V.one = true →
    ∃ ra, Instr.fill place a cparts = some ra ∧ LR ι C r ra ∧ r.all V.one = true ∧ r.length = cs.length
  | [], cparts, cs, a, r, h, hl, _, hcs, h1 => by
    obtain rfl : cparts = [] := by cases cparts <;> simp_all
    simp [fillV] at h; subst h
    exact ⟨a, rfl, hcs, h1, rfl⟩
  | (i, v) :: parts, [], _, _, _, _, hl, _, _, _ => by simp at hl
  | (i, v) :: parts, (i', c) :: cparts, cs, a, r, h, hl, hp, hcs, h1 => by
    have hp0 := hp 0 (by simp) (by simp)
    simp only [List.getElem_cons_zero] at hp0
    obtain ⟨rfl, hv⟩ := hp0
    simp only [fillV] at h
    split at h
    · cases h
    · rename_i off size hpl
      split at h
      · rename_i hc
        obtain ⟨hc1, hc2, hc3⟩ := hc
        have hlr := hv.cellsR hc3
        have hla : c.cells.toList.length = size := by simp; have := hlr.1; omega
        have hnext : LR ι C (splice cs off v.cells) (spliceA a off c.cells.toList) := by
          refine ⟨by rw [splice_length _ _ _ (by omega), spliceA_size]; exact hcs.1, fun j p q => ?_⟩
          have hget := spliceA_get c.cells.toList a off j (by have := hcs.1; omega)
          rw [Array.getElem?_eq_getElem q] at hget
          rw [splice_get _ _ _ (by omega)]
          rw [splice_length _ _ _ (by omega)] at p
          by_cases hq : off ≤ j ∧ j < off + v.cells.length
          · rw [dif_pos hq]
            rw [if_pos (by omega), List.getElem?_eq_getElem (by omega)] at hget
            simp only [Option.some.injEq] at hget
            rw [hget]
            simpa using hlr.2 (j - off) (by omega) (by have := hlr.1; omega)
          · rw [dif_neg hq]
            rw [if_neg (by omega), Array.getElem?_eq_getElem (by have := hcs.1; omega)] at hget
            simp only [Option.some.injEq] at hget
            rw [hget]
            exact hcs.2 j p (by have := hcs.1; omega)
        have hone : (splice cs off v.cells).all V.one = true := by
          rw [List.all_eq_true] at h1 hc3 ⊢
          intro x hx
          simp only [splice, List.mem_append] at hx
          rcases hx with (hx | hx) | hx
          · exact h1 x (List.mem_of_mem_take hx)
          · exact hc3 x hx
          · exact h1 x (List.mem_of_mem_drop hx)
        obtain ⟨ra, e1, e2, e3, e4⟩ := fill_sound parts cparts (splice cs off v.cells) (spliceA a off c.cells.toList) r h (by simpa using hl) (fun j p q => by
          have := hp (j + 1) (by simpa using p) (by simpa using q)
          simpa using this) hnext hone
        refine ⟨ra, ?_, e2, e3, by rw [e4, splice_length _ _ _ (by omega)]⟩
        simp only [Instr.fill, hpl]
        rw [if_neg (by have := hlr.1; have := hcs.1; simp; omega)]
        rw [← e1]
        congr 1
        rw [← Array.foldl_toList, Array.toList_zipIdx, foldl_fill off c.cells.toList 0 a]
        rfl
      · cases h

theorem parts_rel {ρ : Operand → V} {ρ' : Operand → Value} {ι C} (hρ : ∀ x, VR ι C (ρ x) (ρ' x)) (ps : Array (Nat × Operand)) (l1 : List (Nat × V)) (l2 : List (Nat × Value))
    (e1 : l1 = ps.toList.map fun (n, x) => (n, ρ x)) (e2 : l2 = (ps.map fun (i, x) => (i, ρ' x)).toList) :
    l1.length = l2.length ∧ ∀ j (p : j < l1.length) (q : j < l2.length), l1[j].1 = l2[j].1 ∧ VR ι C l1[j].2 l2[j].2 := by
  subst e1; subst e2
  exact ⟨by simp, fun j p q => by simp; exact hρ _⟩
end Go.Ab

/- Each operation of the evaluator is the model's: literals, maps written, append. Conditions: none. -/
namespace Go.Ab

theorem run_mapM_list {α β : Type} {P : Program} {w : World} (f : α → Sem β) (g : α → β) : ∀ (l : List α), (∀ x ∈ l, (f x).run P w = .ok (g x) w) → (l.mapM f).run P w = .ok (l.map g) w
  | [], _ => by simp
  | x :: l, h => by
    simp only [List.mapM_cons, Sem.run_bind, h x (List.mem_cons_self ..), Result.andThen_ok, run_mapM_list f g l (fun y hy => h y (List.mem_cons_of_mem _ hy)), Sem.run_pure, List.map_cons]

theorem run_mapM_arr {α β : Type} {P : Program} {w : World} (f : α → Sem β) (g : α → β) (a : Array α) (h : ∀ x ∈ a.toList, (f x).run P w = .ok (g x) w) : (a.mapM f).run P w = .ok (a.map g) w := by
  rw [Array.mapM_eq_mapM_toList]
  rw [Sem.run_map, run_mapM_list f g a.toList h]
  simp only [Result.andThen_ok]
  congr 1
  apply Array.ext'
  simp

theorem buildV_sound {P : Program} {t : TypeId} {ps : Array (Nat × Operand)} {ρ : Operand → V} {ρ' : Operand → Value} {v : V} {ι C} (hρ : ∀ x, VR ι C (ρ x) (ρ' x))
    (h : buildV P t (ps.toList.map fun (n, x) => (n, ρ x)) = some v) (w : World) : ∃ r, (Instr.build t (ps.map fun (i, x) => (i, ρ' x))).run P w = .ok r w ∧ VR ι C v r := by
  obtain ⟨hl, hp⟩ := parts_rel hρ ps _ _ rfl rfl
  unfold buildV at h
  split at h
  · rename_i fs fl z hk hz
    obtain ⟨a, hu, hlen, _, hf⟩ := kd_struct hk
    obtain ⟨zv, hz1, hz2, _⟩ := zeroV_spec hz w
    simp only [Option.map_eq_some_iff] at h
    obtain ⟨r, hr, rfl⟩ := h
    split at hr
    · rename_i hone
      have hlr : LR ι C z.cells zv.cells := by rw [hz2] at hone ⊢; exact (VR.constZ ι C zv).cellsR hone
      have hpl : (fun (i : Nat) => (fs[i]?).map fun (f : Ft) => (f.off, f.size)) = fun (i : Nat) => ((a.map fun f => (f.offset, P.cellsOf f.type))[i]?) := by
        funext i
        simp only [Array.getElem?_map]
        by_cases hi : i < a.size
        · obtain ⟨e1, e2⟩ := hf i hi (by omega)
          obtain ⟨inf, d, g1, g2, _⟩ := szOf_info e2
          rw [List.getElem?_eq_getElem (by omega), Array.getElem?_eq_getElem hi]
          simp [e1, Program.cellsOf, g1, g2]
        · rw [List.getElem?_eq_none (by omega), Array.getElem?_eq_none (by omega)]; rfl
      rw [hpl] at hr
      obtain ⟨ra, e1, e2, e3, e4⟩ := fill_sound _ _ _ _ _ hr hl hp hlr hone
      refine ⟨.agg ra, ?_, .agg _ _ e2.1 e2.2⟩
      unfold Instr.build
      simp only [Sem.run_bind, hz1, Result.andThen_ok, run_underlying hu]
      rw [run_mapM_arr (P := P) (w := w) _ (fun f => (f.offset, P.cellsOf f.type)) a (fun f hfm => by
        obtain ⟨j, hj, rfl⟩ := List.mem_iff_getElem.1 hfm
        simp at hj
        obtain ⟨_, g⟩ := hf j hj (by omega)
        obtain ⟨inf, d, g1, g2, _⟩ := szOf_info g
        simp [run_sizeOf' g, Program.cellsOf, g1, g2])]
      simp only [Result.andThen_ok, e1]
      rfl
    · cases hr
  · rename_i n e z hk hz
    obtain ⟨u, hu, he⟩ := kd_array hk
    obtain ⟨hs, _⟩ := elOf_spec he
    obtain ⟨zv, hz1, hz2, _⟩ := zeroV_spec hz w
    simp only [Option.map_eq_some_iff] at h
    obtain ⟨r, hr, rfl⟩ := h
    split at hr
    · rename_i hone
      have hlr : LR ι C z.cells zv.cells := by rw [hz2] at hone ⊢; exact (VR.constZ ι C zv).cellsR hone
      obtain ⟨ra, e1, e2, e3, e4⟩ := fill_sound _ _ _ _ _ hr hl hp hlr hone
      refine ⟨.agg ra, ?_, .agg _ _ e2.1 e2.2⟩
      unfold Instr.build
      simp only [Sem.run_bind, hz1, Result.andThen_ok, run_underlying hu, run_sizeOf' hs, e1]
      rfl
    · cases hr
  · cases h

theorem repeatV_length (z : List V) : ∀ n, (repeatV z n).length = n * z.length
  | 0 => by simp [repeatV]
  | n + 1 => by simp [repeatV, repeatV_length z n, Nat.add_mul]; omega

theorem repeatV_get (z : List V) : ∀ (n j : Nat) (h : j < (repeatV z n).length) (h' : j % z.length < z.length), (repeatV z n)[j] = z[j % z.length]
  | 0, j, h, _ => by simp [repeatV] at h
  | n + 1, j, h, h' => by
    simp only [repeatV]
    by_cases hj : j < z.length
    · rw [List.getElem_append_left hj]
      congr 1
      exact (Nat.mod_eq_of_lt hj).symm
    · rw [List.getElem_append_right (by omega)]
      have hm : (j - z.length) % z.length = j % z.length := by
        rw [← Nat.mod_eq_sub_mod (by omega)]
      rw [repeatV_get z n (j - z.length) _ (by rw [hm]; exact h')]
      simp only [hm]

theorem repeatV_one (z : List V) (h : z.all V.one = true) : ∀ n, (repeatV z n).all V.one = true
  | 0 => rfl
  | n + 1 => by simp only [repeatV, List.all_append, h, repeatV_one z h n, Bool.and_self]

theorem buildSliceV_sound {P : Program} {t : TypeId} {len : Nat} {ps : Array (Nat × Operand)} {ρ : Operand → V} {ρ' : Operand → Value} {v : V} {M M' : Mem} {ι C w} {i : Id} (hρ : ∀ x, VR ι C (ρ x) (ρ' x))
    (h : buildSliceV P t len (ps.toList.map fun (n, x) => (n, ρ x)) i M = some (v, M')) (hm : MR ι C M w) (hi : ι i = none) :
    ∃ r w' ι', (Instr.buildSlice t len (ps.map fun (i, x) => (i, ρ' x))).run P w = .ok r w' ∧ VR ι' C v r ∧ MR ι' C M' w' ∧ Stp i ι C M w ι' C M' w' := by
  obtain ⟨hl, hp⟩ := parts_rel hρ ps _ _ rfl rfl
  unfold buildSliceV at h
  split at h
  · rename_i e hk
    obtain ⟨u, hu, he⟩ := kd_slice hk
    obtain ⟨hs, _, _, hpos, hzl, hz1, ⟨z, hz, hzc⟩, _⟩ := elOf_spec he
    obtain ⟨zv, hzv1, hzv2, _⟩ := zeroV_spec hz w
    have hone : z.cells.all V.one = true := by rw [hzc]; exact hz1
    have hlr : LR ι C z.cells zv.cells := by rw [hzv2] at hone ⊢; exact (VR.constZ ι C zv).cellsR hone
    have hzs : zv.cells.size = e.size := by have := hlr.1; rw [hzc, hzl] at this; exact this.symm
    split at h
    · rename_i hlim
      simp only [Option.map_eq_some_iff] at h
      obtain ⟨r, hr, h2⟩ := h
      simp only [Prod.mk.injEq] at h2
      obtain ⟨rfl, rfl⟩ := h2
      have hstart : LR ι C (repeatV e.zero len) ((Array.range (len * e.size)).map fun k => (if len * e.size = 0 then #[] else zv.cells : Array Value)[k % (if len * e.size = 0 then #[] else zv.cells : Array Value).size]!) := by
        refine ⟨by rw [repeatV_length, hzl]; simp, fun j p q => ?_⟩
        rw [repeatV_length, hzl] at p
        have hne : len * e.size ≠ 0 := by omega
        simp only [hne, if_false, Array.getElem_map, Array.getElem_range]
        have hmod : j % zv.cells.size < zv.cells.size := Nat.mod_lt _ (by omega)
        have hmod' : j % e.zero.length < e.zero.length := Nat.mod_lt _ (by omega)
        rw [repeatV_get _ _ _ _ hmod']
        have := hlr.2 (j % e.size) (by rw [hzc, hzl]; exact Nat.mod_lt _ (by omega)) (by rw [hzs]; exact Nat.mod_lt _ (by omega))
        simp only [hzc] at this
        rw [getElem!_pos zv.cells _ hmod]
        simpa only [hzl, hzs] using this
      obtain ⟨ra, e1, e2, e3, e4⟩ := fill_sound _ _ _ _ _ hr hl hp hstart (repeatV_one _ hz1 len)
      obtain ⟨g1, g2⟩ := new_cells (el := u) hm hi (Nat.le_of_eq e2.1) e3 e2.2
      have hrl : r.length = len * e.size := by rw [e4, repeatV_length, hzl]
      refine ⟨.slice (some ⟨w.heap.size, 0, none⟩) len len, _, _, ?_, ?_, g1, g2⟩
      · unfold Instr.buildSlice
        simp only [Sem.run_bind, run_underlying hu, Result.andThen_ok, run_sizeOf' hs]
        rw [if_neg (by omega)]
        by_cases hz0 : len * e.size = 0
        · simp only [hz0, if_true] at e1
          simp only [hz0, if_true, Sem.run_pure, Result.andThen_ok, e1, newRow, Sem.run_bind]
          rfl
        · simp only [hz0, if_false] at e1
          simp only [hz0, if_false, Sem.run_bind, hzv1, Sem.run_pure, Result.andThen_ok, e1, newRow]
          rfl
      · refine .sl i 0 len e.size (some len) (.at w.heap.size 0 ra.size) _ len (by simp [Inj.upd]) (Nat.le_refl _) (fun c hc => by cases hc; rfl) rfl (fun b o r' e' => ?_)
        cases e'
        exact ⟨fun _ => rfl, by have := e2.1; omega, fun q => by cases q⟩
    · cases h
  · cases h

theorem born_map (ces : Array MapEntry) (n : Nat) (ck cv : Value) : ((ces.modify n fun e => { e with key := ck, val := cv }).toList.map (·.born)) = ces.toList.map (·.born) := by
  apply List.ext_getElem (by simp)
  intro j p q
  simp only [List.length_map, Array.length_toList, Array.size_modify] at p
  simp only [List.getElem_map, Array.getElem_toList, Array.getElem_modify]
  split <;> rfl
theorem born_modify {ces : Array MapEntry} {k : Nat} (h : Born ces k) (n : Nat) (ck cv : Value) : Born (ces.modify n fun e => { e with key := ck, val := cv }) k := by
  have e := born_map ces n ck cv
  refine ⟨fun x hx => ?_, by rw [e]; exact h.2⟩
  have : x.born ∈ ces.toList.map (·.born) := by rw [← e]; exact List.mem_map_of_mem hx
  obtain ⟨y, hy, e2⟩ := List.mem_map.1 this
  rw [← e2]; exact h.1 y hy
theorem born_push {ces : Array MapEntry} {k : Nat} (h : Born ces k) (ck cv : Value) : Born (ces.push { key := ck, val := cv, born := k }) (k + 1) := by
  refine ⟨fun x hx => ?_, ?_⟩
  · rw [Array.toList_push, List.mem_append] at hx
    rcases hx with q | q
    · have := h.1 x q; omega
    · rw [List.mem_singleton.1 q]; simp
  · rw [Array.toList_push, List.map_append, List.nodup_append]
    refine ⟨h.2, by simp, ?_⟩
    intro a ha b hb
    obtain ⟨y, hy, rfl⟩ := List.mem_map.1 ha
    simp only [List.map_cons, List.map_nil, List.mem_singleton] at hb
    have := h.1 y hy
    omega

theorem makeMap_sound {P : Program} {t : TypeId} {M : Mem} {ι C w} {i : Id} (hm : MR ι C M w) (hi : ι i = none) :
    ∃ r w' ι', (Instr.makeMap t none).run P w = .ok r w' ∧ VR ι' C (.mapr i) r ∧ MR ι' C (M.set i (.map [])) w' ∧ Stp i ι C M w ι' C (M.set i (.map [])) w' := by
  obtain ⟨g1, g2⟩ := hm.new i hi (.map []) (.map #[] 0) 0 (fun ι' _ => .map [] _ _ _ #[] 0 (by show (w.heap.push _)[w.heap.size]? = _; simp) ⟨by simp, by simp⟩ rfl (fun j p _ => absurd p (by simp)))
  exact ⟨.map (some w.heap.size), _, _, rfl, .mapr i (.at w.heap.size 0 0) _ (by simp [Inj.upd]) (fun b o r e => by cases e; rfl), g1, g2⟩

theorem map_change {ι C M w} (hm : MR ι C M w) {i : Id} {b off r : Nat} (hi : ι i = some (.at b off r)) (hM : M i ≠ none) {k : Nat} {ces0 : Array MapEntry} (hb : w.heap[b]? = some (.map ces0 k)) (es : List (V × V)) (ces : Array MapEntry) (k' : Nat)
    (hs : Born ces k') (hl : es.length = ces.size) (hr : ∀ j (p : j < es.length) (q : j < ces.size), VR ι C es[j].1 ces[j].key ∧ VR ι C es[j].2 ces[j].val) (s : Id) :
    MR ι C (M.set i (.map es)) (putBlock w b (.map ces k')) ∧ Stp s ι C M w ι C (M.set i (.map es)) (putBlock w b (.map ces k')) :=
  hm.change i b off r hi hM _ _ (putBlock_size _ _ _) (fun k hk => putBlock_other _ _ _ _ hk) rfl rfl rfl
    (.map es b off r ces k' (putBlock_same _ _ _ (Array.getElem?_eq_some_iff.1 hb).1) hs hl hr) s

theorem run_setObj_map {P : Program} {w : World} {r : Nat} {ces : Array MapEntry} {k : Nat} (h : w.heap[r]? = some (.map ces k)) (o : Obj) : (setObj r o).run P w = .ok () (putBlock w r o) := by
  simp [setObj, Sem.run, h, putBlock]

theorem bytes_beq {a b : ByteArray} (h : (a == b) = true) : a = b := by
  cases a; cases b
  simp only [BEq.beq, ByteArray.beq] at h
  congr 1
  exact Array.eq_of_isEqv _ _ h

theorem bytes_refl (a : ByteArray) : (a == a) = true := by
  cases a
  simp only [BEq.beq, ByteArray.beq]
  exact Array.isEqv_self _

theorem sameBits_key {k : Kk} {x y : V} {ι C c d} (h : sameKey k x y = some true) (hx : VR ι C x c) (hy : VR ι C y d) : Instr.sameBits 10000 d c = true := by
  cases k <;> cases hx <;> try (simp [sameKey] at h; done)
  all_goals cases hy <;> try (simp [sameKey] at h; done)
  · simp [sameKey] at h; subst h; simp [Instr.sameBits]
  · simp [sameKey] at h; obtain ⟨rfl, rfl⟩ := h; simp [Instr.sameBits]
  · simp only [sameKey, Option.some.injEq] at h; obtain rfl := bytes_beq h; simp [Instr.sameBits, bytes_refl]

theorem mapUpdateV_sound {P : Program} {t : TypeId} {M M' : Mem} {x kv v : V} {ι C w c ck cv} (h : mapUpdateV P t M x kv v = some M') (hx : VR ι C x c) (hk : VR ι C kv ck) (hv : VR ι C v cv) (hm : MR ι C M w) (s : Id) :
    ∃ w', (Instr.mapUpdate t c ck cv).run P w = .ok () w' ∧ MR ι C M' w' ∧ Stp s ι C M w ι C M' w' := by
  unfold mapUpdateV at h
  split at h
  · rename_i kk z i hkd
    obtain ⟨a, b, hu, ha, _⟩ := kd_map hkd
    obtain ⟨td, hua, htd⟩ := keyT_desc ha
    split at h
    · rename_i es hM
      split at h
      · rename_i hkey
        have hck : (Instr.checkKey false 10000 a ck).run P w = .ok () w := isKey_check (P := P) hk hkey ha false w 9999
        cases hx with
        | mapr _ pl r hi h2 =>
          obtain ⟨b', o', r', rfl, hO⟩ := hm.obj i pl _ hi hM
          obtain rfl := h2 b' o' r' rfl
          cases hO with
          | map _ _ _ _ ces kc hb hst hl hr =>
            split at h
            · rename_i n vv hf
              simp only [Option.some.injEq] at h; subst h
              obtain ⟨q, h1, h3⟩ := findK_sound hk htd es ces.toList 0 _ hf (by simpa using hl) (fun j p q => by simpa using hr j p (by simpa using q))
              cases q with
              | none => simp at h3
              | some mv =>
                obtain ⟨m', v'⟩ := mv
                obtain ⟨rfl, _, hlt, _, hsame⟩ := h3
                simp only [Nat.zero_add] at hlt
                have hn : n < ces.size := by omega
                obtain ⟨e1, e2, e3⟩ := hsame (by simpa using hn) (by simpa using hlt)
                simp only [Nat.sub_zero] at e1 e2 e3
                have hbits : Instr.sameBits 10000 ces[n].key ck = true := sameBits_key e3 hk (hr n hlt hn).1
                obtain ⟨g1, g2⟩ := map_change hm hi (by rw [hM]; simp) hb (es.set n (kv, v)) (ces.modify n fun e => { e with key := ck, val := cv }) kc (born_modify hst _ _ _) (by simpa using hl) (fun j p q => by
                  simp only [List.length_set, Array.size_modify] at p q
                  rw [List.getElem_set, Array.getElem_modify]
                  by_cases hj : n = j
                  · simp only [hj, if_true]; exact ⟨hk, hv⟩
                  · simp only [hj, if_false]; exact hr j p q) s
                refine ⟨_, ?_, g1, g2⟩
                unfold Instr.mapUpdate
                simp only [Sem.run_bind, run_underlying hu, Result.andThen_ok, run_getObj_map hb, hck, findKey_run hua h1 w, Array.getElem?_eq_getElem hn, Option.map_some, Option.getD_some, Instr.keyThatStays, hbits, if_true, Sem.run_pure]
                exact run_setObj_map hb _
            · rename_i hf
              simp only [Option.some.injEq] at h; subst h
              obtain ⟨q, h1, h3⟩ := findK_sound hk htd es ces.toList 0 _ hf (by simpa using hl) (fun j p q => by simpa using hr j p (by simpa using q))
              cases q with
              | some mv => simp at h3
              | none =>
                obtain ⟨g1, g2⟩ := map_change hm hi (by rw [hM]; simp) hb (es ++ [(kv, v)]) (ces.push { key := ck, val := cv, born := kc }) (kc + 1) (born_push hst _ _) (by simp [hl]) (fun j p q => by
                  simp only [List.length_append, List.length_singleton, Array.size_push] at p q
                  rw [Array.getElem_push]
                  by_cases hj : j < es.length
                  · rw [List.getElem_append_left hj]
                    rw [dif_pos (by omega)]
                    exact hr j hj (by omega)
                  · rw [List.getElem_append_right (by omega), dif_neg (by omega)]
                    simp only [show j - es.length = 0 by omega, List.getElem_cons_zero]
                    exact ⟨hk, hv⟩) s
                refine ⟨_, ?_, g1, g2⟩
                unfold Instr.mapUpdate
                simp only [Sem.run_bind, run_underlying hu, Result.andThen_ok, run_getObj_map hb, hck, findKey_run hua h1 w]
                exact run_setObj_map hb _
            · cases h
      · cases h
    · cases h
  · cases h

theorem clearS_sound {P : Program} {t : TypeId} {ts : Array TypeId} {ty : TypeId} {M M' : Mem} {j : Id} {off len sz : Nat} {cap : Option Nat} {v : V} {ι C w c} (hts : ts[0]? = some t) (h : clearSV P t j off len sz M = some (v, M')) (hx : VR ι C (.sl j off len sz cap) c) (hm : MR ι C M w) (s : Id) :
    ∃ w', (Builtin.clear_ ts ty #[c]).run P w = .ok (.tuple #[]) w' ∧ v = .tup [] ∧ MR ι C M' w' ∧ Stp s ι C M w ι C M' w' := by
  unfold clearSV at h
  split at h
  · rename_i e cs hk hM
    obtain ⟨u, hu, he⟩ := kd_slice hk
    obtain ⟨hs, _, _, hpos, hzl, hz1, ⟨z, hz, hzc⟩, _⟩ := elOf_spec he
    obtain ⟨zv, hzv1, hzv2, _⟩ := zeroV_spec hz w
    have hone : z.cells.all V.one = true := by rw [hzc]; exact hz1
    have hlr : LR ι C z.cells zv.cells := by rw [hzv2] at hone ⊢; exact (VR.constZ ι C zv).cellsR hone
    have hzs : zv.cells.size = e.size := by have := hlr.1; rw [hzc, hzl] at this; exact this.symm
    split at h
    · rename_i hc
      obtain ⟨rfl, hle⟩ := hc
      simp only [Option.some.injEq, Prod.mk.injEq] at h
      obtain ⟨rfl, rfl⟩ := h
      have hstart : LR ι C (repeatV e.zero len) (Builtin.zeroCells zv.cells len) := by
        refine ⟨by rw [repeatV_length, hzl]; simp [Builtin.zeroCells, hzs], fun j p q => ?_⟩
        rw [repeatV_length, hzl] at p
        simp only [Builtin.zeroCells, Array.getElem_map, Array.getElem_range]
        have hmod : j % zv.cells.size < zv.cells.size := Nat.mod_lt _ (by omega)
        have hmod' : j % e.zero.length < e.zero.length := Nat.mod_lt _ (by omega)
        rw [repeatV_get _ _ _ _ hmod']
        have := hlr.2 (j % e.size) (by rw [hzc, hzl]; exact Nat.mod_lt _ (by omega)) (by rw [hzs]; exact Nat.mod_lt _ (by omega))
        simp only [hzc] at this
        rw [getElem!_pos zv.cells _ hmod]
        simpa only [hzl, hzs] using this
      cases hx with
      | sl _ _ _ _ _ pl a ccap hij hlc hcp hsp h2 =>
        obtain ⟨b, o, r, rfl, hO⟩ := hm.obj j pl _ hij hM
        obtain ⟨ha2, hroom, _⟩ := h2 b o r rfl
        cases hO with
        | cells _ _ _ _ arr el hbk hr hl' hone' hval =>
          obtain ⟨g1, g2⟩ := write_obj hm hij hM hbk hr hl' hone' hval hstart (repeatV_one _ hz1 len) (o := off) (by rw [repeatV_length, hzl]; exact hle) s
          by_cases h0 : len = 0
          · subst h0
            have e0 : (Builtin.zeroCells zv.cells 0).toList = [] := by simp [Builtin.zeroCells]
            simp only [e0, spliceA, putBlock_id hbk] at g1 g2
            refine ⟨_, ?_, rfl, g1, g2⟩
            unfold Builtin.clear_
            simp only [hts, Sem.run_bind, run_underlying hu, Result.andThen_ok]
            simp [run_underlying hu]
          · refine ⟨_, ?_, rfl, g1, g2⟩
            unfold Builtin.clear_
            simp only [hts, Sem.run_bind, run_underlying hu, Result.andThen_ok]
            obtain rfl := ha2 (by omega)
            have hst := run_storeCells (P := P) (Builtin.zeroCells zv.cells len).toList w arr (o + off) 0 hbk (by
              have := hstart.1; rw [repeatV_length, hzl] at this
              simp only [Array.length_toList]; omega) (hstart.oneAll (repeatV_one _ hz1 len))
            simp only [Nat.add_zero] at hst
            obtain ⟨n, rfl⟩ : ∃ n, len = n + 1 := ⟨len - 1, by omega⟩
            simp [hu, run_underlying hu, hzv1, hst]
    · cases h
  · cases h

theorem clear_sound {P : Program} {t : TypeId} {ts : Array TypeId} {ty : TypeId} {M : Mem} {i : Id} {es : List (V × V)} {k : Kk} {z : V} {ι C w c} (hts : ts[0]? = some t) (hk : kd P t = some (.map k z)) (hM : M i = some (.map es)) (hx : VR ι C (.mapr i) c) (hm : MR ι C M w) (s : Id) :
    ∃ w', (Builtin.clear_ ts ty #[c]).run P w = .ok (.tuple #[]) w' ∧ MR ι C (M.set i (.map [])) w' ∧ Stp s ι C M w ι C (M.set i (.map [])) w' := by
  obtain ⟨a, b, hu, ha, _⟩ := kd_map hk
  cases hx with
  | mapr _ pl r hi h2 =>
    obtain ⟨b', o', r', rfl, hO⟩ := hm.obj i pl _ hi hM
    obtain rfl := h2 b' o' r' rfl
    cases hO with
    | map _ _ _ _ ces kc hb hst hl hr =>
      obtain ⟨g1, g2⟩ := map_change hm hi (by rw [hM]; simp) hb [] #[] kc ⟨by simp, by simp⟩ rfl (fun j p _ => absurd p (by simp)) s
      refine ⟨_, ?_, g1, g2⟩
      unfold Builtin.clear_
      simp only [hts, Sem.run_bind, run_underlying hu, Result.andThen_ok, run_getObj_map hb, run_setObj_map hb]
      simp [run_underlying hu, run_getObj_map hb, run_setObj_map hb]
end Go.Ab

/- Each operation of the evaluator is the model's: append. Conditions: none. -/
namespace Go.Ab

/-- an object goes -/
theorem MR.kill {ι C M w} (h : MR ι C M w) (j : Id) (hj : ι j ≠ none) (hMj : M j ≠ none) (s : Id) : MR (ι.upd j .dead) C (M.del j) w ∧ Stp s ι C M w (ι.upd j .dead) C (M.del j) w := by
  have hdom : ∀ i pl, ι i = some pl → ι.upd j .dead i = some pl ∨ ι.upd j .dead i = some .dead := by
    intro i pl e; unfold Inj.upd; split
    · exact .inr rfl
    · exact .inl e
  have hback : ∀ i b o r, ι.upd j .dead i = some (.at b o r) → ι i = some (.at b o r) := by
    intro i b o r e; unfold Inj.upd at e; split at e
    · cases e
    · exact e
  refine ⟨⟨fun i b o r e => h.bound i b o r (hback i b o r e), fun i k b o r o' r' e1 e2 => h.inj i k b o r o' r' (hback _ _ _ _ e1) (hback _ _ _ _ e2), ?_, ?_⟩,
    ⟨hdom, ?_, fun _ _ _ h => h, fun i b o r e => .inl (hback i b o r e), ?_, fun i pl e e' => by (unfold Inj.upd; rw [if_neg (by rintro rfl; exact hMj e')]; exact e), fun _ _ _ => rfl, Nat.le_refl _, rfl, rfl, rfl⟩⟩
  · intro i pl o e1 e2
    unfold Mem.del at e2
    split at e2
    · cases e2
    · rename_i hne
      unfold Inj.upd at e1
      rw [if_neg hne] at e1
      obtain ⟨b, off, r, rfl, hO⟩ := h.obj i pl o e1 e2
      exact ⟨b, off, r, rfl, hO.mono rfl hdom (fun _ _ _ h => h)⟩
  · intro b o x e
    exact ⟨(h.fro b o x e).1, fun i o' r e' => (h.fro b o x e).2 i o' r (hback i b o' r e')⟩
  · intro i e e'
    unfold Inj.upd at e'
    split at e'
    · subst i; exact absurd e hj
    · exact absurd e e'
  · intro i e e'
    unfold Mem.del
    split
    · rfl
    · exact e'

/-- an object's block goes to another one -/
theorem MR.renew {ι C M w} (h : MR ι C M w) {i j : Id} (hi : ι i = none) {b o r : Nat} (hj : ι j = some (.at b o r)) (hM : M j ≠ none) {ob : AObj} {o2 r2 : Nat} {w' : World}
    (hsz : w'.heap.size = w.heap.size) (hold : ∀ b', b' ≠ b → w'.heap[b']? = w.heap[b']?) (e1 : w'.os = w.os) (e2 : w'.tape = w.tape) (e3 : w'.output = w.output)
    (hO : ∀ ι' : Inj, (∀ j pl, ι j = some pl → ι' j = some pl ∨ ι' j = some .dead) → ObjR ι' C w' ob b o2 r2) :
    MR ((ι.upd j .dead).upd i (.at b o2 r2)) C ((M.del j).set i ob) w' ∧ Stp i ι C M w ((ι.upd j .dead).upd i (.at b o2 r2)) C ((M.del j).set i ob) w' := by
  have hij : i ≠ j := by rintro rfl; rw [hi] at hj; cases hj
  have hdom : ∀ k pl, ι k = some pl → ((ι.upd j .dead).upd i (.at b o2 r2)) k = some pl ∨ ((ι.upd j .dead).upd i (.at b o2 r2)) k = some .dead := by
    intro k pl e; unfold Inj.upd
    split
    · rename_i hk; subst k; rw [hi] at e; cases e
    · split
      · exact .inr rfl
      · exact .inl e
  have hback : ∀ k b' o' r', ((ι.upd j .dead).upd i (.at b o2 r2)) k = some (.at b' o' r') → (k = i ∧ b' = b ∧ o' = o2 ∧ r' = r2) ∨ (k ≠ i ∧ k ≠ j ∧ ι k = some (.at b' o' r')) := by
    intro k b' o' r' e; unfold Inj.upd at e
    split at e
    · cases e; exact .inl ⟨‹_›, rfl, rfl, rfl⟩
    · split at e
      · cases e
      · exact .inr ⟨‹_›, ‹_›, e⟩
  refine ⟨⟨?_, ?_, ?_, ?_⟩, ⟨hdom, ?_, fun _ _ _ h => h, ?_, ?_, fun k pl e e' => ?_, ?_, by omega, e1, e2, e3⟩⟩
  · intro k b' o' r' e
    rcases hback k b' o' r' e with ⟨_, rfl, _, _⟩ | ⟨_, _, e⟩
    · rw [hsz]; exact h.bound j _ _ _ hj
    · rw [hsz]; exact h.bound k _ _ _ e
  · intro k l b' o1 r1 o3 r3 ek el
    rcases hback k _ _ _ ek with ⟨p1, p2, _, _⟩ | ⟨hk1, hk2, ek'⟩ <;> rcases hback l _ _ _ el with ⟨q1, q2, _, _⟩ | ⟨hl1, hl2, el'⟩
    · rw [p1, q1]
    · rw [p2] at el'; exact absurd (h.inj l j _ _ _ _ _ el' hj) hl2
    · rw [q2] at ek'; exact absurd (h.inj k j _ _ _ _ _ ek' hj) hk2
    · exact h.inj k l _ _ _ _ _ ek' el'
  · intro k pl ob' ek em
    unfold Mem.set Mem.del at em
    split at em
    · rename_i hk; subst k; cases em
      have : pl = .at b o2 r2 := by unfold Inj.upd at ek; simp at ek; exact ek.symm
      subst this
      exact ⟨_, _, _, rfl, hO _ hdom⟩
    · rename_i hk
      split at em
      · cases em
      · rename_i hk2
        have ek' : ι k = some pl := by unfold Inj.upd at ek; simpa [hk, hk2] using ek
        obtain ⟨b', off, r', rfl, hO'⟩ := h.obj k pl ob' ek' em
        refine ⟨b', off, r', rfl, hO'.mono (hold b' ?_) hdom (fun _ _ _ h => h)⟩
        rintro rfl
        exact hk2 (h.inj k j _ _ _ _ _ ek' hj)
  · intro b' o' x e
    obtain ⟨g1, g2⟩ := h.fro b' o' x e
    have hne : b' ≠ b := by rintro rfl; exact g2 j o r hj
    refine ⟨by simpa only [World.cell?, hold b' hne] using g1, fun k o3 r3 ek => ?_⟩
    rcases hback k _ _ _ ek with ⟨_, hb, _, _⟩ | ⟨_, _, ek⟩
    · exact hne hb
    · exact g2 k o3 r3 ek
  · intro k e e'
    unfold Inj.upd at e'
    split at e'
    · subst k; exact List.suffix_refl _
    · split at e'
      · subst k; rw [hj] at e; cases e
      · exact absurd e e'
  · intro k b' o' r' e
    rcases hback k _ _ _ e with ⟨_, rfl, _, _⟩ | ⟨_, _, e⟩
    · exact .inr (.inr ⟨j, o, r, hj, hM⟩)
    · exact .inl e
  · intro k e e'
    unfold Mem.set Mem.del
    split
    · subst k; exact absurd hi e
    · split
      · rfl
      · exact e'
  · unfold Inj.upd
    rw [if_neg (by rintro rfl; rw [hi] at e; cases e), if_neg (by rintro rfl; exact hM e')]; exact e
  · intro b' hb' hf
    refine hold b' ?_
    rintro rfl
    exact hM (hf j o r hj)

/-- a value's cells as what is put behind -/
theorem srcV_sound {P : Program} {sz : Nat} {M : Mem} {x : V} {n : Nat} {new : List V} {ι C w c} (h : srcV sz M x = some (n, new)) (hlen : new.length = n * sz) (hx : VR ι C x c) (hm : MR ι C M w) :
    (Builtin.lenOf c).run P w = .ok n w ∧ ∃ a, (∀ W, W.heap = w.heap → (Builtin.firstCells sz n c).run P W = .ok a W) ∧ LR ι C new a ∧ new.all V.one = true := by
  unfold srcV at h
  split at h
  · simp only [Option.some.injEq, Prod.mk.injEq] at h
    obtain ⟨rfl, rfl⟩ := h
    cases hx
    exact ⟨rfl, #[], fun W _ => rfl, ⟨rfl, fun j p _ => absurd p (by simp)⟩, rfl⟩
  · rename_i i off len sz' cap
    split at h
    · rename_i cs hM
      split at h
      · rename_i hle
        simp only [Option.some.injEq, Prod.mk.injEq] at h
        obtain ⟨rfl, rfl⟩ := h
        cases hx with
        | sl _ _ _ _ _ pl a ccap hi hl hcp hsp h2 =>
          obtain ⟨b', o', r', rfl, hO⟩ := hm.obj i pl _ hi hM
          obtain ⟨g1, g2, _⟩ := h2 b' o' r' rfl
          cases hO with
          | cells _ _ _ _ arr el hbk hr hl' h0 hv =>
            refine ⟨rfl, ?_⟩
            by_cases hz : len * sz = 0
            · refine ⟨#[], ?_, ?_, ?_⟩
              · intro W _; simp only [Builtin.firstCells, hz]; rfl
              · rw [hz]; exact ⟨rfl, fun j p _ => absurd p (by simp)⟩
              · rw [hz]; rfl
            · have hlen0 : 0 < len := by rcases Nat.eq_zero_or_pos len with h | h; · simp [h] at hz
                                         · exact h
              obtain rfl := g1 (by omega)
              have hcell : ∀ W : World, W.heap = w.heap → ∀ j, j < len * sz → W.cell? ⟨b', o' + off + j, none⟩ = some (arr.getD (o' + off + j) undef) := fun W hW j hj => by
                rw [cell_some (by rw [hW]; exact hbk), Array.getD_eq_getD_getElem?, Array.getElem?_eq_getElem (by omega)]; rfl
              refine ⟨_, fun W hW => run_loadCells P W ⟨b', o' + off, none⟩ rfl (fun j => arr.getD (o' + off + j) undef) (len * sz) (hcell W hW), ⟨by simp; omega, fun j p q => ?_⟩, ?_⟩
              · simp at p q
                have := hv (off + j) (by omega) (by omega)
                have e1 : arr.getD (o' + off + j) undef = arr[o' + (off + j)]'(by omega) := by
                  rw [Array.getD_eq_getD_getElem?, Array.getElem?_eq_getElem (by omega)]; simp [Nat.add_assoc]
                simp only [List.getElem_take, List.getElem_drop, List.getElem_toArray, List.getElem_map, List.getElem_range]
                rw [e1]; exact this
              · rw [List.all_eq_true]
                intro v hv'
                obtain ⟨j, hj, rfl⟩ := List.mem_iff_getElem.1 (List.mem_of_mem_drop (List.mem_of_mem_take hv'))
                exact h0 j hj
      · cases h
    · cases h
  · rename_i cs len capped
    split at h
    · rename_i hle
      simp only [Option.some.injEq, Prod.mk.injEq] at h
      obtain ⟨rfl, rfl⟩ := h
      cases hx with
      | psl _ _ _ b o ccap g hl hcp h0 hC hv =>
        refine ⟨rfl, _, fun W hW => run_loadCells P W ⟨b, o, none⟩ rfl g (len * sz) (fun j hj => by
          have := (hm.fro _ _ _ (hC j (by omega))).1
          simpa only [World.cell?, hW] using this), ⟨by simp; omega, fun j p q => ?_⟩, ?_⟩
        · simpa using hv j p
        · rw [List.all_eq_true]
          intro v hv'
          obtain ⟨j, hj, rfl⟩ := List.mem_iff_getElem.1 hv'
          exact h0 j hj
      | psl0 _ a =>
        exact ⟨rfl, #[], fun W _ => by simp [Builtin.firstCells, loadCells, loadCellsFrom], ⟨rfl, fun j p _ => absurd p (by simp)⟩, rfl⟩
    · cases h
  · rename_i s
    split at h
    · rename_i hs1
      subst hs1
      simp only [Option.some.injEq, Prod.mk.injEq] at h
      obtain ⟨rfl, rfl⟩ := h
      cases hx
      refine ⟨rfl, _, fun W _ => rfl, ⟨?_, fun j p q => ?_⟩, ?_⟩
      · have : (s.extract 0 s.size) = s := by simp
        rw [this]; simp
      · have : (s.extract 0 s.size) = s := by simp
        simp only [this, List.getElem_map, Array.getElem_map, Array.getElem_toList]
        exact .int _ _
      · rw [List.all_eq_true]; intro v hv; simp at hv; obtain ⟨_, _, rfl⟩ := hv; rfl
    · cases h
  · cases h

theorem growBy_le (need : Nat) : ∀ (k c B : Nat), c ≤ B → need ≤ B → Builtin.growBy need k c ≤ B + B / 4 + 200 ∨ Builtin.growBy need k c ≤ B
  | 0, c, B, h, _ => .inr h
  | k + 1, c, B, h, hn => by
    unfold Builtin.growBy
    split
    · exact .inr h
    · rename_i hlt
      -- below the need: one more turn
      by_cases h2 : c + (c + 768) / 4 ≥ need
      · cases k with
        | zero => left; show c + (c + 768) / 4 ≤ _; omega
        | succ k => left; unfold Builtin.growBy; rw [if_pos h2]; omega
      · exact growBy_le need k _ B (by omega) hn

theorem nextcap_le {need cap : Nat} (h : cap < need) (hn : need ≤ mostLen) : Builtin.nextslicecap need cap ≤ 2 * need + 400 := by
  unfold Builtin.nextslicecap
  split
  · omega
  · split
    · omega
    · rcases growBy_le need 4 cap need (by omega) (Nat.le_refl _) with h1 | h1 <;> omega

/-- the run of an append that must grow -/
theorem run_append_grow {P : Program} {sT xT u : TypeId} {e : El} {ts : Array TypeId} {ty : TypeId} {w : World} (hu : P.underlying sT = some (.slice u)) (he : elOf P u = some e) (h0 : ts[0]? = some sT) (h1 : ts[1]? = some xT)
    {xd : TypeDesc} (hxd : P.underlying xT = some xd) (hxi : ∀ k, xd ≠ .int k) {base : Option Addr} {len cap n : Nat} {cx : Value} {old new : Array Value}
    (hn : (Builtin.lenOf cx).run P w = .ok n w) (hnew : ∀ W, W.heap = w.heap → (Builtin.firstCells e.size n cx).run P W = .ok new W) (hold : ∀ W, W.heap = w.heap → (Builtin.firstCells e.size len (.slice base len cap)).run P W = .ok old W)
    (hgrow : cap < len + n) (hmost : len + n ≤ mostLen) :
    ∃ (newCap : Nat) (z : Array Value), len + n ≤ newCap ∧ z.size = (newCap - (len + n)) * e.size ∧
      (Builtin.append_ ts ty #[.slice base len cap, cx]).run P w = .ok (.slice (some ⟨w.heap.size, 0, none⟩) (len + n) newCap) (w.drew.alloc (.cells (old ++ new ++ z) u)) := by
  obtain ⟨hs, ⟨inf, hinf, hby⟩, hby2, hpos, hzl, hz1, ⟨z, hz, hzc⟩, _⟩ := elOf_spec he
  obtain ⟨zv, hzv1, hzv2, _⟩ := zeroV_spec hz w
  have hzs : zv.cells.size = e.size := by
    have hone : z.cells.all V.one = true := by rw [hzc]; exact hz1
    have hlr : LR (fun _ => none) (fun _ _ => none) z.cells zv.cells := by rw [hzv2] at hone ⊢; exact (VR.constZ _ _ zv).cellsR hone
    have := hlr.1; rw [hzc, hzl] at this; exact this.symm
  have hnc := nextcap_le hgrow hmost
  have hq : ∃ newCap, len + n ≤ newCap ∧ (choose (.appendCap (len + n) cap u)).run P w = .ok newCap w.drew := by
    refine ⟨_, ?_, by rw [run_choose]; simp only [Question.forced, Bool.false_eq_true, if_false]; rfl⟩
    simp only [Question.cut]; omega
  obtain ⟨newCap, hc1, hc2⟩ := hq
  refine ⟨newCap, Builtin.zeroCells zv.cells (newCap - (len + n)), hc1, by simp [Builtin.zeroCells, hzs], ?_⟩
  have hzeros : (P.underlying xT matches some (.int _)) = false := by rw [hxd]; cases xd <;> first | rfl | (exact absurd rfl (hxi _))
  have hbig : ¬ (Builtin.nextslicecap (len + n) cap * inf.bytes > 2 ^ 48) := by
    have h1 : Builtin.nextslicecap (len + n) cap * inf.bytes ≤ (2 * mostLen + 400) * 1024 := Nat.mul_le_mul (by omega) (by omega)
    unfold mostLen at h1 hmost
    omega
  have hb0 : ¬ (((len + n : Nat) : Int) > IntKind.i64.max ∧ (False ∨ inf.bytes = 0)) := by
    intro hh
    have : IntKind.i64.max = 9223372036854775807 := by decide
    unfold mostLen at hmost
    omega
  have hzv1' : ∀ W, (zeroValue u).run P W = .ok zv W := fun W => by
    obtain ⟨v2, g1, g2, i2, g3, g4⟩ := zeroV_spec hz W
    obtain ⟨v3, g5, g6, i3, g7, g8⟩ := zeroV_spec hz w
    rw [g1]
    have : i2 = i3 := by rw [g3] at g7; simpa using g7
    subst this
    rw [g4] at g8
    rw [hzv1] at g5
    simp at g8 g5
    rw [g8, ← g5]
  unfold Builtin.append_
  rw [h0, h1]
  rw [show #[Value.slice base len cap, cx][0]? = some (.slice base len cap) from rfl, show #[Value.slice base len cap, cx][1]? = some cx from rfl]
  simp only [Sem.run_bind, run_underlying hu, Result.andThen_ok, run_sizeOf' hs, run_underlying hxd, Sem.run_pure]
  cases xd with
  | int k => exact absurd rfl (hxi k)
  | _ =>
    simp only [Bool.false_eq_true, if_false, Bool.not_false, if_true]
    rw [Sem.run_bind, hn, Result.andThen_ok, if_neg (by omega), Sem.run_bind]
    have hti : ∀ W, (typeInfo u).run P W = .ok inf W := fun W => by simp [typeInfo, hinf]
    rw [hti, Result.andThen_ok, if_neg (by simpa using hb0), Sem.run_bind, hti, Result.andThen_ok, if_neg hbig]
    simp only [Sem.run_bind, hc2, Result.andThen_ok, hti, run_askRoom, hold w.drew rfl, hnew w.drew rfl, hzv1', newRow, run_newObj, Sem.run_pure]
    rfl
end Go.Ab
