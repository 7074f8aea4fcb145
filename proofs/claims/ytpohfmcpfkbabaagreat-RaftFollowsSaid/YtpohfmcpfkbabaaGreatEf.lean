/- The evaluator's equations, an operation each. Conditions: none. -/
import Derived.Test.YtpohfmcpfkbabaaGreatEe
set_option linter.unusedSimpArgs false
set_option linter.unusedVariables false
namespace Go.Ab
variable {E : Env} {cur : FuncId} {d : Option Tmp} {ty : TypeId} {ps : String} {af : Array Edge} {gd : Option (Nat × Bool)} {s : Id} {f : Tm} {M : Mem}

theorem Oo_move (x) : Oo E cur ⟨d, .move x, ty, ps, af, gd⟩ s f M = some (ev f x, M) := Oo_op _ _ _ _ _ rfl
theorem Oo_assign (x) : Oo E cur ⟨d, .assign x, ty, ps, af, gd⟩ s f M = some (ev f x, M) := Oo_op _ _ _ _ _ rfl
theorem Oo_pick (c a b) : Oo E cur ⟨d, .pick c a b, ty, ps, af, gd⟩ s f M = match ev f c with | .bool t => some (if t then ev f a else ev f b, M) | _ => none := Oo_op _ _ _ _ _ rfl
theorem Oo_alloc (e) : Oo E cur ⟨d, .alloc e, ty, ps, af, gd⟩ s f M = match zeroV E.P e with
    | some z => if z.cells.all V.one = true then some (.ptr s 0, M.set s (.cells z.cells)) else none
    | none => none := Oo_op _ _ _ _ _ rfl
theorem Oo_box (e x) : Oo E cur ⟨d, .box e x, ty, ps, af, gd⟩ s f M = if (ev f x).cells.all V.one = true then some (.ptr s 0, M.set s (.cells (ev f x).cells)) else none := Oo_op _ _ _ _ _ rfl
theorem Oo_build (t parts) : Oo E cur ⟨d, .build t parts, ty, ps, af, gd⟩ s f M = (buildV E.P t (parts.toList.map fun x => (x.1, ev f x.2))).map fun v => (v, M) := Oo_op _ _ _ _ _ rfl
theorem Oo_buildSlice (t n parts) : Oo E cur ⟨d, .buildSlice t n parts, ty, ps, af, gd⟩ s f M = buildSliceV E.P t n (parts.toList.map fun x => (x.1, ev f x.2)) s M := Oo_op _ _ _ _ _ rfl
theorem Oo_load (t a) : Oo E cur ⟨d, .load t a, ty, ps, af, gd⟩ s f M = (loadV E.P t M (ev f a)).map fun v => (v, M) := Oo_op _ _ _ _ _ rfl
theorem Oo_store (t a v) : Oo E cur ⟨d, .store t a v, ty, ps, af, gd⟩ s f M = (storeV E.P t M (ev f a) (ev f v)).map fun M' => (undefV, M') := Oo_op _ _ _ _ _ rfl
theorem Oo_nilCheck (x) : Oo E cur ⟨d, .nilCheck x, ty, ps, af, gd⟩ s f M = (nilCheckV (ev f x)).map fun v => (v, M) := Oo_op _ _ _ _ _ rfl
theorem Oo_binOp (op t x y t') : Oo E cur ⟨d, .binOp op t x y t', ty, ps, af, gd⟩ s f M = (binV E.P op t (ev f x) (ev f y)).map fun v => (v, M) := Oo_op _ _ _ _ _ rfl
theorem Oo_unOp (op t x) : Oo E cur ⟨d, .unOp op t x, ty, ps, af, gd⟩ s f M = (unV op (ev f x)).map fun v => (v, M) := Oo_op _ _ _ _ _ rfl
theorem Oo_convert (a b x) : Oo E cur ⟨d, .convert a b x, ty, ps, af, gd⟩ s f M = (convV E.P a b M (ev f x)).map fun v => (v, M) := Oo_op _ _ _ _ _ rfl
theorem Oo_makeFunc (g a b) : Oo E cur ⟨d, .makeFunc g a b, ty, ps, af, gd⟩ s f M = some (.fn g (a.toList.map (ev f)) (b.toList.map (ev f)), M) := Oo_op _ _ _ _ _ rfl
theorem Oo_makeMap (t) : Oo E cur ⟨d, .makeMap t none, ty, ps, af, gd⟩ s f M = some (.mapr s, M.set s (.map [])) := Oo_op _ _ _ _ _ rfl
theorem Oo_slice (t x lo hi mx) : Oo E cur ⟨d, .slice t x lo hi mx, ty, ps, af, gd⟩ s f M = match optB (ev f) lo, optB (ev f) hi, optB (ev f) mx with
    | some l, some h, some m => (sliceV E.P t (ev f x) l h m).map fun v => (v, M)
    | _, _, _ => none := Oo_op _ _ _ _ _ rfl
theorem Oo_fieldAddr (t x i) : Oo E cur ⟨d, .fieldAddr t x i, ty, ps, af, gd⟩ s f M = (fieldAddrV E.P t (ev f x) i).map fun v => (v, M) := Oo_op _ _ _ _ _ rfl
theorem Oo_field (t x i) : Oo E cur ⟨d, .field t x i, ty, ps, af, gd⟩ s f M = (fieldV E.P t (ev f x) i).map fun v => (v, M) := Oo_op _ _ _ _ _ rfl
theorem Oo_indexAddr (t x i) : Oo E cur ⟨d, .indexAddr t x i, ty, ps, af, gd⟩ s f M = (indexAddrV E.P t (ev f x) (ev f i)).map fun v => (v, M) := Oo_op _ _ _ _ _ rfl
theorem Oo_index (t x i) : Oo E cur ⟨d, .index t x i, ty, ps, af, gd⟩ s f M = (indexV E.P t (ev f x) (ev f i)).map fun v => (v, M) := Oo_op _ _ _ _ _ rfl
theorem Oo_lookup (t x i ok) : Oo E cur ⟨d, .lookup t x i ok, ty, ps, af, gd⟩ s f M = (lookupV E.P t M (ev f x) (ev f i) ok).map fun v => (v, M) := Oo_op _ _ _ _ _ rfl
theorem Oo_mapUpdate (t m k v) : Oo E cur ⟨d, .mapUpdate t m k v, ty, ps, af, gd⟩ s f M = (mapUpdateV E.P t M (ev f m) (ev f k) (ev f v)).map fun M' => (undefV, M') := Oo_op _ _ _ _ _ rfl
theorem Oo_insert (t m k v) : Oo E cur ⟨d, .insert t m k v, ty, ps, af, gd⟩ s f M = (mapUpdateV E.P t M (ev f m) (ev f k) (ev f v)).map fun M' => (undefV, M') := Oo_op _ _ _ _ _ rfl
theorem Oo_extract (t n) : Oo E cur ⟨d, .extract t n, ty, ps, af, gd⟩ s f M = match ev f t with | .tup vs => (vs[n]?).map fun v => (v, M) | _ => none := Oo_op _ _ _ _ _ rfl
theorem Oo_builtin (b as ts) : Oo E cur ⟨d, .call ⟨.builtin b, as, ts⟩, ty, ps, af, gd⟩ s f M = builtinV E.P b ts (as.toList.map (ev f)) s M := Oo_op _ _ _ _ _ rfl
theorem Oo_fn (g as ts) : Oo E cur ⟨d, .call ⟨.value (.func g), as, ts⟩, ty, ps, af, gd⟩ s f M = Fn E (E.fz cur g) g (as.toList.map (ev f)) s M := by
  rw [Oo_call]
  simp [callOf, ev]

theorem ev_tmp (t) : ev f (.tmp t) = f t := rfl
theorem ev_bool (b) : ev f (.const (.bool b)) = .bool b := rfl
theorem ev_int (k n) : ev f (.const (.int k n)) = .int k n := rfl
theorem ev_nilp : ev f (.const (.pointer none)) = .nilp := rfl
theorem ev_nils : ev f (.const (.slice none 0 0)) = .nils := rfl
theorem ev_nilm : ev f (.const (.map none)) = .nilm := rfl
theorem ev_func (g) : ev f (.func g) = .fn (.func g) [] [] := rfl
theorem put_some (t v) : put f (some t) v = upd f t v := rfl
theorem put_none (v) : put f none v = f := rfl
theorem upd_at (t v u) : upd f t v u = if u = t then v else f u := rfl
theorem argsTm_nil (t) : argsTm [] t = undefV := rfl
theorem argsTm_zero (v l) : argsTm (v :: l) 0 = v := rfl
theorem argsTm_succ (v l t) : argsTm (v :: l) (t + 1) = argsTm l t := rfl
theorem wanted_none (o : Oper) (h : o.guard = none) (ops) : wantedV f ops o = some true := by simp [wantedV, h]
theorem run_op_plain (all op k i l) : run E cur (.ops all (⟨d, op, ty, ps, af, none⟩ :: l) i s :: k) f M = (Oo E cur ⟨d, op, ty, ps, af, none⟩ (i :: s) f M).bind fun x => run E cur (.ops all l (i + 1) s :: k) (put f d x.1) x.2 := by
  rw [run_ops_cons]; rfl
theorem run_op_guard (all op k i l j w) : run E cur (.ops all (⟨d, op, ty, ps, af, some (j, w)⟩ :: l) i s :: k) f M = match wantedV f all ⟨d, op, ty, ps, af, some (j, w)⟩ with
    | some false => run E cur (.ops all l (i + 1) s :: k) (put f d undefV) M
    | some true => (Oo E cur ⟨d, op, ty, ps, af, some (j, w)⟩ (i :: s) f M).bind fun x => run E cur (.ops all l (i + 1) s :: k) (put f d x.1) x.2
    | none => none := by
  rw [run_ops_cons]
  rfl
theorem wanted_guard (ops op j w t) (h : (ops[j]?).bind (·.dst) = some t) : wantedV f ops ⟨d, op, ty, ps, af, some (j, w)⟩ = match f t with | .bool b => some (b == w) | .bad => none | _ => some false := by
  simp [wantedV, h]
  cases f t <;> rfl
end Go.Ab
