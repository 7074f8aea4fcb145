/- What stands in for functions that are not evaluated: sorting, the keys of a map, the range over a map in the raft's advance. Conditions: none. -/
import Derived.Test.YtpohfmcpfkbabaaGreatEf
import Derived.Test.YtpohfmcpfkbabaaGreatAbKd
set_option linter.unusedSimpArgs false
set_option linter.unusedVariables false
namespace Go.Ab
def intOf : V → Option Int
  | .int .i64 n => some n
  | _ => none
def intsOf : List V → Option (List Int)
  | [] => some []
  | v :: l => match intOf v, intsOf l with
    | some n, some ns => some (n :: ns)
    | _, _ => none
def sortI (l : List Int) : List Int := l.mergeSort fun x y => decide (x ≤ y)
/-- slices.Sort of whole numbers -/
def sortP : List V → Id → Mem → Option (V × Mem)
  | [.nils], _, M => some (.tup [], M)
  | [.sl i off len sz _], _, M => match M i with
    | some (.cells cs) => if sz = 1 ∧ 0 < len ∧ off + len ≤ cs.length ∧ len ≤ mostLen then (match intsOf ((cs.drop off).take len) with
        | some l => some (.tup [], M.set i (.cells (splice cs off ((sortI l).map (V.int .i64)))))
        | none => none) else none
    | _ => none
  | _, _, _ => none
/-- the members: the keys of the peers, sorted -/
def membersP : List V → Id → Mem → Option (V × Mem)
  | [.ptr i 0], _, M => match M i with
    | some (.cells cs) => match cs[11]? with
      | some m => match entriesV M m with
        | some [] => some (.nils, M)
        | _ => none
      | none => none
    | _ => none
  | _, _, _ => none
/-- the range over the peers -/
def advP (f : Tm) (_ : Id) (M : Mem) : Option (Tm × Mem) :=
  match f 0 with
  | .ptr i 0 => match M i with
    | some (.cells cs) => match cs[11]? with
      | some m => match entriesV M m with
        | some [] => some ((fun t => if t = 3 ∨ t = 4 ∨ (18 ≤ t ∧ t ≤ 31) then .bad else f t), M)
        | _ => none
      | none => none
    | _ => none
  | _ => none
/-- the piece of the raft's advance that ranges over the peers -/
noncomputable def advCode : Code := match Go.Proofs.Tryz.f93.body with
  | some (.seq _ (.seq _ (.seq c _))) => c
  | _ => .skip
def isAdv : Code → Bool
  | .seq (.region 2 _ _) (.block 0 _) => true
  | _ => false
open Classical in
noncomputable def cprimOf (f : FuncId) (c : Code) : Option (Tm → Id → Mem → Option (Tm × Mem)) :=
  if isAdv c = true then (if f = 93 ∧ c = advCode then some advP else none) else none
theorem advCode_seq : ∃ a b, advCode = .seq a b := ⟨_, _, rfl⟩
def primOf (f : FuncId) : Option (List V → Id → Mem → Option (V × Mem)) :=
  if f = 118 then some sortP else if f = 41 then some membersP else if f = 101 ∨ f = 239 then some (fun _ _ _ => none) else none
end Go.Ab
