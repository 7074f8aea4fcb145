/- The evaluator at the program: the environment. Conditions: none. -/
import Derived.Test.YtpohfmcpfkbabaaGreatEg
set_option linter.unusedSimpArgs false
set_option linter.unusedVariables false
set_option maxRecDepth 100000
namespace Go.Ab.R
open Go Go.Proofs
def quietL : List Nat := [8, 14, 15, 16, 17, 18, 22, 23, 24, 25, 26, 31, 35, 39, 40, 41, 43, 48, 49, 50, 51, 53, 54, 55, 56, 58, 62, 63, 74, 75, 76, 78, 80, 81, 82, 83, 84, 85, 86, 87, 89, 95, 98, 99, 100, 101, 106, 107, 108, 111, 113, 114, 115, 116, 119, 120, 121, 122, 123, 124, 125, 126, 127, 135, 147, 148, 150, 155, 156, 157, 158, 160, 162, 165, 166, 168, 169, 170, 171, 172, 174, 176, 180, 196, 202, 205, 206, 207, 208, 213, 221, 224, 225, 226, 228, 229, 230, 236, 238, 244, 248, 249, 250, 251]
def addsL : List Nat := [88, 32, 33, 57, 59, 60, 91, 112, 149, 210, 211, 227, 102]
def fzL : List Nat := [48, 88, 87, 53, 14, 74, 35, 22, 26, 98, 230, 54, 62, 205, 206, 147, 126, 75, 180]
def badL : List Nat := [41, 101, 118, 212, 239]
def looseOf (f : FuncId) (r : Nat) : List (Nat × Nat) :=
  if f = 13 ∧ r = 5 then [(1, 4), (2, 4), (2, 6)] else
  if f = 20 ∧ r = 14 then [(3, 7)] else
  if f = 30 ∧ r = 9 then [(12, 8), (15, 8), (17, 8), (22, 8), (24, 8)] else
  if f = 54 ∧ r = 3 then [(6, 4), (8, 4)] else
  if f = 54 ∧ r = 5 then [(6, 4)] else
  if f = 73 ∧ r = 7 then [(5, 12), (8, 12), (9, 12)] else
  if f = 131 ∧ r = 11 then [(7, 13), (10, 13)] else
  if f = 181 ∧ r = 0 then [(3, 10)] else
  if f = 182 ∧ r = 1 then [(9, 17), (13, 17)] else
  if f = 185 ∧ r = 13 then [(1, 10), (6, 10)] else
  if f = 198 ∧ r = 7 then [(5, 3)] else
  if f = 234 ∧ r = 2 then [(3, 13)] else
  if f = 235 ∧ r = 21 then [(0, 15)] else
  []

noncomputable def env : Env := { P := Tryz.prog, lv := fun f => if quietL.contains f then .quiet else if addsL.contains f then .adds else .free, loose := looseOf, cprim := cprimOf, fz := fun c g => fzL.contains g && !(g == 88 && c == 54), prim := primOf }

theorem envP : env.P = Tryz.prog := rfl

theorem eqOf {α : Type} {a b : α} (h : a = b) : a = b := h
theorem cp_none {f : FuncId} (h : f ≠ 93) (a b : Code) : env.cprim f (.seq a b) = none := by
  show cprimOf f (.seq a b) = none
  unfold cprimOf
  split
  · rw [if_neg (fun q => h q.1)]
  · rfl
theorem cp_head {f : FuncId} {c : Code} (h : isAdv c = false) : env.cprim f c = none := by
  show cprimOf f c = none
  unfold cprimOf
  rw [if_neg (by rw [h]; simp)]
theorem chk_none {E : Env} {cur : FuncId} {id : Nat} {ops : Array Oper} {s : Id} {f : Tm} {M : Mem} (h : E.loose cur id = []) : Chk E cur id ops s f M := by
  intro p hp; rw [h] at hp; cases hp
theorem h93s (a b c) : env.cprim 93 (.seq (.seq a b) c) = none := cp_head rfl
theorem h93c (x a b c) : env.cprim 93 (.seq (.cond x a b) c) = none := cp_head rfl
theorem h93p : env.cprim 93 advCode = some advP := by
  show cprimOf 93 advCode = some advP
  unfold cprimOf
  rw [if_pos (show isAdv advCode = true from rfl), if_pos ⟨rfl, rfl⟩]
theorem h93r (r o d c) (h : (r = 2) = False) : env.cprim 93 (.seq (.region r o d) c) = none := cp_head (by
  unfold isAdv
  split
  · rename_i e; cases e; simp at h
  · rfl)

theorem q0 : env.lv 0 = .free := by decide
theorem q1 : env.lv 1 = .free := by decide
theorem q2 : env.lv 2 = .free := by decide
theorem q3 : env.lv 3 = .free := by decide
theorem q4 : env.lv 4 = .free := by decide
theorem q5 : env.lv 5 = .free := by decide
theorem q6 : env.lv 6 = .free := by decide
theorem q7 : env.lv 7 = .free := by decide
theorem q8 : env.lv 8 = .quiet := by decide
theorem q9 : env.lv 9 = .free := by decide
theorem q10 : env.lv 10 = .free := by decide
theorem q11 : env.lv 11 = .free := by decide
theorem q12 : env.lv 12 = .free := by decide
theorem q13 : env.lv 13 = .free := by decide
theorem q14 : env.lv 14 = .quiet := by decide
theorem q15 : env.lv 15 = .quiet := by decide
theorem q16 : env.lv 16 = .quiet := by decide
theorem q17 : env.lv 17 = .quiet := by decide
theorem q18 : env.lv 18 = .quiet := by decide
theorem q19 : env.lv 19 = .free := by decide
theorem q20 : env.lv 20 = .free := by decide
theorem q21 : env.lv 21 = .free := by decide
theorem q22 : env.lv 22 = .quiet := by decide
theorem q23 : env.lv 23 = .quiet := by decide
theorem q24 : env.lv 24 = .quiet := by decide
theorem q25 : env.lv 25 = .quiet := by decide
theorem q26 : env.lv 26 = .quiet := by decide
theorem q27 : env.lv 27 = .free := by decide
theorem q28 : env.lv 28 = .free := by decide
theorem q29 : env.lv 29 = .free := by decide
theorem q30 : env.lv 30 = .free := by decide
theorem q31 : env.lv 31 = .quiet := by decide
theorem q32 : env.lv 32 = .adds := by decide
theorem q33 : env.lv 33 = .adds := by decide
theorem q34 : env.lv 34 = .free := by decide
theorem q35 : env.lv 35 = .quiet := by decide
theorem q36 : env.lv 36 = .free := by decide
theorem q37 : env.lv 37 = .free := by decide
theorem q38 : env.lv 38 = .free := by decide
theorem q39 : env.lv 39 = .quiet := by decide
theorem q40 : env.lv 40 = .quiet := by decide
theorem q41 : env.lv 41 = .quiet := by decide
theorem q42 : env.lv 42 = .free := by decide
theorem q43 : env.lv 43 = .quiet := by decide
theorem q44 : env.lv 44 = .free := by decide
theorem q45 : env.lv 45 = .free := by decide
theorem q46 : env.lv 46 = .free := by decide
theorem q47 : env.lv 47 = .free := by decide
theorem q48 : env.lv 48 = .quiet := by decide
theorem q49 : env.lv 49 = .quiet := by decide
theorem q50 : env.lv 50 = .quiet := by decide
theorem q51 : env.lv 51 = .quiet := by decide
theorem q52 : env.lv 52 = .free := by decide
theorem q53 : env.lv 53 = .quiet := by decide
theorem q54 : env.lv 54 = .quiet := by decide
theorem q55 : env.lv 55 = .quiet := by decide
theorem q56 : env.lv 56 = .quiet := by decide
theorem q57 : env.lv 57 = .adds := by decide
theorem q58 : env.lv 58 = .quiet := by decide
theorem q59 : env.lv 59 = .adds := by decide
theorem q60 : env.lv 60 = .adds := by decide
theorem q61 : env.lv 61 = .free := by decide
theorem q62 : env.lv 62 = .quiet := by decide
theorem q63 : env.lv 63 = .quiet := by decide
theorem q64 : env.lv 64 = .free := by decide
theorem q65 : env.lv 65 = .free := by decide
theorem q66 : env.lv 66 = .free := by decide
theorem q67 : env.lv 67 = .free := by decide
theorem q68 : env.lv 68 = .free := by decide
theorem q69 : env.lv 69 = .free := by decide
theorem q70 : env.lv 70 = .free := by decide
theorem q71 : env.lv 71 = .free := by decide
theorem q72 : env.lv 72 = .free := by decide
theorem q73 : env.lv 73 = .free := by decide
theorem q74 : env.lv 74 = .quiet := by decide
theorem q75 : env.lv 75 = .quiet := by decide
theorem q76 : env.lv 76 = .quiet := by decide
theorem q77 : env.lv 77 = .free := by decide
theorem q78 : env.lv 78 = .quiet := by decide
theorem q79 : env.lv 79 = .free := by decide
theorem q80 : env.lv 80 = .quiet := by decide
theorem q81 : env.lv 81 = .quiet := by decide
theorem q82 : env.lv 82 = .quiet := by decide
theorem q83 : env.lv 83 = .quiet := by decide
theorem q84 : env.lv 84 = .quiet := by decide
theorem q85 : env.lv 85 = .quiet := by decide
theorem q86 : env.lv 86 = .quiet := by decide
theorem q87 : env.lv 87 = .quiet := by decide
theorem q88 : env.lv 88 = .adds := by decide
theorem q89 : env.lv 89 = .quiet := by decide
theorem q90 : env.lv 90 = .free := by decide
theorem q91 : env.lv 91 = .adds := by decide
theorem q92 : env.lv 92 = .free := by decide
theorem q93 : env.lv 93 = .free := by decide
theorem q94 : env.lv 94 = .free := by decide
theorem q95 : env.lv 95 = .quiet := by decide
theorem q96 : env.lv 96 = .free := by decide
theorem q97 : env.lv 97 = .free := by decide
theorem q98 : env.lv 98 = .quiet := by decide
theorem q99 : env.lv 99 = .quiet := by decide
theorem q100 : env.lv 100 = .quiet := by decide
theorem q101 : env.lv 101 = .quiet := by decide
theorem q102 : env.lv 102 = .adds := by decide
theorem q103 : env.lv 103 = .free := by decide
theorem q104 : env.lv 104 = .free := by decide
theorem q105 : env.lv 105 = .free := by decide
theorem q106 : env.lv 106 = .quiet := by decide
theorem q107 : env.lv 107 = .quiet := by decide
theorem q108 : env.lv 108 = .quiet := by decide
theorem q109 : env.lv 109 = .free := by decide
theorem q110 : env.lv 110 = .free := by decide
theorem q111 : env.lv 111 = .quiet := by decide
theorem q112 : env.lv 112 = .adds := by decide
theorem q113 : env.lv 113 = .quiet := by decide
theorem q114 : env.lv 114 = .quiet := by decide
theorem q115 : env.lv 115 = .quiet := by decide
theorem q116 : env.lv 116 = .quiet := by decide
theorem q117 : env.lv 117 = .free := by decide
theorem q118 : env.lv 118 = .free := by decide
theorem q119 : env.lv 119 = .quiet := by decide
theorem q120 : env.lv 120 = .quiet := by decide
theorem q121 : env.lv 121 = .quiet := by decide
theorem q122 : env.lv 122 = .quiet := by decide
theorem q123 : env.lv 123 = .quiet := by decide
theorem q124 : env.lv 124 = .quiet := by decide
theorem q125 : env.lv 125 = .quiet := by decide
theorem q126 : env.lv 126 = .quiet := by decide
theorem q127 : env.lv 127 = .quiet := by decide
theorem q128 : env.lv 128 = .free := by decide
theorem q129 : env.lv 129 = .free := by decide
theorem q130 : env.lv 130 = .free := by decide
theorem q131 : env.lv 131 = .free := by decide
theorem q132 : env.lv 132 = .free := by decide
theorem q133 : env.lv 133 = .free := by decide
theorem q134 : env.lv 134 = .free := by decide
theorem q135 : env.lv 135 = .quiet := by decide
theorem q136 : env.lv 136 = .free := by decide
theorem q137 : env.lv 137 = .free := by decide
theorem q138 : env.lv 138 = .free := by decide
theorem q139 : env.lv 139 = .free := by decide
theorem q140 : env.lv 140 = .free := by decide
theorem q141 : env.lv 141 = .free := by decide
theorem q142 : env.lv 142 = .free := by decide
theorem q143 : env.lv 143 = .free := by decide
theorem q144 : env.lv 144 = .free := by decide
theorem q145 : env.lv 145 = .free := by decide
theorem q146 : env.lv 146 = .free := by decide
theorem q147 : env.lv 147 = .quiet := by decide
theorem q148 : env.lv 148 = .quiet := by decide
theorem q149 : env.lv 149 = .adds := by decide
theorem q150 : env.lv 150 = .quiet := by decide
theorem q151 : env.lv 151 = .free := by decide
theorem q152 : env.lv 152 = .free := by decide
theorem q153 : env.lv 153 = .free := by decide
theorem q154 : env.lv 154 = .free := by decide
theorem q155 : env.lv 155 = .quiet := by decide
theorem q156 : env.lv 156 = .quiet := by decide
theorem q157 : env.lv 157 = .quiet := by decide
theorem q158 : env.lv 158 = .quiet := by decide
theorem q159 : env.lv 159 = .free := by decide
theorem q160 : env.lv 160 = .quiet := by decide
theorem q161 : env.lv 161 = .free := by decide
theorem q162 : env.lv 162 = .quiet := by decide
theorem q163 : env.lv 163 = .free := by decide
theorem q164 : env.lv 164 = .free := by decide
theorem q165 : env.lv 165 = .quiet := by decide
theorem q166 : env.lv 166 = .quiet := by decide
theorem q167 : env.lv 167 = .free := by decide
theorem q168 : env.lv 168 = .quiet := by decide
theorem q169 : env.lv 169 = .quiet := by decide
theorem q170 : env.lv 170 = .quiet := by decide
theorem q171 : env.lv 171 = .quiet := by decide
theorem q172 : env.lv 172 = .quiet := by decide
theorem q173 : env.lv 173 = .free := by decide
theorem q174 : env.lv 174 = .quiet := by decide
theorem q175 : env.lv 175 = .free := by decide
theorem q176 : env.lv 176 = .quiet := by decide
theorem q177 : env.lv 177 = .free := by decide
theorem q178 : env.lv 178 = .free := by decide
theorem q179 : env.lv 179 = .free := by decide
theorem q180 : env.lv 180 = .quiet := by decide
theorem q181 : env.lv 181 = .free := by decide
theorem q182 : env.lv 182 = .free := by decide
theorem q183 : env.lv 183 = .free := by decide
theorem q184 : env.lv 184 = .free := by decide
theorem q185 : env.lv 185 = .free := by decide
theorem q186 : env.lv 186 = .free := by decide
theorem q187 : env.lv 187 = .free := by decide
theorem q188 : env.lv 188 = .free := by decide
theorem q189 : env.lv 189 = .free := by decide
theorem q190 : env.lv 190 = .free := by decide
theorem q191 : env.lv 191 = .free := by decide
theorem q192 : env.lv 192 = .free := by decide
theorem q193 : env.lv 193 = .free := by decide
theorem q194 : env.lv 194 = .free := by decide
theorem q195 : env.lv 195 = .free := by decide
theorem q196 : env.lv 196 = .quiet := by decide
theorem q197 : env.lv 197 = .free := by decide
theorem q198 : env.lv 198 = .free := by decide
theorem q199 : env.lv 199 = .free := by decide
theorem q200 : env.lv 200 = .free := by decide
theorem q201 : env.lv 201 = .free := by decide
theorem q202 : env.lv 202 = .quiet := by decide
theorem q203 : env.lv 203 = .free := by decide
theorem q204 : env.lv 204 = .free := by decide
theorem q205 : env.lv 205 = .quiet := by decide
theorem q206 : env.lv 206 = .quiet := by decide
theorem q207 : env.lv 207 = .quiet := by decide
theorem q208 : env.lv 208 = .quiet := by decide
theorem q209 : env.lv 209 = .free := by decide
theorem q210 : env.lv 210 = .adds := by decide
theorem q211 : env.lv 211 = .adds := by decide
theorem q212 : env.lv 212 = .free := by decide
theorem q213 : env.lv 213 = .quiet := by decide
theorem q214 : env.lv 214 = .free := by decide
theorem q215 : env.lv 215 = .free := by decide
theorem q216 : env.lv 216 = .free := by decide
theorem q217 : env.lv 217 = .free := by decide
theorem q218 : env.lv 218 = .free := by decide
theorem q219 : env.lv 219 = .free := by decide
theorem q220 : env.lv 220 = .free := by decide
theorem q221 : env.lv 221 = .quiet := by decide
theorem q222 : env.lv 222 = .free := by decide
theorem q223 : env.lv 223 = .free := by decide
theorem q224 : env.lv 224 = .quiet := by decide
theorem q225 : env.lv 225 = .quiet := by decide
theorem q226 : env.lv 226 = .quiet := by decide
theorem q227 : env.lv 227 = .adds := by decide
theorem q228 : env.lv 228 = .quiet := by decide
theorem q229 : env.lv 229 = .quiet := by decide
theorem q230 : env.lv 230 = .quiet := by decide
theorem q231 : env.lv 231 = .free := by decide
theorem q232 : env.lv 232 = .free := by decide
theorem q233 : env.lv 233 = .free := by decide
theorem q234 : env.lv 234 = .free := by decide
theorem q235 : env.lv 235 = .free := by decide
theorem q236 : env.lv 236 = .quiet := by decide
theorem q237 : env.lv 237 = .free := by decide
theorem q238 : env.lv 238 = .quiet := by decide
theorem q239 : env.lv 239 = .free := by decide
theorem q240 : env.lv 240 = .free := by decide
theorem q241 : env.lv 241 = .free := by decide
theorem q242 : env.lv 242 = .free := by decide
theorem q243 : env.lv 243 = .free := by decide
theorem q244 : env.lv 244 = .quiet := by decide
theorem q245 : env.lv 245 = .free := by decide
theorem q246 : env.lv 246 = .free := by decide
theorem q247 : env.lv 247 = .free := by decide
theorem q248 : env.lv 248 = .quiet := by decide
theorem q249 : env.lv 249 = .quiet := by decide
theorem q250 : env.lv 250 = .quiet := by decide
theorem q251 : env.lv 251 = .quiet := by decide
theorem q252 : env.lv 252 = .free := by decide
theorem q253 : env.lv 253 = .free := by decide
theorem q254 : env.lv 254 = .free := by decide
theorem q255 : env.lv 255 = .free := by decide
theorem q256 : env.lv 256 = .free := by decide
theorem q257 : env.lv 257 = .free := by decide
theorem q258 : env.lv 258 = .free := by decide
theorem q259 : env.lv 259 = .free := by decide
theorem q260 : env.lv 260 = .free := by decide
theorem q261 : env.lv 261 = .free := by decide
theorem q262 : env.lv 262 = .free := by decide
theorem q263 : env.lv 263 = .free := by decide
theorem q264 : env.lv 264 = .free := by decide
theorem q265 : env.lv 265 = .free := by decide
theorem q266 : env.lv 266 = .free := by decide
theorem q267 : env.lv 267 = .free := by decide
theorem q268 : env.lv 268 = .free := by decide
theorem q269 : env.lv 269 = .free := by decide
theorem q270 : env.lv 270 = .free := by decide
theorem q271 : env.lv 271 = .free := by decide
theorem q272 : env.lv 272 = .free := by decide
theorem z0 (c) : env.fz c 0 = false := eqOf rfl
theorem z1 (c) : env.fz c 1 = false := eqOf rfl
theorem z2 (c) : env.fz c 2 = false := eqOf rfl
theorem z3 (c) : env.fz c 3 = false := eqOf rfl
theorem z4 (c) : env.fz c 4 = false := eqOf rfl
theorem z5 (c) : env.fz c 5 = false := eqOf rfl
theorem z6 (c) : env.fz c 6 = false := eqOf rfl
theorem z7 (c) : env.fz c 7 = false := eqOf rfl
theorem z8 (c) : env.fz c 8 = false := eqOf rfl
theorem z9 (c) : env.fz c 9 = false := eqOf rfl
theorem z10 (c) : env.fz c 10 = false := eqOf rfl
theorem z11 (c) : env.fz c 11 = false := eqOf rfl
theorem z12 (c) : env.fz c 12 = false := eqOf rfl
theorem z13 (c) : env.fz c 13 = false := eqOf rfl
theorem z14 (c) : env.fz c 14 = true := eqOf rfl
theorem z15 (c) : env.fz c 15 = false := eqOf rfl
theorem z16 (c) : env.fz c 16 = false := eqOf rfl
theorem z17 (c) : env.fz c 17 = false := eqOf rfl
theorem z18 (c) : env.fz c 18 = false := eqOf rfl
theorem z19 (c) : env.fz c 19 = false := eqOf rfl
theorem z20 (c) : env.fz c 20 = false := eqOf rfl
theorem z21 (c) : env.fz c 21 = false := eqOf rfl
theorem z22 (c) : env.fz c 22 = true := eqOf rfl
theorem z23 (c) : env.fz c 23 = false := eqOf rfl
theorem z24 (c) : env.fz c 24 = false := eqOf rfl
theorem z25 (c) : env.fz c 25 = false := eqOf rfl
theorem z26 (c) : env.fz c 26 = true := eqOf rfl
theorem z27 (c) : env.fz c 27 = false := eqOf rfl
theorem z28 (c) : env.fz c 28 = false := eqOf rfl
theorem z29 (c) : env.fz c 29 = false := eqOf rfl
theorem z30 (c) : env.fz c 30 = false := eqOf rfl
theorem z31 (c) : env.fz c 31 = false := eqOf rfl
theorem z32 (c) : env.fz c 32 = false := eqOf rfl
theorem z33 (c) : env.fz c 33 = false := eqOf rfl
theorem z34 (c) : env.fz c 34 = false := eqOf rfl
theorem z35 (c) : env.fz c 35 = true := eqOf rfl
theorem z36 (c) : env.fz c 36 = false := eqOf rfl
theorem z37 (c) : env.fz c 37 = false := eqOf rfl
theorem z38 (c) : env.fz c 38 = false := eqOf rfl
theorem z39 (c) : env.fz c 39 = false := eqOf rfl
theorem z40 (c) : env.fz c 40 = false := eqOf rfl
theorem z41 (c) : env.fz c 41 = false := eqOf rfl
theorem z42 (c) : env.fz c 42 = false := eqOf rfl
theorem z43 (c) : env.fz c 43 = false := eqOf rfl
theorem z44 (c) : env.fz c 44 = false := eqOf rfl
theorem z45 (c) : env.fz c 45 = false := eqOf rfl
theorem z46 (c) : env.fz c 46 = false := eqOf rfl
theorem z47 (c) : env.fz c 47 = false := eqOf rfl
theorem z48 (c) : env.fz c 48 = true := eqOf rfl
theorem z49 (c) : env.fz c 49 = false := eqOf rfl
theorem z50 (c) : env.fz c 50 = false := eqOf rfl
theorem z51 (c) : env.fz c 51 = false := eqOf rfl
theorem z52 (c) : env.fz c 52 = false := eqOf rfl
theorem z53 (c) : env.fz c 53 = true := eqOf rfl
theorem z54 (c) : env.fz c 54 = true := eqOf rfl
theorem z55 (c) : env.fz c 55 = false := eqOf rfl
theorem z56 (c) : env.fz c 56 = false := eqOf rfl
theorem z57 (c) : env.fz c 57 = false := eqOf rfl
theorem z58 (c) : env.fz c 58 = false := eqOf rfl
theorem z59 (c) : env.fz c 59 = false := eqOf rfl
theorem z60 (c) : env.fz c 60 = false := eqOf rfl
theorem z61 (c) : env.fz c 61 = false := eqOf rfl
theorem z62 (c) : env.fz c 62 = true := eqOf rfl
theorem z63 (c) : env.fz c 63 = false := eqOf rfl
theorem z64 (c) : env.fz c 64 = false := eqOf rfl
theorem z65 (c) : env.fz c 65 = false := eqOf rfl
theorem z66 (c) : env.fz c 66 = false := eqOf rfl
theorem z67 (c) : env.fz c 67 = false := eqOf rfl
theorem z68 (c) : env.fz c 68 = false := eqOf rfl
theorem z69 (c) : env.fz c 69 = false := eqOf rfl
theorem z70 (c) : env.fz c 70 = false := eqOf rfl
theorem z71 (c) : env.fz c 71 = false := eqOf rfl
theorem z72 (c) : env.fz c 72 = false := eqOf rfl
theorem z73 (c) : env.fz c 73 = false := eqOf rfl
theorem z74 (c) : env.fz c 74 = true := eqOf rfl
theorem z75 (c) : env.fz c 75 = true := eqOf rfl
theorem z76 (c) : env.fz c 76 = false := eqOf rfl
theorem z77 (c) : env.fz c 77 = false := eqOf rfl
theorem z78 (c) : env.fz c 78 = false := eqOf rfl
theorem z79 (c) : env.fz c 79 = false := eqOf rfl
theorem z80 (c) : env.fz c 80 = false := eqOf rfl
theorem z81 (c) : env.fz c 81 = false := eqOf rfl
theorem z82 (c) : env.fz c 82 = false := eqOf rfl
theorem z83 (c) : env.fz c 83 = false := eqOf rfl
theorem z84 (c) : env.fz c 84 = false := eqOf rfl
theorem z85 (c) : env.fz c 85 = false := eqOf rfl
theorem z86 (c) : env.fz c 86 = false := eqOf rfl
theorem z87 (c) : env.fz c 87 = true := eqOf rfl
theorem z88 (c) (h : (c == 54) = false) : env.fz c 88 = true := by simp [env, fzL, h]
theorem z88n : env.fz 54 88 = false := by decide
theorem z89 (c) : env.fz c 89 = false := eqOf rfl
theorem z90 (c) : env.fz c 90 = false := eqOf rfl
theorem z91 (c) : env.fz c 91 = false := eqOf rfl
theorem z92 (c) : env.fz c 92 = false := eqOf rfl
theorem z93 (c) : env.fz c 93 = false := eqOf rfl
theorem z94 (c) : env.fz c 94 = false := eqOf rfl
theorem z95 (c) : env.fz c 95 = false := eqOf rfl
theorem z96 (c) : env.fz c 96 = false := eqOf rfl
theorem z97 (c) : env.fz c 97 = false := eqOf rfl
theorem z98 (c) : env.fz c 98 = true := eqOf rfl
theorem z99 (c) : env.fz c 99 = false := eqOf rfl
theorem z100 (c) : env.fz c 100 = false := eqOf rfl
theorem z101 (c) : env.fz c 101 = false := eqOf rfl
theorem z102 (c) : env.fz c 102 = false := eqOf rfl
theorem z103 (c) : env.fz c 103 = false := eqOf rfl
theorem z104 (c) : env.fz c 104 = false := eqOf rfl
theorem z105 (c) : env.fz c 105 = false := eqOf rfl
theorem z106 (c) : env.fz c 106 = false := eqOf rfl
theorem z107 (c) : env.fz c 107 = false := eqOf rfl
theorem z108 (c) : env.fz c 108 = false := eqOf rfl
theorem z109 (c) : env.fz c 109 = false := eqOf rfl
theorem z110 (c) : env.fz c 110 = false := eqOf rfl
theorem z111 (c) : env.fz c 111 = false := eqOf rfl
theorem z112 (c) : env.fz c 112 = false := eqOf rfl
theorem z113 (c) : env.fz c 113 = false := eqOf rfl
theorem z114 (c) : env.fz c 114 = false := eqOf rfl
theorem z115 (c) : env.fz c 115 = false := eqOf rfl
theorem z116 (c) : env.fz c 116 = false := eqOf rfl
theorem z117 (c) : env.fz c 117 = false := eqOf rfl
theorem z118 (c) : env.fz c 118 = false := eqOf rfl
theorem z119 (c) : env.fz c 119 = false := eqOf rfl
theorem z120 (c) : env.fz c 120 = false := eqOf rfl
theorem z121 (c) : env.fz c 121 = false := eqOf rfl
theorem z122 (c) : env.fz c 122 = false := eqOf rfl
theorem z123 (c) : env.fz c 123 = false := eqOf rfl
theorem z124 (c) : env.fz c 124 = false := eqOf rfl
theorem z125 (c) : env.fz c 125 = false := eqOf rfl
theorem z126 (c) : env.fz c 126 = true := eqOf rfl
theorem z127 (c) : env.fz c 127 = false := eqOf rfl
theorem z128 (c) : env.fz c 128 = false := eqOf rfl
theorem z129 (c) : env.fz c 129 = false := eqOf rfl
theorem z130 (c) : env.fz c 130 = false := eqOf rfl
theorem z131 (c) : env.fz c 131 = false := eqOf rfl
theorem z132 (c) : env.fz c 132 = false := eqOf rfl
theorem z133 (c) : env.fz c 133 = false := eqOf rfl
theorem z134 (c) : env.fz c 134 = false := eqOf rfl
theorem z135 (c) : env.fz c 135 = false := eqOf rfl
theorem z136 (c) : env.fz c 136 = false := eqOf rfl
theorem z137 (c) : env.fz c 137 = false := eqOf rfl
theorem z138 (c) : env.fz c 138 = false := eqOf rfl
theorem z139 (c) : env.fz c 139 = false := eqOf rfl
theorem z140 (c) : env.fz c 140 = false := eqOf rfl
theorem z141 (c) : env.fz c 141 = false := eqOf rfl
theorem z142 (c) : env.fz c 142 = false := eqOf rfl
theorem z143 (c) : env.fz c 143 = false := eqOf rfl
theorem z144 (c) : env.fz c 144 = false := eqOf rfl
theorem z145 (c) : env.fz c 145 = false := eqOf rfl
theorem z146 (c) : env.fz c 146 = false := eqOf rfl
theorem z147 (c) : env.fz c 147 = true := eqOf rfl
theorem z148 (c) : env.fz c 148 = false := eqOf rfl
theorem z149 (c) : env.fz c 149 = false := eqOf rfl
theorem z150 (c) : env.fz c 150 = false := eqOf rfl
theorem z151 (c) : env.fz c 151 = false := eqOf rfl
theorem z152 (c) : env.fz c 152 = false := eqOf rfl
theorem z153 (c) : env.fz c 153 = false := eqOf rfl
theorem z154 (c) : env.fz c 154 = false := eqOf rfl
theorem z155 (c) : env.fz c 155 = false := eqOf rfl
theorem z156 (c) : env.fz c 156 = false := eqOf rfl
theorem z157 (c) : env.fz c 157 = false := eqOf rfl
theorem z158 (c) : env.fz c 158 = false := eqOf rfl
theorem z159 (c) : env.fz c 159 = false := eqOf rfl
theorem z160 (c) : env.fz c 160 = false := eqOf rfl
theorem z161 (c) : env.fz c 161 = false := eqOf rfl
theorem z162 (c) : env.fz c 162 = false := eqOf rfl
theorem z163 (c) : env.fz c 163 = false := eqOf rfl
theorem z164 (c) : env.fz c 164 = false := eqOf rfl
theorem z165 (c) : env.fz c 165 = false := eqOf rfl
theorem z166 (c) : env.fz c 166 = false := eqOf rfl
theorem z167 (c) : env.fz c 167 = false := eqOf rfl
theorem z168 (c) : env.fz c 168 = false := eqOf rfl
theorem z169 (c) : env.fz c 169 = false := eqOf rfl
theorem z170 (c) : env.fz c 170 = false := eqOf rfl
theorem z171 (c) : env.fz c 171 = false := eqOf rfl
theorem z172 (c) : env.fz c 172 = false := eqOf rfl
theorem z173 (c) : env.fz c 173 = false := eqOf rfl
theorem z174 (c) : env.fz c 174 = false := eqOf rfl
theorem z175 (c) : env.fz c 175 = false := eqOf rfl
theorem z176 (c) : env.fz c 176 = false := eqOf rfl
theorem z177 (c) : env.fz c 177 = false := eqOf rfl
theorem z178 (c) : env.fz c 178 = false := eqOf rfl
theorem z179 (c) : env.fz c 179 = false := eqOf rfl
theorem z180 (c) : env.fz c 180 = true := eqOf rfl
theorem z181 (c) : env.fz c 181 = false := eqOf rfl
theorem z182 (c) : env.fz c 182 = false := eqOf rfl
theorem z183 (c) : env.fz c 183 = false := eqOf rfl
theorem z184 (c) : env.fz c 184 = false := eqOf rfl
theorem z185 (c) : env.fz c 185 = false := eqOf rfl
theorem z186 (c) : env.fz c 186 = false := eqOf rfl
theorem z187 (c) : env.fz c 187 = false := eqOf rfl
theorem z188 (c) : env.fz c 188 = false := eqOf rfl
theorem z189 (c) : env.fz c 189 = false := eqOf rfl
theorem z190 (c) : env.fz c 190 = false := eqOf rfl
theorem z191 (c) : env.fz c 191 = false := eqOf rfl
theorem z192 (c) : env.fz c 192 = false := eqOf rfl
theorem z193 (c) : env.fz c 193 = false := eqOf rfl
theorem z194 (c) : env.fz c 194 = false := eqOf rfl
theorem z195 (c) : env.fz c 195 = false := eqOf rfl
theorem z196 (c) : env.fz c 196 = false := eqOf rfl
theorem z197 (c) : env.fz c 197 = false := eqOf rfl
theorem z198 (c) : env.fz c 198 = false := eqOf rfl
theorem z199 (c) : env.fz c 199 = false := eqOf rfl
theorem z200 (c) : env.fz c 200 = false := eqOf rfl
theorem z201 (c) : env.fz c 201 = false := eqOf rfl
theorem z202 (c) : env.fz c 202 = false := eqOf rfl
theorem z203 (c) : env.fz c 203 = false := eqOf rfl
theorem z204 (c) : env.fz c 204 = false := eqOf rfl
theorem z205 (c) : env.fz c 205 = true := eqOf rfl
theorem z206 (c) : env.fz c 206 = true := eqOf rfl
theorem z207 (c) : env.fz c 207 = false := eqOf rfl
theorem z208 (c) : env.fz c 208 = false := eqOf rfl
theorem z209 (c) : env.fz c 209 = false := eqOf rfl
theorem z210 (c) : env.fz c 210 = false := eqOf rfl
theorem z211 (c) : env.fz c 211 = false := eqOf rfl
theorem z212 (c) : env.fz c 212 = false := eqOf rfl
theorem z213 (c) : env.fz c 213 = false := eqOf rfl
theorem z214 (c) : env.fz c 214 = false := eqOf rfl
theorem z215 (c) : env.fz c 215 = false := eqOf rfl
theorem z216 (c) : env.fz c 216 = false := eqOf rfl
theorem z217 (c) : env.fz c 217 = false := eqOf rfl
theorem z218 (c) : env.fz c 218 = false := eqOf rfl
theorem z219 (c) : env.fz c 219 = false := eqOf rfl
theorem z220 (c) : env.fz c 220 = false := eqOf rfl
theorem z221 (c) : env.fz c 221 = false := eqOf rfl
theorem z222 (c) : env.fz c 222 = false := eqOf rfl
theorem z223 (c) : env.fz c 223 = false := eqOf rfl
theorem z224 (c) : env.fz c 224 = false := eqOf rfl
theorem z225 (c) : env.fz c 225 = false := eqOf rfl
theorem z226 (c) : env.fz c 226 = false := eqOf rfl
theorem z227 (c) : env.fz c 227 = false := eqOf rfl
theorem z228 (c) : env.fz c 228 = false := eqOf rfl
theorem z229 (c) : env.fz c 229 = false := eqOf rfl
theorem z230 (c) : env.fz c 230 = true := eqOf rfl
theorem z231 (c) : env.fz c 231 = false := eqOf rfl
theorem z232 (c) : env.fz c 232 = false := eqOf rfl
theorem z233 (c) : env.fz c 233 = false := eqOf rfl
theorem z234 (c) : env.fz c 234 = false := eqOf rfl
theorem z235 (c) : env.fz c 235 = false := eqOf rfl
theorem z236 (c) : env.fz c 236 = false := eqOf rfl
theorem z237 (c) : env.fz c 237 = false := eqOf rfl
theorem z238 (c) : env.fz c 238 = false := eqOf rfl
theorem z239 (c) : env.fz c 239 = false := eqOf rfl
theorem z240 (c) : env.fz c 240 = false := eqOf rfl
theorem z241 (c) : env.fz c 241 = false := eqOf rfl
theorem z242 (c) : env.fz c 242 = false := eqOf rfl
theorem z243 (c) : env.fz c 243 = false := eqOf rfl
theorem z244 (c) : env.fz c 244 = false := eqOf rfl
theorem z245 (c) : env.fz c 245 = false := eqOf rfl
theorem z246 (c) : env.fz c 246 = false := eqOf rfl
theorem z247 (c) : env.fz c 247 = false := eqOf rfl
theorem z248 (c) : env.fz c 248 = false := eqOf rfl
theorem z249 (c) : env.fz c 249 = false := eqOf rfl
theorem z250 (c) : env.fz c 250 = false := eqOf rfl
theorem z251 (c) : env.fz c 251 = false := eqOf rfl
theorem z252 (c) : env.fz c 252 = false := eqOf rfl
theorem z253 (c) : env.fz c 253 = false := eqOf rfl
theorem z254 (c) : env.fz c 254 = false := eqOf rfl
theorem z255 (c) : env.fz c 255 = false := eqOf rfl
theorem z256 (c) : env.fz c 256 = false := eqOf rfl
theorem z257 (c) : env.fz c 257 = false := eqOf rfl
theorem z258 (c) : env.fz c 258 = false := eqOf rfl
theorem z259 (c) : env.fz c 259 = false := eqOf rfl
theorem z260 (c) : env.fz c 260 = false := eqOf rfl
theorem z261 (c) : env.fz c 261 = false := eqOf rfl
theorem z262 (c) : env.fz c 262 = false := eqOf rfl
theorem z263 (c) : env.fz c 263 = false := eqOf rfl
theorem z264 (c) : env.fz c 264 = false := eqOf rfl
theorem z265 (c) : env.fz c 265 = false := eqOf rfl
theorem z266 (c) : env.fz c 266 = false := eqOf rfl
theorem z267 (c) : env.fz c 267 = false := eqOf rfl
theorem z268 (c) : env.fz c 268 = false := eqOf rfl
theorem z269 (c) : env.fz c 269 = false := eqOf rfl
theorem z270 (c) : env.fz c 270 = false := eqOf rfl
theorem z271 (c) : env.fz c 271 = false := eqOf rfl
theorem z272 (c) : env.fz c 272 = false := eqOf rfl
theorem p0 : env.prim 0 = none := rfl
theorem p1 : env.prim 1 = none := rfl
theorem p2 : env.prim 2 = none := rfl
theorem p3 : env.prim 3 = none := rfl
theorem p4 : env.prim 4 = none := rfl
theorem p5 : env.prim 5 = none := rfl
theorem p6 : env.prim 6 = none := rfl
theorem p7 : env.prim 7 = none := rfl
theorem p8 : env.prim 8 = none := rfl
theorem p9 : env.prim 9 = none := rfl
theorem p10 : env.prim 10 = none := rfl
theorem p11 : env.prim 11 = none := rfl
theorem p12 : env.prim 12 = none := rfl
theorem p13 : env.prim 13 = none := rfl
theorem p14 : env.prim 14 = none := rfl
theorem p15 : env.prim 15 = none := rfl
theorem p16 : env.prim 16 = none := rfl
theorem p17 : env.prim 17 = none := rfl
theorem p18 : env.prim 18 = none := rfl
theorem p19 : env.prim 19 = none := rfl
theorem p20 : env.prim 20 = none := rfl
theorem p21 : env.prim 21 = none := rfl
theorem p22 : env.prim 22 = none := rfl
theorem p23 : env.prim 23 = none := rfl
theorem p24 : env.prim 24 = none := rfl
theorem p25 : env.prim 25 = none := rfl
theorem p26 : env.prim 26 = none := rfl
theorem p27 : env.prim 27 = none := rfl
theorem p28 : env.prim 28 = none := rfl
theorem p29 : env.prim 29 = none := rfl
theorem p30 : env.prim 30 = none := rfl
theorem p31 : env.prim 31 = none := rfl
theorem p32 : env.prim 32 = none := rfl
theorem p33 : env.prim 33 = none := rfl
theorem p34 : env.prim 34 = none := rfl
theorem p35 : env.prim 35 = none := rfl
theorem p36 : env.prim 36 = none := rfl
theorem p37 : env.prim 37 = none := rfl
theorem p38 : env.prim 38 = none := rfl
theorem p39 : env.prim 39 = none := rfl
theorem p40 : env.prim 40 = none := rfl
theorem p42 : env.prim 42 = none := rfl
theorem p43 : env.prim 43 = none := rfl
theorem p44 : env.prim 44 = none := rfl
theorem p45 : env.prim 45 = none := rfl
theorem p46 : env.prim 46 = none := rfl
theorem p47 : env.prim 47 = none := rfl
theorem p48 : env.prim 48 = none := rfl
theorem p49 : env.prim 49 = none := rfl
theorem p50 : env.prim 50 = none := rfl
theorem p51 : env.prim 51 = none := rfl
theorem p52 : env.prim 52 = none := rfl
theorem p53 : env.prim 53 = none := rfl
theorem p54 : env.prim 54 = none := rfl
theorem p55 : env.prim 55 = none := rfl
theorem p56 : env.prim 56 = none := rfl
theorem p57 : env.prim 57 = none := rfl
theorem p58 : env.prim 58 = none := rfl
theorem p59 : env.prim 59 = none := rfl
theorem p60 : env.prim 60 = none := rfl
theorem p61 : env.prim 61 = none := rfl
theorem p62 : env.prim 62 = none := rfl
theorem p63 : env.prim 63 = none := rfl
theorem p64 : env.prim 64 = none := rfl
theorem p65 : env.prim 65 = none := rfl
theorem p66 : env.prim 66 = none := rfl
theorem p67 : env.prim 67 = none := rfl
theorem p68 : env.prim 68 = none := rfl
theorem p69 : env.prim 69 = none := rfl
theorem p70 : env.prim 70 = none := rfl
theorem p71 : env.prim 71 = none := rfl
theorem p72 : env.prim 72 = none := rfl
theorem p73 : env.prim 73 = none := rfl
theorem p74 : env.prim 74 = none := rfl
theorem p75 : env.prim 75 = none := rfl
theorem p76 : env.prim 76 = none := rfl
theorem p77 : env.prim 77 = none := rfl
theorem p78 : env.prim 78 = none := rfl
theorem p79 : env.prim 79 = none := rfl
theorem p80 : env.prim 80 = none := rfl
theorem p81 : env.prim 81 = none := rfl
theorem p82 : env.prim 82 = none := rfl
theorem p83 : env.prim 83 = none := rfl
theorem p84 : env.prim 84 = none := rfl
theorem p85 : env.prim 85 = none := rfl
theorem p86 : env.prim 86 = none := rfl
theorem p87 : env.prim 87 = none := rfl
theorem p88 : env.prim 88 = none := rfl
theorem p89 : env.prim 89 = none := rfl
theorem p90 : env.prim 90 = none := rfl
theorem p91 : env.prim 91 = none := rfl
theorem p92 : env.prim 92 = none := rfl
theorem p93 : env.prim 93 = none := rfl
theorem p94 : env.prim 94 = none := rfl
theorem p95 : env.prim 95 = none := rfl
theorem p96 : env.prim 96 = none := rfl
theorem p97 : env.prim 97 = none := rfl
theorem p98 : env.prim 98 = none := rfl
theorem p99 : env.prim 99 = none := rfl
theorem p100 : env.prim 100 = none := rfl
theorem p102 : env.prim 102 = none := rfl
theorem p103 : env.prim 103 = none := rfl
theorem p104 : env.prim 104 = none := rfl
theorem p105 : env.prim 105 = none := rfl
theorem p106 : env.prim 106 = none := rfl
theorem p107 : env.prim 107 = none := rfl
theorem p108 : env.prim 108 = none := rfl
theorem p109 : env.prim 109 = none := rfl
theorem p110 : env.prim 110 = none := rfl
theorem p111 : env.prim 111 = none := rfl
theorem p112 : env.prim 112 = none := rfl
theorem p113 : env.prim 113 = none := rfl
theorem p114 : env.prim 114 = none := rfl
theorem p115 : env.prim 115 = none := rfl
theorem p116 : env.prim 116 = none := rfl
theorem p117 : env.prim 117 = none := rfl
theorem p119 : env.prim 119 = none := rfl
theorem p120 : env.prim 120 = none := rfl
theorem p121 : env.prim 121 = none := rfl
theorem p122 : env.prim 122 = none := rfl
theorem p123 : env.prim 123 = none := rfl
theorem p124 : env.prim 124 = none := rfl
theorem p125 : env.prim 125 = none := rfl
theorem p126 : env.prim 126 = none := rfl
theorem p127 : env.prim 127 = none := rfl
theorem p128 : env.prim 128 = none := rfl
theorem p129 : env.prim 129 = none := rfl
theorem p130 : env.prim 130 = none := rfl
theorem p131 : env.prim 131 = none := rfl
theorem p132 : env.prim 132 = none := rfl
theorem p133 : env.prim 133 = none := rfl
theorem p134 : env.prim 134 = none := rfl
theorem p135 : env.prim 135 = none := rfl
theorem p136 : env.prim 136 = none := rfl
theorem p137 : env.prim 137 = none := rfl
theorem p138 : env.prim 138 = none := rfl
theorem p139 : env.prim 139 = none := rfl
theorem p140 : env.prim 140 = none := rfl
theorem p141 : env.prim 141 = none := rfl
theorem p142 : env.prim 142 = none := rfl
theorem p143 : env.prim 143 = none := rfl
theorem p144 : env.prim 144 = none := rfl
theorem p145 : env.prim 145 = none := rfl
theorem p146 : env.prim 146 = none := rfl
theorem p147 : env.prim 147 = none := rfl
theorem p148 : env.prim 148 = none := rfl
theorem p149 : env.prim 149 = none := rfl
theorem p150 : env.prim 150 = none := rfl
theorem p151 : env.prim 151 = none := rfl
theorem p152 : env.prim 152 = none := rfl
theorem p153 : env.prim 153 = none := rfl
theorem p154 : env.prim 154 = none := rfl
theorem p155 : env.prim 155 = none := rfl
theorem p156 : env.prim 156 = none := rfl
theorem p157 : env.prim 157 = none := rfl
theorem p158 : env.prim 158 = none := rfl
theorem p159 : env.prim 159 = none := rfl
theorem p160 : env.prim 160 = none := rfl
theorem p161 : env.prim 161 = none := rfl
theorem p162 : env.prim 162 = none := rfl
theorem p163 : env.prim 163 = none := rfl
theorem p164 : env.prim 164 = none := rfl
theorem p165 : env.prim 165 = none := rfl
theorem p166 : env.prim 166 = none := rfl
theorem p167 : env.prim 167 = none := rfl
theorem p168 : env.prim 168 = none := rfl
theorem p169 : env.prim 169 = none := rfl
theorem p170 : env.prim 170 = none := rfl
theorem p171 : env.prim 171 = none := rfl
theorem p172 : env.prim 172 = none := rfl
theorem p173 : env.prim 173 = none := rfl
theorem p174 : env.prim 174 = none := rfl
theorem p175 : env.prim 175 = none := rfl
theorem p176 : env.prim 176 = none := rfl
theorem p177 : env.prim 177 = none := rfl
theorem p178 : env.prim 178 = none := rfl
theorem p179 : env.prim 179 = none := rfl
theorem p180 : env.prim 180 = none := rfl
theorem p181 : env.prim 181 = none := rfl
theorem p182 : env.prim 182 = none := rfl
theorem p183 : env.prim 183 = none := rfl
theorem p184 : env.prim 184 = none := rfl
theorem p185 : env.prim 185 = none := rfl
theorem p186 : env.prim 186 = none := rfl
theorem p187 : env.prim 187 = none := rfl
theorem p188 : env.prim 188 = none := rfl
theorem p189 : env.prim 189 = none := rfl
theorem p190 : env.prim 190 = none := rfl
theorem p191 : env.prim 191 = none := rfl
theorem p192 : env.prim 192 = none := rfl
theorem p193 : env.prim 193 = none := rfl
theorem p194 : env.prim 194 = none := rfl
theorem p195 : env.prim 195 = none := rfl
theorem p196 : env.prim 196 = none := rfl
theorem p197 : env.prim 197 = none := rfl
theorem p198 : env.prim 198 = none := rfl
theorem p199 : env.prim 199 = none := rfl
theorem p200 : env.prim 200 = none := rfl
theorem p201 : env.prim 201 = none := rfl
theorem p202 : env.prim 202 = none := rfl
theorem p203 : env.prim 203 = none := rfl
theorem p204 : env.prim 204 = none := rfl
theorem p205 : env.prim 205 = none := rfl
theorem p206 : env.prim 206 = none := rfl
theorem p207 : env.prim 207 = none := rfl
theorem p208 : env.prim 208 = none := rfl
theorem p209 : env.prim 209 = none := rfl
theorem p210 : env.prim 210 = none := rfl
theorem p211 : env.prim 211 = none := rfl
theorem p213 : env.prim 213 = none := rfl
theorem p214 : env.prim 214 = none := rfl
theorem p215 : env.prim 215 = none := rfl
theorem p216 : env.prim 216 = none := rfl
theorem p217 : env.prim 217 = none := rfl
theorem p218 : env.prim 218 = none := rfl
theorem p219 : env.prim 219 = none := rfl
theorem p220 : env.prim 220 = none := rfl
theorem p221 : env.prim 221 = none := rfl
theorem p222 : env.prim 222 = none := rfl
theorem p223 : env.prim 223 = none := rfl
theorem p224 : env.prim 224 = none := rfl
theorem p225 : env.prim 225 = none := rfl
theorem p226 : env.prim 226 = none := rfl
theorem p227 : env.prim 227 = none := rfl
theorem p228 : env.prim 228 = none := rfl
theorem p229 : env.prim 229 = none := rfl
theorem p230 : env.prim 230 = none := rfl
theorem p231 : env.prim 231 = none := rfl
theorem p232 : env.prim 232 = none := rfl
theorem p233 : env.prim 233 = none := rfl
theorem p234 : env.prim 234 = none := rfl
theorem p235 : env.prim 235 = none := rfl
theorem p236 : env.prim 236 = none := rfl
theorem p237 : env.prim 237 = none := rfl
theorem p238 : env.prim 238 = none := rfl
theorem p240 : env.prim 240 = none := rfl
theorem p241 : env.prim 241 = none := rfl
theorem p242 : env.prim 242 = none := rfl
theorem p243 : env.prim 243 = none := rfl
theorem p244 : env.prim 244 = none := rfl
theorem p245 : env.prim 245 = none := rfl
theorem p246 : env.prim 246 = none := rfl
theorem p247 : env.prim 247 = none := rfl
theorem p248 : env.prim 248 = none := rfl
theorem p249 : env.prim 249 = none := rfl
theorem p250 : env.prim 250 = none := rfl
theorem p251 : env.prim 251 = none := rfl
theorem p252 : env.prim 252 = none := rfl
theorem p253 : env.prim 253 = none := rfl
theorem p254 : env.prim 254 = none := rfl
theorem p255 : env.prim 255 = none := rfl
theorem p256 : env.prim 256 = none := rfl
theorem p257 : env.prim 257 = none := rfl
theorem p258 : env.prim 258 = none := rfl
theorem p259 : env.prim 259 = none := rfl
theorem p260 : env.prim 260 = none := rfl
theorem p261 : env.prim 261 = none := rfl
theorem p262 : env.prim 262 = none := rfl
theorem p263 : env.prim 263 = none := rfl
theorem p264 : env.prim 264 = none := rfl
theorem p265 : env.prim 265 = none := rfl
theorem p266 : env.prim 266 = none := rfl
theorem p267 : env.prim 267 = none := rfl
theorem p268 : env.prim 268 = none := rfl
theorem p269 : env.prim 269 = none := rfl
theorem p270 : env.prim 270 = none := rfl
theorem p271 : env.prim 271 = none := rfl
theorem p272 : env.prim 272 = none := rfl
theorem h0 (a b) : env.cprim 0 (.seq a b) = none := cp_none (by decide) a b
theorem h1 (a b) : env.cprim 1 (.seq a b) = none := cp_none (by decide) a b
theorem h2 (a b) : env.cprim 2 (.seq a b) = none := cp_none (by decide) a b
theorem h3 (a b) : env.cprim 3 (.seq a b) = none := cp_none (by decide) a b
theorem h4 (a b) : env.cprim 4 (.seq a b) = none := cp_none (by decide) a b
theorem h5 (a b) : env.cprim 5 (.seq a b) = none := cp_none (by decide) a b
theorem h6 (a b) : env.cprim 6 (.seq a b) = none := cp_none (by decide) a b
theorem h7 (a b) : env.cprim 7 (.seq a b) = none := cp_none (by decide) a b
theorem h8 (a b) : env.cprim 8 (.seq a b) = none := cp_none (by decide) a b
theorem h9 (a b) : env.cprim 9 (.seq a b) = none := cp_none (by decide) a b
theorem h10 (a b) : env.cprim 10 (.seq a b) = none := cp_none (by decide) a b
theorem h11 (a b) : env.cprim 11 (.seq a b) = none := cp_none (by decide) a b
theorem h12 (a b) : env.cprim 12 (.seq a b) = none := cp_none (by decide) a b
theorem h13 (a b) : env.cprim 13 (.seq a b) = none := cp_none (by decide) a b
theorem h14 (a b) : env.cprim 14 (.seq a b) = none := cp_none (by decide) a b
theorem h15 (a b) : env.cprim 15 (.seq a b) = none := cp_none (by decide) a b
theorem h16 (a b) : env.cprim 16 (.seq a b) = none := cp_none (by decide) a b
theorem h17 (a b) : env.cprim 17 (.seq a b) = none := cp_none (by decide) a b
theorem h18 (a b) : env.cprim 18 (.seq a b) = none := cp_none (by decide) a b
theorem h19 (a b) : env.cprim 19 (.seq a b) = none := cp_none (by decide) a b
theorem h20 (a b) : env.cprim 20 (.seq a b) = none := cp_none (by decide) a b
theorem h21 (a b) : env.cprim 21 (.seq a b) = none := cp_none (by decide) a b
theorem h22 (a b) : env.cprim 22 (.seq a b) = none := cp_none (by decide) a b
theorem h23 (a b) : env.cprim 23 (.seq a b) = none := cp_none (by decide) a b
theorem h24 (a b) : env.cprim 24 (.seq a b) = none := cp_none (by decide) a b
theorem h25 (a b) : env.cprim 25 (.seq a b) = none := cp_none (by decide) a b
theorem h26 (a b) : env.cprim 26 (.seq a b) = none := cp_none (by decide) a b
theorem h27 (a b) : env.cprim 27 (.seq a b) = none := cp_none (by decide) a b
theorem h28 (a b) : env.cprim 28 (.seq a b) = none := cp_none (by decide) a b
theorem h29 (a b) : env.cprim 29 (.seq a b) = none := cp_none (by decide) a b
theorem h30 (a b) : env.cprim 30 (.seq a b) = none := cp_none (by decide) a b
theorem h31 (a b) : env.cprim 31 (.seq a b) = none := cp_none (by decide) a b
theorem h32 (a b) : env.cprim 32 (.seq a b) = none := cp_none (by decide) a b
theorem h33 (a b) : env.cprim 33 (.seq a b) = none := cp_none (by decide) a b
theorem h34 (a b) : env.cprim 34 (.seq a b) = none := cp_none (by decide) a b
theorem h35 (a b) : env.cprim 35 (.seq a b) = none := cp_none (by decide) a b
theorem h36 (a b) : env.cprim 36 (.seq a b) = none := cp_none (by decide) a b
theorem h37 (a b) : env.cprim 37 (.seq a b) = none := cp_none (by decide) a b
theorem h38 (a b) : env.cprim 38 (.seq a b) = none := cp_none (by decide) a b
theorem h39 (a b) : env.cprim 39 (.seq a b) = none := cp_none (by decide) a b
theorem h40 (a b) : env.cprim 40 (.seq a b) = none := cp_none (by decide) a b
theorem h41 (a b) : env.cprim 41 (.seq a b) = none := cp_none (by decide) a b
theorem h42 (a b) : env.cprim 42 (.seq a b) = none := cp_none (by decide) a b
theorem h43 (a b) : env.cprim 43 (.seq a b) = none := cp_none (by decide) a b
theorem h44 (a b) : env.cprim 44 (.seq a b) = none := cp_none (by decide) a b
theorem h45 (a b) : env.cprim 45 (.seq a b) = none := cp_none (by decide) a b
theorem h46 (a b) : env.cprim 46 (.seq a b) = none := cp_none (by decide) a b
theorem h47 (a b) : env.cprim 47 (.seq a b) = none := cp_none (by decide) a b
theorem h48 (a b) : env.cprim 48 (.seq a b) = none := cp_none (by decide) a b
theorem h49 (a b) : env.cprim 49 (.seq a b) = none := cp_none (by decide) a b
theorem h50 (a b) : env.cprim 50 (.seq a b) = none := cp_none (by decide) a b
theorem h51 (a b) : env.cprim 51 (.seq a b) = none := cp_none (by decide) a b
theorem h52 (a b) : env.cprim 52 (.seq a b) = none := cp_none (by decide) a b
theorem h53 (a b) : env.cprim 53 (.seq a b) = none := cp_none (by decide) a b
theorem h54 (a b) : env.cprim 54 (.seq a b) = none := cp_none (by decide) a b
theorem h55 (a b) : env.cprim 55 (.seq a b) = none := cp_none (by decide) a b
theorem h56 (a b) : env.cprim 56 (.seq a b) = none := cp_none (by decide) a b
theorem h57 (a b) : env.cprim 57 (.seq a b) = none := cp_none (by decide) a b
theorem h58 (a b) : env.cprim 58 (.seq a b) = none := cp_none (by decide) a b
theorem h59 (a b) : env.cprim 59 (.seq a b) = none := cp_none (by decide) a b
theorem h60 (a b) : env.cprim 60 (.seq a b) = none := cp_none (by decide) a b
theorem h61 (a b) : env.cprim 61 (.seq a b) = none := cp_none (by decide) a b
theorem h62 (a b) : env.cprim 62 (.seq a b) = none := cp_none (by decide) a b
theorem h63 (a b) : env.cprim 63 (.seq a b) = none := cp_none (by decide) a b
theorem h64 (a b) : env.cprim 64 (.seq a b) = none := cp_none (by decide) a b
theorem h65 (a b) : env.cprim 65 (.seq a b) = none := cp_none (by decide) a b
theorem h66 (a b) : env.cprim 66 (.seq a b) = none := cp_none (by decide) a b
theorem h67 (a b) : env.cprim 67 (.seq a b) = none := cp_none (by decide) a b
theorem h68 (a b) : env.cprim 68 (.seq a b) = none := cp_none (by decide) a b
theorem h69 (a b) : env.cprim 69 (.seq a b) = none := cp_none (by decide) a b
theorem h70 (a b) : env.cprim 70 (.seq a b) = none := cp_none (by decide) a b
theorem h71 (a b) : env.cprim 71 (.seq a b) = none := cp_none (by decide) a b
theorem h72 (a b) : env.cprim 72 (.seq a b) = none := cp_none (by decide) a b
theorem h73 (a b) : env.cprim 73 (.seq a b) = none := cp_none (by decide) a b
theorem h74 (a b) : env.cprim 74 (.seq a b) = none := cp_none (by decide) a b
theorem h75 (a b) : env.cprim 75 (.seq a b) = none := cp_none (by decide) a b
theorem h76 (a b) : env.cprim 76 (.seq a b) = none := cp_none (by decide) a b
theorem h77 (a b) : env.cprim 77 (.seq a b) = none := cp_none (by decide) a b
theorem h78 (a b) : env.cprim 78 (.seq a b) = none := cp_none (by decide) a b
theorem h79 (a b) : env.cprim 79 (.seq a b) = none := cp_none (by decide) a b
theorem h80 (a b) : env.cprim 80 (.seq a b) = none := cp_none (by decide) a b
theorem h81 (a b) : env.cprim 81 (.seq a b) = none := cp_none (by decide) a b
theorem h82 (a b) : env.cprim 82 (.seq a b) = none := cp_none (by decide) a b
theorem h83 (a b) : env.cprim 83 (.seq a b) = none := cp_none (by decide) a b
theorem h84 (a b) : env.cprim 84 (.seq a b) = none := cp_none (by decide) a b
theorem h85 (a b) : env.cprim 85 (.seq a b) = none := cp_none (by decide) a b
theorem h86 (a b) : env.cprim 86 (.seq a b) = none := cp_none (by decide) a b
theorem h87 (a b) : env.cprim 87 (.seq a b) = none := cp_none (by decide) a b
theorem h88 (a b) : env.cprim 88 (.seq a b) = none := cp_none (by decide) a b
theorem h89 (a b) : env.cprim 89 (.seq a b) = none := cp_none (by decide) a b
theorem h90 (a b) : env.cprim 90 (.seq a b) = none := cp_none (by decide) a b
theorem h91 (a b) : env.cprim 91 (.seq a b) = none := cp_none (by decide) a b
theorem h92 (a b) : env.cprim 92 (.seq a b) = none := cp_none (by decide) a b
theorem h94 (a b) : env.cprim 94 (.seq a b) = none := cp_none (by decide) a b
theorem h95 (a b) : env.cprim 95 (.seq a b) = none := cp_none (by decide) a b
theorem h96 (a b) : env.cprim 96 (.seq a b) = none := cp_none (by decide) a b
theorem h97 (a b) : env.cprim 97 (.seq a b) = none := cp_none (by decide) a b
theorem h98 (a b) : env.cprim 98 (.seq a b) = none := cp_none (by decide) a b
theorem h99 (a b) : env.cprim 99 (.seq a b) = none := cp_none (by decide) a b
theorem h100 (a b) : env.cprim 100 (.seq a b) = none := cp_none (by decide) a b
theorem h101 (a b) : env.cprim 101 (.seq a b) = none := cp_none (by decide) a b
theorem h102 (a b) : env.cprim 102 (.seq a b) = none := cp_none (by decide) a b
theorem h103 (a b) : env.cprim 103 (.seq a b) = none := cp_none (by decide) a b
theorem h104 (a b) : env.cprim 104 (.seq a b) = none := cp_none (by decide) a b
theorem h105 (a b) : env.cprim 105 (.seq a b) = none := cp_none (by decide) a b
theorem h106 (a b) : env.cprim 106 (.seq a b) = none := cp_none (by decide) a b
theorem h107 (a b) : env.cprim 107 (.seq a b) = none := cp_none (by decide) a b
theorem h108 (a b) : env.cprim 108 (.seq a b) = none := cp_none (by decide) a b
theorem h109 (a b) : env.cprim 109 (.seq a b) = none := cp_none (by decide) a b
theorem h110 (a b) : env.cprim 110 (.seq a b) = none := cp_none (by decide) a b
theorem h111 (a b) : env.cprim 111 (.seq a b) = none := cp_none (by decide) a b
theorem h112 (a b) : env.cprim 112 (.seq a b) = none := cp_none (by decide) a b
theorem h113 (a b) : env.cprim 113 (.seq a b) = none := cp_none (by decide) a b
theorem h114 (a b) : env.cprim 114 (.seq a b) = none := cp_none (by decide) a b
theorem h115 (a b) : env.cprim 115 (.seq a b) = none := cp_none (by decide) a b
theorem h116 (a b) : env.cprim 116 (.seq a b) = none := cp_none (by decide) a b
theorem h117 (a b) : env.cprim 117 (.seq a b) = none := cp_none (by decide) a b
theorem h118 (a b) : env.cprim 118 (.seq a b) = none := cp_none (by decide) a b
theorem h119 (a b) : env.cprim 119 (.seq a b) = none := cp_none (by decide) a b
theorem h120 (a b) : env.cprim 120 (.seq a b) = none := cp_none (by decide) a b
theorem h121 (a b) : env.cprim 121 (.seq a b) = none := cp_none (by decide) a b
theorem h122 (a b) : env.cprim 122 (.seq a b) = none := cp_none (by decide) a b
theorem h123 (a b) : env.cprim 123 (.seq a b) = none := cp_none (by decide) a b
theorem h124 (a b) : env.cprim 124 (.seq a b) = none := cp_none (by decide) a b
theorem h125 (a b) : env.cprim 125 (.seq a b) = none := cp_none (by decide) a b
theorem h126 (a b) : env.cprim 126 (.seq a b) = none := cp_none (by decide) a b
theorem h127 (a b) : env.cprim 127 (.seq a b) = none := cp_none (by decide) a b
theorem h128 (a b) : env.cprim 128 (.seq a b) = none := cp_none (by decide) a b
theorem h129 (a b) : env.cprim 129 (.seq a b) = none := cp_none (by decide) a b
theorem h130 (a b) : env.cprim 130 (.seq a b) = none := cp_none (by decide) a b
theorem h131 (a b) : env.cprim 131 (.seq a b) = none := cp_none (by decide) a b
theorem h132 (a b) : env.cprim 132 (.seq a b) = none := cp_none (by decide) a b
theorem h133 (a b) : env.cprim 133 (.seq a b) = none := cp_none (by decide) a b
theorem h134 (a b) : env.cprim 134 (.seq a b) = none := cp_none (by decide) a b
theorem h135 (a b) : env.cprim 135 (.seq a b) = none := cp_none (by decide) a b
theorem h136 (a b) : env.cprim 136 (.seq a b) = none := cp_none (by decide) a b
theorem h137 (a b) : env.cprim 137 (.seq a b) = none := cp_none (by decide) a b
theorem h138 (a b) : env.cprim 138 (.seq a b) = none := cp_none (by decide) a b
theorem h139 (a b) : env.cprim 139 (.seq a b) = none := cp_none (by decide) a b
theorem h140 (a b) : env.cprim 140 (.seq a b) = none := cp_none (by decide) a b
theorem h141 (a b) : env.cprim 141 (.seq a b) = none := cp_none (by decide) a b
theorem h142 (a b) : env.cprim 142 (.seq a b) = none := cp_none (by decide) a b
theorem h143 (a b) : env.cprim 143 (.seq a b) = none := cp_none (by decide) a b
theorem h144 (a b) : env.cprim 144 (.seq a b) = none := cp_none (by decide) a b
theorem h145 (a b) : env.cprim 145 (.seq a b) = none := cp_none (by decide) a b
theorem h146 (a b) : env.cprim 146 (.seq a b) = none := cp_none (by decide) a b
theorem h147 (a b) : env.cprim 147 (.seq a b) = none := cp_none (by decide) a b
theorem h148 (a b) : env.cprim 148 (.seq a b) = none := cp_none (by decide) a b
theorem h149 (a b) : env.cprim 149 (.seq a b) = none := cp_none (by decide) a b
theorem h150 (a b) : env.cprim 150 (.seq a b) = none := cp_none (by decide) a b
theorem h151 (a b) : env.cprim 151 (.seq a b) = none := cp_none (by decide) a b
theorem h152 (a b) : env.cprim 152 (.seq a b) = none := cp_none (by decide) a b
theorem h153 (a b) : env.cprim 153 (.seq a b) = none := cp_none (by decide) a b
theorem h154 (a b) : env.cprim 154 (.seq a b) = none := cp_none (by decide) a b
theorem h155 (a b) : env.cprim 155 (.seq a b) = none := cp_none (by decide) a b
theorem h156 (a b) : env.cprim 156 (.seq a b) = none := cp_none (by decide) a b
theorem h157 (a b) : env.cprim 157 (.seq a b) = none := cp_none (by decide) a b
theorem h158 (a b) : env.cprim 158 (.seq a b) = none := cp_none (by decide) a b
theorem h159 (a b) : env.cprim 159 (.seq a b) = none := cp_none (by decide) a b
theorem h160 (a b) : env.cprim 160 (.seq a b) = none := cp_none (by decide) a b
theorem h161 (a b) : env.cprim 161 (.seq a b) = none := cp_none (by decide) a b
theorem h162 (a b) : env.cprim 162 (.seq a b) = none := cp_none (by decide) a b
theorem h163 (a b) : env.cprim 163 (.seq a b) = none := cp_none (by decide) a b
theorem h164 (a b) : env.cprim 164 (.seq a b) = none := cp_none (by decide) a b
theorem h165 (a b) : env.cprim 165 (.seq a b) = none := cp_none (by decide) a b
theorem h166 (a b) : env.cprim 166 (.seq a b) = none := cp_none (by decide) a b
theorem h167 (a b) : env.cprim 167 (.seq a b) = none := cp_none (by decide) a b
theorem h168 (a b) : env.cprim 168 (.seq a b) = none := cp_none (by decide) a b
theorem h169 (a b) : env.cprim 169 (.seq a b) = none := cp_none (by decide) a b
theorem h170 (a b) : env.cprim 170 (.seq a b) = none := cp_none (by decide) a b
theorem h171 (a b) : env.cprim 171 (.seq a b) = none := cp_none (by decide) a b
theorem h172 (a b) : env.cprim 172 (.seq a b) = none := cp_none (by decide) a b
theorem h173 (a b) : env.cprim 173 (.seq a b) = none := cp_none (by decide) a b
theorem h174 (a b) : env.cprim 174 (.seq a b) = none := cp_none (by decide) a b
theorem h175 (a b) : env.cprim 175 (.seq a b) = none := cp_none (by decide) a b
theorem h176 (a b) : env.cprim 176 (.seq a b) = none := cp_none (by decide) a b
theorem h177 (a b) : env.cprim 177 (.seq a b) = none := cp_none (by decide) a b
theorem h178 (a b) : env.cprim 178 (.seq a b) = none := cp_none (by decide) a b
theorem h179 (a b) : env.cprim 179 (.seq a b) = none := cp_none (by decide) a b
theorem h180 (a b) : env.cprim 180 (.seq a b) = none := cp_none (by decide) a b
theorem h181 (a b) : env.cprim 181 (.seq a b) = none := cp_none (by decide) a b
theorem h182 (a b) : env.cprim 182 (.seq a b) = none := cp_none (by decide) a b
theorem h183 (a b) : env.cprim 183 (.seq a b) = none := cp_none (by decide) a b
theorem h184 (a b) : env.cprim 184 (.seq a b) = none := cp_none (by decide) a b
theorem h185 (a b) : env.cprim 185 (.seq a b) = none := cp_none (by decide) a b
theorem h186 (a b) : env.cprim 186 (.seq a b) = none := cp_none (by decide) a b
theorem h187 (a b) : env.cprim 187 (.seq a b) = none := cp_none (by decide) a b
theorem h188 (a b) : env.cprim 188 (.seq a b) = none := cp_none (by decide) a b
theorem h189 (a b) : env.cprim 189 (.seq a b) = none := cp_none (by decide) a b
theorem h190 (a b) : env.cprim 190 (.seq a b) = none := cp_none (by decide) a b
theorem h191 (a b) : env.cprim 191 (.seq a b) = none := cp_none (by decide) a b
theorem h192 (a b) : env.cprim 192 (.seq a b) = none := cp_none (by decide) a b
theorem h193 (a b) : env.cprim 193 (.seq a b) = none := cp_none (by decide) a b
theorem h194 (a b) : env.cprim 194 (.seq a b) = none := cp_none (by decide) a b
theorem h195 (a b) : env.cprim 195 (.seq a b) = none := cp_none (by decide) a b
theorem h196 (a b) : env.cprim 196 (.seq a b) = none := cp_none (by decide) a b
theorem h197 (a b) : env.cprim 197 (.seq a b) = none := cp_none (by decide) a b
theorem h198 (a b) : env.cprim 198 (.seq a b) = none := cp_none (by decide) a b
theorem h199 (a b) : env.cprim 199 (.seq a b) = none := cp_none (by decide) a b
theorem h200 (a b) : env.cprim 200 (.seq a b) = none := cp_none (by decide) a b
theorem h201 (a b) : env.cprim 201 (.seq a b) = none := cp_none (by decide) a b
theorem h202 (a b) : env.cprim 202 (.seq a b) = none := cp_none (by decide) a b
theorem h203 (a b) : env.cprim 203 (.seq a b) = none := cp_none (by decide) a b
theorem h204 (a b) : env.cprim 204 (.seq a b) = none := cp_none (by decide) a b
theorem h205 (a b) : env.cprim 205 (.seq a b) = none := cp_none (by decide) a b
theorem h206 (a b) : env.cprim 206 (.seq a b) = none := cp_none (by decide) a b
theorem h207 (a b) : env.cprim 207 (.seq a b) = none := cp_none (by decide) a b
theorem h208 (a b) : env.cprim 208 (.seq a b) = none := cp_none (by decide) a b
theorem h209 (a b) : env.cprim 209 (.seq a b) = none := cp_none (by decide) a b
theorem h210 (a b) : env.cprim 210 (.seq a b) = none := cp_none (by decide) a b
theorem h211 (a b) : env.cprim 211 (.seq a b) = none := cp_none (by decide) a b
theorem h212 (a b) : env.cprim 212 (.seq a b) = none := cp_none (by decide) a b
theorem h213 (a b) : env.cprim 213 (.seq a b) = none := cp_none (by decide) a b
theorem h214 (a b) : env.cprim 214 (.seq a b) = none := cp_none (by decide) a b
theorem h215 (a b) : env.cprim 215 (.seq a b) = none := cp_none (by decide) a b
theorem h216 (a b) : env.cprim 216 (.seq a b) = none := cp_none (by decide) a b
theorem h217 (a b) : env.cprim 217 (.seq a b) = none := cp_none (by decide) a b
theorem h218 (a b) : env.cprim 218 (.seq a b) = none := cp_none (by decide) a b
theorem h219 (a b) : env.cprim 219 (.seq a b) = none := cp_none (by decide) a b
theorem h220 (a b) : env.cprim 220 (.seq a b) = none := cp_none (by decide) a b
theorem h221 (a b) : env.cprim 221 (.seq a b) = none := cp_none (by decide) a b
theorem h222 (a b) : env.cprim 222 (.seq a b) = none := cp_none (by decide) a b
theorem h223 (a b) : env.cprim 223 (.seq a b) = none := cp_none (by decide) a b
theorem h224 (a b) : env.cprim 224 (.seq a b) = none := cp_none (by decide) a b
theorem h225 (a b) : env.cprim 225 (.seq a b) = none := cp_none (by decide) a b
theorem h226 (a b) : env.cprim 226 (.seq a b) = none := cp_none (by decide) a b
theorem h227 (a b) : env.cprim 227 (.seq a b) = none := cp_none (by decide) a b
theorem h228 (a b) : env.cprim 228 (.seq a b) = none := cp_none (by decide) a b
theorem h229 (a b) : env.cprim 229 (.seq a b) = none := cp_none (by decide) a b
theorem h230 (a b) : env.cprim 230 (.seq a b) = none := cp_none (by decide) a b
theorem h231 (a b) : env.cprim 231 (.seq a b) = none := cp_none (by decide) a b
theorem h232 (a b) : env.cprim 232 (.seq a b) = none := cp_none (by decide) a b
theorem h233 (a b) : env.cprim 233 (.seq a b) = none := cp_none (by decide) a b
theorem h234 (a b) : env.cprim 234 (.seq a b) = none := cp_none (by decide) a b
theorem h235 (a b) : env.cprim 235 (.seq a b) = none := cp_none (by decide) a b
theorem h236 (a b) : env.cprim 236 (.seq a b) = none := cp_none (by decide) a b
theorem h237 (a b) : env.cprim 237 (.seq a b) = none := cp_none (by decide) a b
theorem h238 (a b) : env.cprim 238 (.seq a b) = none := cp_none (by decide) a b
theorem h239 (a b) : env.cprim 239 (.seq a b) = none := cp_none (by decide) a b
theorem h240 (a b) : env.cprim 240 (.seq a b) = none := cp_none (by decide) a b
theorem h241 (a b) : env.cprim 241 (.seq a b) = none := cp_none (by decide) a b
theorem h242 (a b) : env.cprim 242 (.seq a b) = none := cp_none (by decide) a b
theorem h243 (a b) : env.cprim 243 (.seq a b) = none := cp_none (by decide) a b
theorem h244 (a b) : env.cprim 244 (.seq a b) = none := cp_none (by decide) a b
theorem h245 (a b) : env.cprim 245 (.seq a b) = none := cp_none (by decide) a b
theorem h246 (a b) : env.cprim 246 (.seq a b) = none := cp_none (by decide) a b
theorem h247 (a b) : env.cprim 247 (.seq a b) = none := cp_none (by decide) a b
theorem h248 (a b) : env.cprim 248 (.seq a b) = none := cp_none (by decide) a b
theorem h249 (a b) : env.cprim 249 (.seq a b) = none := cp_none (by decide) a b
theorem h250 (a b) : env.cprim 250 (.seq a b) = none := cp_none (by decide) a b
theorem h251 (a b) : env.cprim 251 (.seq a b) = none := cp_none (by decide) a b
theorem h252 (a b) : env.cprim 252 (.seq a b) = none := cp_none (by decide) a b
theorem h253 (a b) : env.cprim 253 (.seq a b) = none := cp_none (by decide) a b
theorem h254 (a b) : env.cprim 254 (.seq a b) = none := cp_none (by decide) a b
theorem h255 (a b) : env.cprim 255 (.seq a b) = none := cp_none (by decide) a b
theorem h256 (a b) : env.cprim 256 (.seq a b) = none := cp_none (by decide) a b
theorem h257 (a b) : env.cprim 257 (.seq a b) = none := cp_none (by decide) a b
theorem h258 (a b) : env.cprim 258 (.seq a b) = none := cp_none (by decide) a b
theorem h259 (a b) : env.cprim 259 (.seq a b) = none := cp_none (by decide) a b
theorem h260 (a b) : env.cprim 260 (.seq a b) = none := cp_none (by decide) a b
theorem h261 (a b) : env.cprim 261 (.seq a b) = none := cp_none (by decide) a b
theorem h262 (a b) : env.cprim 262 (.seq a b) = none := cp_none (by decide) a b
theorem h263 (a b) : env.cprim 263 (.seq a b) = none := cp_none (by decide) a b
theorem h264 (a b) : env.cprim 264 (.seq a b) = none := cp_none (by decide) a b
theorem h265 (a b) : env.cprim 265 (.seq a b) = none := cp_none (by decide) a b
theorem h266 (a b) : env.cprim 266 (.seq a b) = none := cp_none (by decide) a b
theorem h267 (a b) : env.cprim 267 (.seq a b) = none := cp_none (by decide) a b
theorem h268 (a b) : env.cprim 268 (.seq a b) = none := cp_none (by decide) a b
theorem h269 (a b) : env.cprim 269 (.seq a b) = none := cp_none (by decide) a b
theorem h270 (a b) : env.cprim 270 (.seq a b) = none := cp_none (by decide) a b
theorem h271 (a b) : env.cprim 271 (.seq a b) = none := cp_none (by decide) a b
theorem h272 (a b) : env.cprim 272 (.seq a b) = none := cp_none (by decide) a b
theorem l0 (r ops s f M) : Chk env 0 r ops s f M := chk_none (by simp [env, looseOf])
theorem l1 (r ops s f M) : Chk env 1 r ops s f M := chk_none (by simp [env, looseOf])
theorem l2 (r ops s f M) : Chk env 2 r ops s f M := chk_none (by simp [env, looseOf])
theorem l3 (r ops s f M) : Chk env 3 r ops s f M := chk_none (by simp [env, looseOf])
theorem l4 (r ops s f M) : Chk env 4 r ops s f M := chk_none (by simp [env, looseOf])
theorem l5 (r ops s f M) : Chk env 5 r ops s f M := chk_none (by simp [env, looseOf])
theorem l6 (r ops s f M) : Chk env 6 r ops s f M := chk_none (by simp [env, looseOf])
theorem l7 (r ops s f M) : Chk env 7 r ops s f M := chk_none (by simp [env, looseOf])
theorem l8 (r ops s f M) : Chk env 8 r ops s f M := chk_none (by simp [env, looseOf])
theorem l9 (r ops s f M) : Chk env 9 r ops s f M := chk_none (by simp [env, looseOf])
theorem l10 (r ops s f M) : Chk env 10 r ops s f M := chk_none (by simp [env, looseOf])
theorem l11 (r ops s f M) : Chk env 11 r ops s f M := chk_none (by simp [env, looseOf])
theorem l12 (r ops s f M) : Chk env 12 r ops s f M := chk_none (by simp [env, looseOf])
theorem l13 (r ops s f M) (h : looseOf 13 r = []) : Chk env 13 r ops s f M := chk_none h
theorem l14 (r ops s f M) : Chk env 14 r ops s f M := chk_none (by simp [env, looseOf])
theorem l15 (r ops s f M) : Chk env 15 r ops s f M := chk_none (by simp [env, looseOf])
theorem l16 (r ops s f M) : Chk env 16 r ops s f M := chk_none (by simp [env, looseOf])
theorem l17 (r ops s f M) : Chk env 17 r ops s f M := chk_none (by simp [env, looseOf])
theorem l18 (r ops s f M) : Chk env 18 r ops s f M := chk_none (by simp [env, looseOf])
theorem l19 (r ops s f M) : Chk env 19 r ops s f M := chk_none (by simp [env, looseOf])
theorem l20 (r ops s f M) (h : looseOf 20 r = []) : Chk env 20 r ops s f M := chk_none h
theorem l21 (r ops s f M) : Chk env 21 r ops s f M := chk_none (by simp [env, looseOf])
theorem l22 (r ops s f M) : Chk env 22 r ops s f M := chk_none (by simp [env, looseOf])
theorem l23 (r ops s f M) : Chk env 23 r ops s f M := chk_none (by simp [env, looseOf])
theorem l24 (r ops s f M) : Chk env 24 r ops s f M := chk_none (by simp [env, looseOf])
theorem l25 (r ops s f M) : Chk env 25 r ops s f M := chk_none (by simp [env, looseOf])
theorem l26 (r ops s f M) : Chk env 26 r ops s f M := chk_none (by simp [env, looseOf])
theorem l27 (r ops s f M) : Chk env 27 r ops s f M := chk_none (by simp [env, looseOf])
theorem l28 (r ops s f M) : Chk env 28 r ops s f M := chk_none (by simp [env, looseOf])
theorem l29 (r ops s f M) : Chk env 29 r ops s f M := chk_none (by simp [env, looseOf])
theorem l30 (r ops s f M) (h : looseOf 30 r = []) : Chk env 30 r ops s f M := chk_none h
theorem l31 (r ops s f M) : Chk env 31 r ops s f M := chk_none (by simp [env, looseOf])
theorem l32 (r ops s f M) : Chk env 32 r ops s f M := chk_none (by simp [env, looseOf])
theorem l33 (r ops s f M) : Chk env 33 r ops s f M := chk_none (by simp [env, looseOf])
theorem l34 (r ops s f M) : Chk env 34 r ops s f M := chk_none (by simp [env, looseOf])
theorem l35 (r ops s f M) : Chk env 35 r ops s f M := chk_none (by simp [env, looseOf])
theorem l36 (r ops s f M) : Chk env 36 r ops s f M := chk_none (by simp [env, looseOf])
theorem l37 (r ops s f M) : Chk env 37 r ops s f M := chk_none (by simp [env, looseOf])
theorem l38 (r ops s f M) : Chk env 38 r ops s f M := chk_none (by simp [env, looseOf])
theorem l39 (r ops s f M) : Chk env 39 r ops s f M := chk_none (by simp [env, looseOf])
theorem l40 (r ops s f M) : Chk env 40 r ops s f M := chk_none (by simp [env, looseOf])
theorem l41 (r ops s f M) : Chk env 41 r ops s f M := chk_none (by simp [env, looseOf])
theorem l42 (r ops s f M) : Chk env 42 r ops s f M := chk_none (by simp [env, looseOf])
theorem l43 (r ops s f M) : Chk env 43 r ops s f M := chk_none (by simp [env, looseOf])
theorem l44 (r ops s f M) : Chk env 44 r ops s f M := chk_none (by simp [env, looseOf])
theorem l45 (r ops s f M) : Chk env 45 r ops s f M := chk_none (by simp [env, looseOf])
theorem l46 (r ops s f M) : Chk env 46 r ops s f M := chk_none (by simp [env, looseOf])
theorem l47 (r ops s f M) : Chk env 47 r ops s f M := chk_none (by simp [env, looseOf])
theorem l48 (r ops s f M) : Chk env 48 r ops s f M := chk_none (by simp [env, looseOf])
theorem l49 (r ops s f M) : Chk env 49 r ops s f M := chk_none (by simp [env, looseOf])
theorem l50 (r ops s f M) : Chk env 50 r ops s f M := chk_none (by simp [env, looseOf])
theorem l51 (r ops s f M) : Chk env 51 r ops s f M := chk_none (by simp [env, looseOf])
theorem l52 (r ops s f M) : Chk env 52 r ops s f M := chk_none (by simp [env, looseOf])
theorem l53 (r ops s f M) : Chk env 53 r ops s f M := chk_none (by simp [env, looseOf])
theorem l54 (r ops s f M) (h : looseOf 54 r = []) : Chk env 54 r ops s f M := chk_none h
theorem l55 (r ops s f M) : Chk env 55 r ops s f M := chk_none (by simp [env, looseOf])
theorem l56 (r ops s f M) : Chk env 56 r ops s f M := chk_none (by simp [env, looseOf])
theorem l57 (r ops s f M) : Chk env 57 r ops s f M := chk_none (by simp [env, looseOf])
theorem l58 (r ops s f M) : Chk env 58 r ops s f M := chk_none (by simp [env, looseOf])
theorem l59 (r ops s f M) : Chk env 59 r ops s f M := chk_none (by simp [env, looseOf])
theorem l60 (r ops s f M) : Chk env 60 r ops s f M := chk_none (by simp [env, looseOf])
theorem l61 (r ops s f M) : Chk env 61 r ops s f M := chk_none (by simp [env, looseOf])
theorem l62 (r ops s f M) : Chk env 62 r ops s f M := chk_none (by simp [env, looseOf])
theorem l63 (r ops s f M) : Chk env 63 r ops s f M := chk_none (by simp [env, looseOf])
theorem l64 (r ops s f M) : Chk env 64 r ops s f M := chk_none (by simp [env, looseOf])
theorem l65 (r ops s f M) : Chk env 65 r ops s f M := chk_none (by simp [env, looseOf])
theorem l66 (r ops s f M) : Chk env 66 r ops s f M := chk_none (by simp [env, looseOf])
theorem l67 (r ops s f M) : Chk env 67 r ops s f M := chk_none (by simp [env, looseOf])
theorem l68 (r ops s f M) : Chk env 68 r ops s f M := chk_none (by simp [env, looseOf])
theorem l69 (r ops s f M) : Chk env 69 r ops s f M := chk_none (by simp [env, looseOf])
theorem l70 (r ops s f M) : Chk env 70 r ops s f M := chk_none (by simp [env, looseOf])
theorem l71 (r ops s f M) : Chk env 71 r ops s f M := chk_none (by simp [env, looseOf])
theorem l72 (r ops s f M) : Chk env 72 r ops s f M := chk_none (by simp [env, looseOf])
theorem l73 (r ops s f M) (h : looseOf 73 r = []) : Chk env 73 r ops s f M := chk_none h
theorem l74 (r ops s f M) : Chk env 74 r ops s f M := chk_none (by simp [env, looseOf])
theorem l75 (r ops s f M) : Chk env 75 r ops s f M := chk_none (by simp [env, looseOf])
theorem l76 (r ops s f M) : Chk env 76 r ops s f M := chk_none (by simp [env, looseOf])
theorem l77 (r ops s f M) : Chk env 77 r ops s f M := chk_none (by simp [env, looseOf])
theorem l78 (r ops s f M) : Chk env 78 r ops s f M := chk_none (by simp [env, looseOf])
theorem l79 (r ops s f M) : Chk env 79 r ops s f M := chk_none (by simp [env, looseOf])
theorem l80 (r ops s f M) : Chk env 80 r ops s f M := chk_none (by simp [env, looseOf])
theorem l81 (r ops s f M) : Chk env 81 r ops s f M := chk_none (by simp [env, looseOf])
theorem l82 (r ops s f M) : Chk env 82 r ops s f M := chk_none (by simp [env, looseOf])
theorem l83 (r ops s f M) : Chk env 83 r ops s f M := chk_none (by simp [env, looseOf])
theorem l84 (r ops s f M) : Chk env 84 r ops s f M := chk_none (by simp [env, looseOf])
theorem l85 (r ops s f M) : Chk env 85 r ops s f M := chk_none (by simp [env, looseOf])
theorem l86 (r ops s f M) : Chk env 86 r ops s f M := chk_none (by simp [env, looseOf])
theorem l87 (r ops s f M) : Chk env 87 r ops s f M := chk_none (by simp [env, looseOf])
theorem l88 (r ops s f M) : Chk env 88 r ops s f M := chk_none (by simp [env, looseOf])
theorem l89 (r ops s f M) : Chk env 89 r ops s f M := chk_none (by simp [env, looseOf])
theorem l90 (r ops s f M) : Chk env 90 r ops s f M := chk_none (by simp [env, looseOf])
theorem l91 (r ops s f M) : Chk env 91 r ops s f M := chk_none (by simp [env, looseOf])
theorem l92 (r ops s f M) : Chk env 92 r ops s f M := chk_none (by simp [env, looseOf])
theorem l93 (r ops s f M) : Chk env 93 r ops s f M := chk_none (by simp [env, looseOf])
theorem l94 (r ops s f M) : Chk env 94 r ops s f M := chk_none (by simp [env, looseOf])
theorem l95 (r ops s f M) : Chk env 95 r ops s f M := chk_none (by simp [env, looseOf])
theorem l96 (r ops s f M) : Chk env 96 r ops s f M := chk_none (by simp [env, looseOf])
theorem l97 (r ops s f M) : Chk env 97 r ops s f M := chk_none (by simp [env, looseOf])
theorem l98 (r ops s f M) : Chk env 98 r ops s f M := chk_none (by simp [env, looseOf])
theorem l99 (r ops s f M) : Chk env 99 r ops s f M := chk_none (by simp [env, looseOf])
theorem l100 (r ops s f M) : Chk env 100 r ops s f M := chk_none (by simp [env, looseOf])
theorem l101 (r ops s f M) : Chk env 101 r ops s f M := chk_none (by simp [env, looseOf])
theorem l102 (r ops s f M) : Chk env 102 r ops s f M := chk_none (by simp [env, looseOf])
theorem l103 (r ops s f M) : Chk env 103 r ops s f M := chk_none (by simp [env, looseOf])
theorem l104 (r ops s f M) : Chk env 104 r ops s f M := chk_none (by simp [env, looseOf])
theorem l105 (r ops s f M) : Chk env 105 r ops s f M := chk_none (by simp [env, looseOf])
theorem l106 (r ops s f M) : Chk env 106 r ops s f M := chk_none (by simp [env, looseOf])
theorem l107 (r ops s f M) : Chk env 107 r ops s f M := chk_none (by simp [env, looseOf])
theorem l108 (r ops s f M) : Chk env 108 r ops s f M := chk_none (by simp [env, looseOf])
theorem l109 (r ops s f M) : Chk env 109 r ops s f M := chk_none (by simp [env, looseOf])
theorem l110 (r ops s f M) : Chk env 110 r ops s f M := chk_none (by simp [env, looseOf])
theorem l111 (r ops s f M) : Chk env 111 r ops s f M := chk_none (by simp [env, looseOf])
theorem l112 (r ops s f M) : Chk env 112 r ops s f M := chk_none (by simp [env, looseOf])
theorem l113 (r ops s f M) : Chk env 113 r ops s f M := chk_none (by simp [env, looseOf])
theorem l114 (r ops s f M) : Chk env 114 r ops s f M := chk_none (by simp [env, looseOf])
theorem l115 (r ops s f M) : Chk env 115 r ops s f M := chk_none (by simp [env, looseOf])
theorem l116 (r ops s f M) : Chk env 116 r ops s f M := chk_none (by simp [env, looseOf])
theorem l117 (r ops s f M) : Chk env 117 r ops s f M := chk_none (by simp [env, looseOf])
theorem l118 (r ops s f M) : Chk env 118 r ops s f M := chk_none (by simp [env, looseOf])
theorem l119 (r ops s f M) : Chk env 119 r ops s f M := chk_none (by simp [env, looseOf])
theorem l120 (r ops s f M) : Chk env 120 r ops s f M := chk_none (by simp [env, looseOf])
theorem l121 (r ops s f M) : Chk env 121 r ops s f M := chk_none (by simp [env, looseOf])
theorem l122 (r ops s f M) : Chk env 122 r ops s f M := chk_none (by simp [env, looseOf])
theorem l123 (r ops s f M) : Chk env 123 r ops s f M := chk_none (by simp [env, looseOf])
theorem l124 (r ops s f M) : Chk env 124 r ops s f M := chk_none (by simp [env, looseOf])
theorem l125 (r ops s f M) : Chk env 125 r ops s f M := chk_none (by simp [env, looseOf])
theorem l126 (r ops s f M) : Chk env 126 r ops s f M := chk_none (by simp [env, looseOf])
theorem l127 (r ops s f M) : Chk env 127 r ops s f M := chk_none (by simp [env, looseOf])
theorem l128 (r ops s f M) : Chk env 128 r ops s f M := chk_none (by simp [env, looseOf])
theorem l129 (r ops s f M) : Chk env 129 r ops s f M := chk_none (by simp [env, looseOf])
theorem l130 (r ops s f M) : Chk env 130 r ops s f M := chk_none (by simp [env, looseOf])
theorem l131 (r ops s f M) (h : looseOf 131 r = []) : Chk env 131 r ops s f M := chk_none h
theorem l132 (r ops s f M) : Chk env 132 r ops s f M := chk_none (by simp [env, looseOf])
theorem l133 (r ops s f M) : Chk env 133 r ops s f M := chk_none (by simp [env, looseOf])
theorem l134 (r ops s f M) : Chk env 134 r ops s f M := chk_none (by simp [env, looseOf])
theorem l135 (r ops s f M) : Chk env 135 r ops s f M := chk_none (by simp [env, looseOf])
theorem l136 (r ops s f M) : Chk env 136 r ops s f M := chk_none (by simp [env, looseOf])
theorem l137 (r ops s f M) : Chk env 137 r ops s f M := chk_none (by simp [env, looseOf])
theorem l138 (r ops s f M) : Chk env 138 r ops s f M := chk_none (by simp [env, looseOf])
theorem l139 (r ops s f M) : Chk env 139 r ops s f M := chk_none (by simp [env, looseOf])
theorem l140 (r ops s f M) : Chk env 140 r ops s f M := chk_none (by simp [env, looseOf])
theorem l141 (r ops s f M) : Chk env 141 r ops s f M := chk_none (by simp [env, looseOf])
theorem l142 (r ops s f M) : Chk env 142 r ops s f M := chk_none (by simp [env, looseOf])
theorem l143 (r ops s f M) : Chk env 143 r ops s f M := chk_none (by simp [env, looseOf])
theorem l144 (r ops s f M) : Chk env 144 r ops s f M := chk_none (by simp [env, looseOf])
theorem l145 (r ops s f M) : Chk env 145 r ops s f M := chk_none (by simp [env, looseOf])
theorem l146 (r ops s f M) : Chk env 146 r ops s f M := chk_none (by simp [env, looseOf])
theorem l147 (r ops s f M) : Chk env 147 r ops s f M := chk_none (by simp [env, looseOf])
theorem l148 (r ops s f M) : Chk env 148 r ops s f M := chk_none (by simp [env, looseOf])
theorem l149 (r ops s f M) : Chk env 149 r ops s f M := chk_none (by simp [env, looseOf])
theorem l150 (r ops s f M) : Chk env 150 r ops s f M := chk_none (by simp [env, looseOf])
theorem l151 (r ops s f M) : Chk env 151 r ops s f M := chk_none (by simp [env, looseOf])
theorem l152 (r ops s f M) : Chk env 152 r ops s f M := chk_none (by simp [env, looseOf])
theorem l153 (r ops s f M) : Chk env 153 r ops s f M := chk_none (by simp [env, looseOf])
theorem l154 (r ops s f M) : Chk env 154 r ops s f M := chk_none (by simp [env, looseOf])
theorem l155 (r ops s f M) : Chk env 155 r ops s f M := chk_none (by simp [env, looseOf])
theorem l156 (r ops s f M) : Chk env 156 r ops s f M := chk_none (by simp [env, looseOf])
theorem l157 (r ops s f M) : Chk env 157 r ops s f M := chk_none (by simp [env, looseOf])
theorem l158 (r ops s f M) : Chk env 158 r ops s f M := chk_none (by simp [env, looseOf])
theorem l159 (r ops s f M) : Chk env 159 r ops s f M := chk_none (by simp [env, looseOf])
theorem l160 (r ops s f M) : Chk env 160 r ops s f M := chk_none (by simp [env, looseOf])
theorem l161 (r ops s f M) : Chk env 161 r ops s f M := chk_none (by simp [env, looseOf])
theorem l162 (r ops s f M) : Chk env 162 r ops s f M := chk_none (by simp [env, looseOf])
theorem l163 (r ops s f M) : Chk env 163 r ops s f M := chk_none (by simp [env, looseOf])
theorem l164 (r ops s f M) : Chk env 164 r ops s f M := chk_none (by simp [env, looseOf])
theorem l165 (r ops s f M) : Chk env 165 r ops s f M := chk_none (by simp [env, looseOf])
theorem l166 (r ops s f M) : Chk env 166 r ops s f M := chk_none (by simp [env, looseOf])
theorem l167 (r ops s f M) : Chk env 167 r ops s f M := chk_none (by simp [env, looseOf])
theorem l168 (r ops s f M) : Chk env 168 r ops s f M := chk_none (by simp [env, looseOf])
theorem l169 (r ops s f M) : Chk env 169 r ops s f M := chk_none (by simp [env, looseOf])
theorem l170 (r ops s f M) : Chk env 170 r ops s f M := chk_none (by simp [env, looseOf])
theorem l171 (r ops s f M) : Chk env 171 r ops s f M := chk_none (by simp [env, looseOf])
theorem l172 (r ops s f M) : Chk env 172 r ops s f M := chk_none (by simp [env, looseOf])
theorem l173 (r ops s f M) : Chk env 173 r ops s f M := chk_none (by simp [env, looseOf])
theorem l174 (r ops s f M) : Chk env 174 r ops s f M := chk_none (by simp [env, looseOf])
theorem l175 (r ops s f M) : Chk env 175 r ops s f M := chk_none (by simp [env, looseOf])
theorem l176 (r ops s f M) : Chk env 176 r ops s f M := chk_none (by simp [env, looseOf])
theorem l177 (r ops s f M) : Chk env 177 r ops s f M := chk_none (by simp [env, looseOf])
theorem l178 (r ops s f M) : Chk env 178 r ops s f M := chk_none (by simp [env, looseOf])
theorem l179 (r ops s f M) : Chk env 179 r ops s f M := chk_none (by simp [env, looseOf])
theorem l180 (r ops s f M) : Chk env 180 r ops s f M := chk_none (by simp [env, looseOf])
theorem l181 (r ops s f M) (h : looseOf 181 r = []) : Chk env 181 r ops s f M := chk_none h
theorem l182 (r ops s f M) (h : looseOf 182 r = []) : Chk env 182 r ops s f M := chk_none h
theorem l183 (r ops s f M) : Chk env 183 r ops s f M := chk_none (by simp [env, looseOf])
theorem l184 (r ops s f M) : Chk env 184 r ops s f M := chk_none (by simp [env, looseOf])
theorem l185 (r ops s f M) (h : looseOf 185 r = []) : Chk env 185 r ops s f M := chk_none h
theorem l186 (r ops s f M) : Chk env 186 r ops s f M := chk_none (by simp [env, looseOf])
theorem l187 (r ops s f M) : Chk env 187 r ops s f M := chk_none (by simp [env, looseOf])
theorem l188 (r ops s f M) : Chk env 188 r ops s f M := chk_none (by simp [env, looseOf])
theorem l189 (r ops s f M) : Chk env 189 r ops s f M := chk_none (by simp [env, looseOf])
theorem l190 (r ops s f M) : Chk env 190 r ops s f M := chk_none (by simp [env, looseOf])
theorem l191 (r ops s f M) : Chk env 191 r ops s f M := chk_none (by simp [env, looseOf])
theorem l192 (r ops s f M) : Chk env 192 r ops s f M := chk_none (by simp [env, looseOf])
theorem l193 (r ops s f M) : Chk env 193 r ops s f M := chk_none (by simp [env, looseOf])
theorem l194 (r ops s f M) : Chk env 194 r ops s f M := chk_none (by simp [env, looseOf])
theorem l195 (r ops s f M) : Chk env 195 r ops s f M := chk_none (by simp [env, looseOf])
theorem l196 (r ops s f M) : Chk env 196 r ops s f M := chk_none (by simp [env, looseOf])
theorem l197 (r ops s f M) : Chk env 197 r ops s f M := chk_none (by simp [env, looseOf])
theorem l198 (r ops s f M) (h : looseOf 198 r = []) : Chk env 198 r ops s f M := chk_none h
theorem l199 (r ops s f M) : Chk env 199 r ops s f M := chk_none (by simp [env, looseOf])
theorem l200 (r ops s f M) : Chk env 200 r ops s f M := chk_none (by simp [env, looseOf])
theorem l201 (r ops s f M) : Chk env 201 r ops s f M := chk_none (by simp [env, looseOf])
theorem l202 (r ops s f M) : Chk env 202 r ops s f M := chk_none (by simp [env, looseOf])
theorem l203 (r ops s f M) : Chk env 203 r ops s f M := chk_none (by simp [env, looseOf])
theorem l204 (r ops s f M) : Chk env 204 r ops s f M := chk_none (by simp [env, looseOf])
theorem l205 (r ops s f M) : Chk env 205 r ops s f M := chk_none (by simp [env, looseOf])
theorem l206 (r ops s f M) : Chk env 206 r ops s f M := chk_none (by simp [env, looseOf])
theorem l207 (r ops s f M) : Chk env 207 r ops s f M := chk_none (by simp [env, looseOf])
theorem l208 (r ops s f M) : Chk env 208 r ops s f M := chk_none (by simp [env, looseOf])
theorem l209 (r ops s f M) : Chk env 209 r ops s f M := chk_none (by simp [env, looseOf])
theorem l210 (r ops s f M) : Chk env 210 r ops s f M := chk_none (by simp [env, looseOf])
theorem l211 (r ops s f M) : Chk env 211 r ops s f M := chk_none (by simp [env, looseOf])
theorem l212 (r ops s f M) : Chk env 212 r ops s f M := chk_none (by simp [env, looseOf])
theorem l213 (r ops s f M) : Chk env 213 r ops s f M := chk_none (by simp [env, looseOf])
theorem l214 (r ops s f M) : Chk env 214 r ops s f M := chk_none (by simp [env, looseOf])
theorem l215 (r ops s f M) : Chk env 215 r ops s f M := chk_none (by simp [env, looseOf])
theorem l216 (r ops s f M) : Chk env 216 r ops s f M := chk_none (by simp [env, looseOf])
theorem l217 (r ops s f M) : Chk env 217 r ops s f M := chk_none (by simp [env, looseOf])
theorem l218 (r ops s f M) : Chk env 218 r ops s f M := chk_none (by simp [env, looseOf])
theorem l219 (r ops s f M) : Chk env 219 r ops s f M := chk_none (by simp [env, looseOf])
theorem l220 (r ops s f M) : Chk env 220 r ops s f M := chk_none (by simp [env, looseOf])
theorem l221 (r ops s f M) : Chk env 221 r ops s f M := chk_none (by simp [env, looseOf])
theorem l222 (r ops s f M) : Chk env 222 r ops s f M := chk_none (by simp [env, looseOf])
theorem l223 (r ops s f M) : Chk env 223 r ops s f M := chk_none (by simp [env, looseOf])
theorem l224 (r ops s f M) : Chk env 224 r ops s f M := chk_none (by simp [env, looseOf])
theorem l225 (r ops s f M) : Chk env 225 r ops s f M := chk_none (by simp [env, looseOf])
theorem l226 (r ops s f M) : Chk env 226 r ops s f M := chk_none (by simp [env, looseOf])
theorem l227 (r ops s f M) : Chk env 227 r ops s f M := chk_none (by simp [env, looseOf])
theorem l228 (r ops s f M) : Chk env 228 r ops s f M := chk_none (by simp [env, looseOf])
theorem l229 (r ops s f M) : Chk env 229 r ops s f M := chk_none (by simp [env, looseOf])
theorem l230 (r ops s f M) : Chk env 230 r ops s f M := chk_none (by simp [env, looseOf])
theorem l231 (r ops s f M) : Chk env 231 r ops s f M := chk_none (by simp [env, looseOf])
theorem l232 (r ops s f M) : Chk env 232 r ops s f M := chk_none (by simp [env, looseOf])
theorem l233 (r ops s f M) : Chk env 233 r ops s f M := chk_none (by simp [env, looseOf])
theorem l234 (r ops s f M) (h : looseOf 234 r = []) : Chk env 234 r ops s f M := chk_none h
theorem l235 (r ops s f M) (h : looseOf 235 r = []) : Chk env 235 r ops s f M := chk_none h
theorem l236 (r ops s f M) : Chk env 236 r ops s f M := chk_none (by simp [env, looseOf])
theorem l237 (r ops s f M) : Chk env 237 r ops s f M := chk_none (by simp [env, looseOf])
theorem l238 (r ops s f M) : Chk env 238 r ops s f M := chk_none (by simp [env, looseOf])
theorem l239 (r ops s f M) : Chk env 239 r ops s f M := chk_none (by simp [env, looseOf])
theorem l240 (r ops s f M) : Chk env 240 r ops s f M := chk_none (by simp [env, looseOf])
theorem l241 (r ops s f M) : Chk env 241 r ops s f M := chk_none (by simp [env, looseOf])
theorem l242 (r ops s f M) : Chk env 242 r ops s f M := chk_none (by simp [env, looseOf])
theorem l243 (r ops s f M) : Chk env 243 r ops s f M := chk_none (by simp [env, looseOf])
theorem l244 (r ops s f M) : Chk env 244 r ops s f M := chk_none (by simp [env, looseOf])
theorem l245 (r ops s f M) : Chk env 245 r ops s f M := chk_none (by simp [env, looseOf])
theorem l246 (r ops s f M) : Chk env 246 r ops s f M := chk_none (by simp [env, looseOf])
theorem l247 (r ops s f M) : Chk env 247 r ops s f M := chk_none (by simp [env, looseOf])
theorem l248 (r ops s f M) : Chk env 248 r ops s f M := chk_none (by simp [env, looseOf])
theorem l249 (r ops s f M) : Chk env 249 r ops s f M := chk_none (by simp [env, looseOf])
theorem l250 (r ops s f M) : Chk env 250 r ops s f M := chk_none (by simp [env, looseOf])
theorem l251 (r ops s f M) : Chk env 251 r ops s f M := chk_none (by simp [env, looseOf])
theorem l252 (r ops s f M) : Chk env 252 r ops s f M := chk_none (by simp [env, looseOf])
theorem l253 (r ops s f M) : Chk env 253 r ops s f M := chk_none (by simp [env, looseOf])
theorem l254 (r ops s f M) : Chk env 254 r ops s f M := chk_none (by simp [env, looseOf])
theorem l255 (r ops s f M) : Chk env 255 r ops s f M := chk_none (by simp [env, looseOf])
theorem l256 (r ops s f M) : Chk env 256 r ops s f M := chk_none (by simp [env, looseOf])
theorem l257 (r ops s f M) : Chk env 257 r ops s f M := chk_none (by simp [env, looseOf])
theorem l258 (r ops s f M) : Chk env 258 r ops s f M := chk_none (by simp [env, looseOf])
theorem l259 (r ops s f M) : Chk env 259 r ops s f M := chk_none (by simp [env, looseOf])
theorem l260 (r ops s f M) : Chk env 260 r ops s f M := chk_none (by simp [env, looseOf])
theorem l261 (r ops s f M) : Chk env 261 r ops s f M := chk_none (by simp [env, looseOf])
theorem l262 (r ops s f M) : Chk env 262 r ops s f M := chk_none (by simp [env, looseOf])
theorem l263 (r ops s f M) : Chk env 263 r ops s f M := chk_none (by simp [env, looseOf])
theorem l264 (r ops s f M) : Chk env 264 r ops s f M := chk_none (by simp [env, looseOf])
theorem l265 (r ops s f M) : Chk env 265 r ops s f M := chk_none (by simp [env, looseOf])
theorem l266 (r ops s f M) : Chk env 266 r ops s f M := chk_none (by simp [env, looseOf])
theorem l267 (r ops s f M) : Chk env 267 r ops s f M := chk_none (by simp [env, looseOf])
theorem l268 (r ops s f M) : Chk env 268 r ops s f M := chk_none (by simp [env, looseOf])
theorem l269 (r ops s f M) : Chk env 269 r ops s f M := chk_none (by simp [env, looseOf])
theorem l270 (r ops s f M) : Chk env 270 r ops s f M := chk_none (by simp [env, looseOf])
theorem l271 (r ops s f M) : Chk env 271 r ops s f M := chk_none (by simp [env, looseOf])
theorem l272 (r ops s f M) : Chk env 272 r ops s f M := chk_none (by simp [env, looseOf])
theorem p118 : env.prim 118 = some sortP := eqOf rfl
theorem p41 : env.prim 41 = some membersP := eqOf rfl
theorem p212 : env.prim 212 = some numP := eqOf rfl

theorem Fn_prim {E : Env} {frz : Bool} {f : FuncId} {args : List V} {s : Id} {M : Mem} {fn : Func} {c : Code} {p} (hf : E.P.funcs[f]? = some fn) (hn : fn.name ≠ "runtime.NumGoroutine") (hb : fn.body = some c) (hp : E.prim f = some p) :
    Fn E frz f args s M = p args s M := by
  rw [Fn_eq]
  have : entry E.P f = some (fn, c) := by simp only [entry, hf, hn, if_false, hb, Option.map_some]
  rw [this, hp]
theorem Fn_body {E : Env} {frz : Bool} {f : FuncId} {args : List V} {s : Id} {M : Mem} {fn : Func} {c : Code} (hf : E.P.funcs[f]? = some fn) (hn : fn.name ≠ "runtime.NumGoroutine") (hb : fn.body = some c) (hp : E.prim f = none) :
    Fn E frz f args s M = (run E f [.code c (0 :: s)] (argsTm args) M).bind fun x => (resultsV E.P fn x.1 x.2).bind fun v => leave (E.lv f) frz M v x.2 := by
  rw [Fn_eq]
  have : entry E.P f = some (fn, c) := by simp only [entry, hf, hn, if_false, hb, Option.map_some]
  rw [this, hp]
theorem F118 (frz args s M) : Fn env frz 118 args s M = sortP args s M := Fn_prim Tryz.func118 (by decide) rfl rfl
theorem F41 (frz args s M) : Fn env frz 41 args s M = membersP args s M := Fn_prim Tryz.func41 (by decide) rfl rfl
theorem F212 (frz args s M) : Fn env frz 212 args s M = numP args s M := Fn_prim Tryz.func212 (by decide) rfl rfl
end Go.Ab.R
