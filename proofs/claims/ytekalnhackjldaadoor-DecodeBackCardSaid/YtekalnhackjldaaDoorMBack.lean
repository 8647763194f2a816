/- Plain words on a number's digits, written and read. -/
import Derived.Test.YtekalnhackjldaaDoorMNum
namespace Go.Proofs.YtekalnhackjldaaDoor.M
open Go.RowKit Go.Proofs.YtekalnhackjldaaDoorW.PrintWords Go.Proofs.YtekalnhackjldaaDoor.H
set_option linter.unusedVariables false
set_option linter.unusedSimpArgs false

/-- A digit's sign. -/
def hexC (d : Nat) : Int := if d < 10 then 48 + (d : Int) else 87 + (d : Int)
/-- Digits of a base, written from the end on: at least so many. -/
def digL (b least : Nat) : Nat → Nat → List Int → List Int
  | 0, _, acc => acc
  | f + 1, x, acc => if 0 < x ∨ acc.length < least then digL b least f (x / b) (hexC (x % b) :: acc) else acc
theorem refdig_hexC (b d : Nat) (hb : b = 10 ∨ b = 16) (hd : d < b) : refdig (b : Int) (hexC d) = some (d : Int) := by
  unfold refdig hexC
  by_cases h : d < 10
  · rw [if_pos h, if_pos (by omega), if_pos (by omega)]
    congr 1
    omega
  · rw [if_neg h, if_neg (by omega), if_pos (by omega), if_pos (by omega)]
    congr 1
    omega
theorem sat_app (b : Int) (c : Int) : ∀ (l : List Int) (a : Int), sat b a (l ++ [c]) = (sat b a l).bind fun m => (refdig b c).map fun d => if m ≤ 1114111 then m * b + d else m
  | [], a => by
    show (refdig b c).bind (fun d => sat b (if a ≤ 1114111 then a * b + d else a) []) = (some a).bind _
    cases refdig b c <;> rfl
  | x :: l, a => by
    show (refdig b x).bind (fun d => sat b (if a ≤ 1114111 then a * b + d else a) (l ++ [c])) = ((refdig b x).bind fun d => sat b (if a ≤ 1114111 then a * b + d else a) l).bind _
    cases refdig b x with
    | none => rfl
    | some d => exact sat_app b c l _
theorem dig_spec (b least : Nat) (hb : b = 10 ∨ b = 16) : ∀ (f x : Nat) (acc : List Int), x < 10 ^ f → least ≤ f + acc.length → x ≤ 1114111 →
    ∃ pre : List Int, digL b least f x acc = pre ++ acc ∧ sat (b : Int) 0 pre = some (x : Int) ∧ (∀ c ∈ pre, (48 ≤ c ∧ c ≤ 57) ∨ (97 ≤ c ∧ c ≤ 102 ∧ b = 16)) ∧ least ≤ pre.length + acc.length ∧ (∀ m, x < b ^ m → pre.length ≤ max m (least - acc.length)) ∧ (0 < x → pre ≠ [])
  | 0, x, acc, hx, hl, _ => by
    have : x = 0 := by simpa using hx
    subst this
    exact ⟨[], rfl, rfl, by simp, by simpa using hl, by simp, fun h => absurd h (by omega)⟩
  | f + 1, x, acc, hx, hl, hm => by
    unfold digL
    by_cases h : 0 < x ∨ acc.length < least
    · rw [if_pos h]
      have hd : x % b < b := Nat.mod_lt _ (by omega)
      have hx' : x / b < 10 ^ f := by
        rw [Nat.pow_succ] at hx
        rcases hb with rfl | rfl <;> omega
      obtain ⟨pre, e1, e2, e3, e4, e5, _⟩ := dig_spec b least hb f (x / b) (hexC (x % b) :: acc) hx' (by simp only [List.length_cons]; omega) (by rcases hb with rfl | rfl <;> omega)
      refine ⟨pre ++ [hexC (x % b)], by rw [e1]; simp, ?_, ?_, ?_, ?_, fun _ => by simp⟩
      · rw [sat_app, e2, Option.bind_some, refdig_hexC b _ hb hd, Option.map_some, if_pos (by rcases hb with rfl | rfl <;> omega)]
        congr 1
        rcases hb with rfl | rfl <;> omega
      · intro c hc
        rcases List.mem_append.1 hc with hc | hc
        · exact e3 c hc
        · rw [List.mem_singleton.1 hc]
          unfold hexC
          split
          · omega
          · right
            rcases hb with rfl | rfl <;> omega
      · simp only [List.length_cons, List.length_append, List.length_nil] at e4 ⊢
        omega
      · intro m hm2
        simp only [List.length_cons, List.length_append, List.length_nil] at e5 ⊢
        cases m with
        | zero =>
          have h0 : x = 0 := by simpa using hm2
          subst h0
          have := e5 0 (by simp)
          omega
        | succ m =>
          have := e5 m (by rw [Nat.pow_succ] at hm2; exact Nat.div_lt_of_lt_mul (by rw [Nat.mul_comm]; exact hm2))
          omega
    · rw [if_neg h]
      have : x = 0 := by omega
      subst this
      exact ⟨[], rfl, rfl, by simp, by simp; omega, by simp, fun h => absurd h (by omega)⟩
/-- What a number that is written is, read. -/
theorem rsign_of {b : Int} {l : List Int} {v n : Int} (h : sat b 0 l = some v) (hl : l ≠ []) : rsign b l n = if okV v = true then (v, n, true) else entNo := by
  unfold rsign rnum
  rw [if_neg hl, h]
  rfl
end Go.Proofs.YtekalnhackjldaaDoor.M
