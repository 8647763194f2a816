/- lines.Index.Line: the closure, the search, the line. -/
import Derived.Test.YtgjnelloegkicaaHLines2
namespace Go.Proofs.Ytgjnelloegkicaa.X
open Go.RowKit Go.Proofs.YtgjnelloegkicaaW.PrintWords Go.Proofs.YtgjnelloegkicaaW.PrintLast Go.Proofs.YtgjnelloegkicaaW.PrintMore
open Go.Proofs.Ytgjnelloegkicaa.M
set_option linter.unusedVariables false
set_option linter.unusedSimpArgs false

set_option maxHeartbeats 2000000 in
set_option maxRecDepth 100000 in
theorem line_closure (i n c bx ba g : Nat) (at_ z : Int) (ad : Addr) (w : World) (hx : w.cell? ⟨bx, 0, none⟩ = some (.pointer (some ⟨g, 0, none⟩))) (ha : w.cell? ⟨ba, 0, none⟩ = some (.int .i64 at_))
    (hg : w.cell? ⟨g, 0, none⟩ = some (.slice (some ad) n c)) (hz : w.cell? (ad.add i) = some (.int .i64 z)) (hi : i < n) :
    Calls Try.prog 43 #[.int .i64 (i : Int), .pointer (some ⟨bx, 0, none⟩), .pointer (some ⟨ba, 0, none⟩)] w fun e w' => e = .returned (.bool (decide (at_ < z))) ∧ Drawn0 w w' := by
  have p1 : 0 ≤ (i : Int) := by omega
  have q1 : (i : Int) < (n : Int) := by omega
  go_enter Try.func43, Try.ntmps43
  go_wp2
  go_quiet (fail)
  go_wp2
  go_ret
  exact ⟨rfl, ⟨⟨_, rfl⟩⟩⟩
/-- What the search tells. -/
def SearchPost (n : Nat) (at_ : Int) (bs : List Int) (w : World) (e : Ending) (w' : World) : Prop :=
  ∃ k : Nat, e = .returned (.int .i64 (k : Int)) ∧ k ≤ n ∧ (∀ t : Nat, t < k → rd bs (t : Int) ≤ at_) ∧ (∀ t : Nat, k ≤ t → t < n → at_ < rd bs (t : Int)) ∧ Drawn0 w w'
set_option maxHeartbeats 4000000 in
set_option maxRecDepth 100000 in
/-- sort.Search at this closure. -/
theorem line_search (n c bx ba g : Nat) (at_ : Int) (bs : List Int) (A : Option Addr) (w : World) (hx : w.cell? ⟨bx, 0, none⟩ = some (.pointer (some ⟨g, 0, none⟩))) (ha : w.cell? ⟨ba, 0, none⟩ = some (.int .i64 at_))
    (hg : w.cell? ⟨g, 0, none⟩ = some (.slice A n c)) (hC : Kd.C (Kd.int .i64) w A n bs) (hsz : n < 4611686018427387904) (hmono : ∀ a b, a ≤ b → b < n → rd bs (a : Int) ≤ rd bs (b : Int)) :
    Calls Try.prog 42 #[.int .i64 (n : Int), .func (.func 43) #[] #[.pointer (some ⟨bx, 0, none⟩), .pointer (some ⟨ba, 0, none⟩)]] w (SearchPost n at_ bs w) := by
  have HF := Aside0.mk (show ∀ (m i : Nat), i < n → Calls Try.prog 43 #[.int .i64 (i : Int), .pointer (some ⟨bx, 0, none⟩), .pointer (some ⟨ba, 0, none⟩)] (w.drewN m) fun e w' => e = .returned (.bool (decide (at_ < rd bs (i : Int)))) ∧ Drawn0 (w.drewN m) w' by
    intro m i hi
    have hb := pw_below_drewN (Below.refl w.heap.size w) m
    obtain ⟨ad, e1, hz⟩ := Kd.at_int hC (i : Int) (by omega) (by omega)
    subst e1
    simp only [Int.toNat_natCast] at hz
    exact line_closure i n c bx ba g at_ _ ad _ (pw_cell_below hb hx) (pw_cell_below hb ha) (pw_cell_below hb hg) (pw_cell_below hb hz) hi)
  have M := Aside0.mk hmono
  clear hx ha hg hC hmono
  go_enter Try.func42, Try.ntmps42
  go_wp2
  go_loopg [5, 6] n (fun kx s5 s6 wr => ∃ (lo hi q : Nat), s5 = .int .i64 lo ∧ s6 = .int .i64 hi ∧ lo ≤ hi ∧ hi ≤ n ∧ hi - lo ≤ kx ∧ wr = w.drewN q ∧ Aside0 ((∀ t : Nat, t < lo → rd bs (t : Int) ≤ at_) ∧ (∀ t : Nat, hi ≤ t → t < n → at_ < rd bs (t : Int))))
  case atStart => exact ⟨0, n, 0, rfl, rfl, Nat.zero_le _, Nat.le_refl _, by omega, rfl, ⟨⟨fun t ht => absurd ht (Nat.not_lt_zero _), fun t h1 h2 => by omega⟩⟩⟩
  case round =>
    obtain ⟨lo, hi, q, rfl, rfl, hlh, hin, hg, rfl, I⟩ := hrel
    by_cases hlt : lo < hi
    · have hc := HF.out q ((lo + hi) / 2) (by omega)
      by_cases hp : at_ < rd bs (((lo + hi) / 2 : Nat) : Int)
      · rw [decide_eq_true hp] at hc
        have HP := Aside0.mk hp
        clear hp
        rw [show (((lo + hi) / 2 : Nat) : Int) = ((lo : Int) + (hi : Int)) / 2 by omega] at hc
        have HC := Aside0.mk hc
        clear hc
        go_wp2_with (fail)
        (with_reducible refine HC.out.mono ?_)
        rintro e w' ⟨rfl, ⟨nq, rfl⟩⟩
        go_wp2
        go_roundg ((lo + hi) / 2 - lo)
        case measure => omega
        case rel => exact ⟨lo, (lo + hi) / 2, q + nq, rfl, by rw [show ((lo : Int) + (hi : Int)) / 2 = (((lo + hi) / 2 : Nat) : Int) by omega], by omega, by omega, Nat.le_refl _, (by first | rfl | exact World.drewN_drewN ..), ⟨⟨I.out.1, fun t ht htn => Int.lt_of_lt_of_le HP.out (M.out _ t ht htn)⟩⟩⟩
      · rw [decide_eq_false hp] at hc
        have HP := Aside0.mk (Int.not_lt.1 hp)
        clear hp
        rw [show (((lo + hi) / 2 : Nat) : Int) = ((lo : Int) + (hi : Int)) / 2 by omega] at hc
        have HC := Aside0.mk hc
        clear hc
        go_wp2_with (fail)
        (with_reducible refine HC.out.mono ?_)
        rintro e w' ⟨rfl, ⟨nq, rfl⟩⟩
        go_wp2
        go_roundg (hi - ((lo + hi) / 2 + 1))
        case measure => omega
        case rel => exact ⟨(lo + hi) / 2 + 1, hi, q + nq, by rw [show ((lo : Int) + (hi : Int)) / 2 + 1 = (((lo + hi) / 2 + 1 : Nat) : Int) by omega], rfl, by omega, hin, Nat.le_refl _, (by first | rfl | exact World.drewN_drewN ..), ⟨⟨fun t ht => Int.le_trans (M.out t ((lo + hi) / 2) (by omega) (by omega)) HP.out, I.out.2⟩⟩⟩
    · obtain rfl : hi = lo := by omega
      go_wp2
      go_ret
      exact ⟨hi, rfl, hin, I.out.1, I.out.2, ⟨⟨_, rfl⟩⟩⟩
end Go.Proofs.Ytgjnelloegkicaa.X
