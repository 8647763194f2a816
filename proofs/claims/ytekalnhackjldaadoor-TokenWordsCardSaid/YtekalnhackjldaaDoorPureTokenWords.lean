/- TokenWords: the words of any bytes of any format are the document's, for any shortest and longest word. No condition beyond the statement's own. -/
import Derived.Test.YtekalnhackjldaaDoorBAll
namespace Go.Proofs.YtekalnhackjldaaDoor.Pure
open Go.RowKit Go.Proofs.YtekalnhackjldaaDoor.PTokenWords Go.Proofs.YtekalnhackjldaaDoorW.PrintWords Go.Proofs.YtekalnhackjldaaDoorW.PrintLast
open Go.Proofs.YtekalnhackjldaaDoor.M Go.Proofs.YtekalnhackjldaaDoor.X Go.Proofs.YtekalnhackjldaaDoor.H
set_option linter.unusedVariables false
set_option linter.unusedSimpArgs false

theorem tok_awake : Ev (fun f => redpenlaw16_Awake.f f) true := Ev.of redpenlaw16_Awake.mono (k := 60) (by decide +kernel)
theorem pieces_small : ∀ ps, redpenlaw16_pieces.f = some ps → ∀ p ∈ ps, p.size ≤ 100 := by
  intro ps h
  injection h with h
  subst h
  decide +kernel
theorem uM_len (f lab : Int) : ∀ (n : Nat) (b : List Int), (uM f lab n b).length ≤ n
  | 0, b => by simp [uM]
  | n + 1, b => by
    unfold uM
    split
    · simp
    · have := uM_len f lab n (b.drop (oneM f lab b).2.toNat)
      simp
      omega
/-- A rune, or none. -/
def Rn (r : Int) : Prop := -1 ≤ r ∧ r ≤ 1114111
theorem nx_rn {b : List Int} (hB : BT b) (hb : b ≠ []) : Rn (nx b).1 := by
  refine rs_bound hB _ ?_
  show (nx b).1 ∈ (us b).map (·.1)
  rw [us_cons hb]
  exact List.mem_cons_self
theorem names_rn (s : ByteArray) (n : Int) : ∀ L : List (List UInt8 × Int), (∀ p ∈ L, Rn p.2) → Rn (entNamesL s n L).1
  | [], _ => ⟨by show (-1 : Int) ≤ 0; decide, by show (0 : Int) ≤ 1114111; decide⟩
  | (a, r) :: t, h => by
    unfold entNamesL
    split
    · exact h _ List.mem_cons_self
    · exact names_rn s n t (fun p hp => h p (List.mem_cons_of_mem _ hp))
theorem no_rn : Rn entNo.1 := ⟨by decide, by decide⟩
theorem dig_rn (b : Nat) (s : ByteArray) (n : Int) : Rn (entDig b s n).1 := by
  unfold entDig
  split
  · exact no_rn
  split
  · exact no_rn
  split
  · exact no_rn
  cases numM b 0 s.data.toList with
  | none => exact no_rn
  | some v =>
    show Rn (if validN v = true then ((v : Int), n, true) else entNo).1
    by_cases hv : validN v = true
    · rw [if_pos hv]
      unfold validN at hv
      rw [decide_eq_true_eq] at hv
      exact ⟨by show (-1 : Int) ≤ (v : Int); omega, by show (v : Int) ≤ 1114111; omega⟩
    · rw [if_neg hv]
      exact no_rn
theorem entB_rn (s : ByteArray) (n : Int) : Rn (entB s n).1 := by
  unfold entB
  split
  · unfold entNum
    split
    · exact dig_rn _ _ _
    split
    · exact dig_rn _ _ _
    split
    · exact dig_rn _ _ _
    · exact dig_rn _ _ _
  · refine names_rn _ _ _ (fun p hp => ?_)
    simp only [namesL, List.mem_cons, List.not_mem_nil, or_false] at hp
    unfold Rn
    rcases hp with rfl | rfl | rfl | rfl | rfl | rfl <;> decide
theorem entF_rn (b : List Int) : Rn (entF b).1 := by
  unfold entF
  split
  · exact no_rn
  · exact entB_rn _ _
theorem oneM_rn (f : Int) {b : List Int} (hB : BT b) (hb : b ≠ []) : Rn (oneM f 1 b).1 := by
  have hn := nx_rn hB hb
  unfold oneM
  split
  · split
    · exact entF_rn b
    · exact hn
  split
  · rename_i h1
    have := rd_byte hB (i := 1) h1.2.2.2.1
    have h1' : Rn (rd b 1) := ⟨by have := this.1; show (-1 : Int) ≤ rd b ((1 : Nat) : Int); omega, by have := this.2; show rd b ((1 : Nat) : Int) ≤ 1114111; omega⟩
    exact h1'
  split
  · rename_i h1; exact absurd h1.1 (by decide)
  split
  · rename_i h1; exact absurd h1.1 (by decide)
  · exact hn
theorem uM_rn (f : Int) : ∀ (n : Nat) (b : List Int), BT b → ∀ r ∈ (uM f 1 n b).map (·.1), Rn r
  | 0, b, _, r, hr => by simp [uM] at hr
  | n + 1, b, hB, r, hr => by
    unfold uM at hr
    split at hr
    · simp at hr
    · rename_i hb
      rw [List.map_cons] at hr
      rcases List.mem_cons.1 hr with rfl | hr
      · exact oneM_rn f hB hb
      · exact uM_rn f n _ (fun x hx => hB x (List.mem_of_mem_drop hx)) r hr
theorem samewords_from (x : List S90) (hx : x.length < 1000000000) : ∀ (d i : Nat), x.length - i = d → i ≤ x.length → Ev (fun f => redpenref15_SameWords.l0 f x x (i : Int)) true := by
  intro d
  induction d with
  | zero =>
    intro i hd hi
    refine Ev.step (f := fun _ => some true) (fun f => ?_) (Ev.now _)
    simp only [redpenref15_SameWords.l0]
    rw [if_neg (by omega)]
  | succ d ih =>
    intro i hd hi
    have ew : wrap64 ((i : Int) + 1) = ((i + 1 : Nat) : Int) := by rw [w64 (by omega) (by omega)]; omega
    refine Ev.step (f := fun f => redpenref15_SameWords.l0 f x x ((i + 1 : Nat) : Int)) (fun f => ?_) (ih (i + 1) (by omega) (by omega))
    simp only [redpenref15_SameWords.l0]
    rw [if_pos (by omega), if_pos (by omega), if_pos (by omega), if_neg (by simp), ew]
theorem samewords_eq (x : List S90) (hx : x.length < 1000000000) : Ev (fun f => redpenref15_SameWords.f f x x) true := by
  unfold redpenref15_SameWords.f
  simp only [if_true]
  exact samewords_from x hx _ 0 rfl (by omega)
theorem sub_len_le (u : List S45) (p : Nat × Nat) : (sub u p).length ≤ u.length := by
  unfold sub
  rw [List.length_drop, List.length_take]
  omega
section
variable (a0 : Int) {x : List Int} (hB : BT x) (hx : x.length < 100000)
include hB hx
theorem both_law (lo hi : Int) : Ev (fun k => (decode_Units.f k (Int.tmod a0 9) x 1 0 (x.length : Int)).bind fun bt378 => (if bt378.2 = 0 then ((token_Words.f k x bt378.1 lo hi).bind fun t382 => ((redpenref15_Words.f k x bt378.1 lo hi).bind fun t385 => ((redpenref15_SameWords.f k t382 t385).bind fun t388 => (some t388)))) else (some false))) true := by
  have h1 := units_ok (Int.tmod a0 9) 1 x hB (by omega) 0 x.length (by omega)
  have hr := uM_rn (Int.tmod a0 9) x.length x hB
  have hl := uM_len (Int.tmod a0 9) 1 x.length x
  simp only [Nat.zero_add, List.take_length, List.drop_zero] at h1
  have hU : RB (mkU (0 : Nat) (uM (Int.tmod a0 9) 1 x.length x)) := by
    unfold RB
    rw [runesOf_mkU]
    exact hr
  have hUl : (mkU (0 : Nat) (uM (Int.tmod a0 9) 1 x.length x)).length < 1000000 := by rw [mkU_len]; omega
  have hE : Ev (fun k => decode_Units.f k (Int.tmod a0 9) x 1 0 (x.length : Int)) (mkU (0 : Nat) (uM (Int.tmod a0 9) 1 x.length x), 0) := h1
  generalize mkU (0 : Nat) (uM (Int.tmod a0 9) 1 x.length x) = U at hE hU hUl
  have hs : ∀ p : Nat × Nat, (sub U p).length < 1000000000 := fun p => by have := sub_len_le U p; omega
  obtain ⟨Q, hQl, hQ⟩ := both_words x U (fun p => strOfNums (encL (runesOf (sub U p)))) (fun p => litM x (sub U p)) hU (by omega)
    (fun p _ _ _ => dtext_eq _ (hs p)) (fun p _ _ _ => dlit_eq x _ (hs p)) (fun p _ _ _ => rtext_eq _ (hs p)) (fun p _ _ _ => rlit_eq x _ (hs p))
  obtain ⟨q1, q2⟩ := hQ lo hi
  refine Ev.bind hE ?_
  simp only [if_true]
  refine Ev.bind q1 (Ev.bind q2 (Ev.bind (samewords_eq _ (hQl lo hi)) (Ev.now _)))
end
theorem TokenWords (a0 : Int) (l1 l2 : List Int) (a3 a4 : Int) (a5 : Bool) (h0 : (Lit.int .u8 a0).wf = true) (h1 : l1.length * 1 ≤ 140737488351232) (h2 : ∀ x ∈ l1, (fun n => (Lit.int .u8 n).wf = true) x) (h3 : l2.length * 1 ≤ 140737488351232) (h4 : ∀ x ∈ l2, (fun n => (Lit.int .u8 n).wf = true) x) (h5 : (Lit.int .i64 a3).wf = true) (h6 : (Lit.int .i64 a4).wf = true) : ∃ k, redpenlaw16_TokenWords.f k a0 l1 l2 a3 a4 a5 = some true := by
  have b1 := BT_of_wf h2
  have b2 := BT_of_wf h4
  refine Ev.rounds ?_
  unfold redpenlaw16_TokenWords.f
  refine Ev.bind tok_awake ?_
  by_cases hl : (l1.length : Int) > 500
  · simp only [if_pos hl, if_true]
    exact Ev.now _
  simp only [if_neg hl, if_true]
  have main : ∀ lo hi : Int, Ev (fun f => redpenlaw16_TokenWords.j0 f a0 l1 l2 lo hi) true := by
    intro lo hi
    obtain ⟨ps, hps⟩ : ∃ ps, redpenlaw16_pieces.f = some ps := ⟨_, rfl⟩
    obtain ⟨x, hB, hbl, hb⟩ := bits_eq ps (pieces_small ps hps) l1 l2 b1 b2 (by omega) (by omega)
    refine Ev.step (f := fun k => (redpenlaw11_Bits.f k ps l2 l1).bind fun t375 => (decode_Units.f k (Int.tmod a0 9) t375 1 0 (t375.length : Int)).bind fun bt378 => (if bt378.2 = 0 then ((token_Words.f k t375 bt378.1 lo hi).bind fun t382 => ((redpenref15_Words.f k t375 bt378.1 lo hi).bind fun t385 => ((redpenref15_SameWords.f k t382 t385).bind fun t388 => (some t388)))) else (some false))) (fun f => ?_) (Ev.bind hb (both_law a0 hB (by omega) lo hi))
    simp only [redpenlaw16_TokenWords.j0]
    rw [hps]
    rfl
  cases a5
  · simp only [Bool.false_eq_true, if_false]
    exact main _ _
  · simp only [if_true]
    exact main _ _
end Go.Proofs.YtekalnhackjldaaDoor.Pure
