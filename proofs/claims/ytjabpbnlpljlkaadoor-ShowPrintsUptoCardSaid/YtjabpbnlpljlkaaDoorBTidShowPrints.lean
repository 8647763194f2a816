/- The printed Tidied ends, with at most twelve lines; the printed Check and the document's are the same. -/
import Derived.Test.YtjabpbnlpljlkaaDoorPShowPrintsx
import Derived.Laws.BitsLemmas
namespace Go.Proofs.YtjabpbnlpljlkaaDoor.Pure
open Go.RowKit Go.Proofs.YtjabpbnlpljlkaaDoor.PShowPrints Go.Proofs.YtjabpbnlpljlkaaDoorW.PrintWords Go.Proofs.YtjabpbnlpljlkaaDoorW.PrintLast Go.Proofs.YtjabpbnlpljlkaaDoor.X
set_option linter.unusedVariables false
set_option linter.unusedSimpArgs false

theorem w64' {x : Int} (h0 : -9223372036854775808 ≤ x) (h1 : x < 9223372036854775808) : wrap64 x = x := by unfold wrap64; omega
abbrev Ln := S29
theorem rd_get (l : List Ln) (i : Nat) (h : i < l.length) : rd_T29 l (i : Int) = l[i] := by
  unfold rd_T29
  rw [Int.toNat_natCast, List.getD_eq_getElem?_getD, List.getElem?_eq_getElem h]
  rfl
theorem rd_mem (l : List Ln) (i : Nat) (h : i < l.length) : rd_T29 l (i : Int) ∈ l := by
  rw [rd_get l i h]
  exact List.getElem_mem h
/-- No sign is below zero, no text too long. -/
def Nn (l : List Ln) : Prop := ∀ x ∈ l, 0 ≤ x.f0 ∧ x.f1.size ≤ 1048576
theorem Nn.set {l : List Ln} (h : Nn l) (i : Nat) {v : Ln} (hv : 0 ≤ v.f0 ∧ v.f1.size ≤ 1048576) : Nn (l.set i v) := by
  intro x hx
  rcases List.mem_or_eq_of_mem_set hx with hx | rfl
  · exact h x hx
  · exact hv
theorem bt_nonneg (s : ByteArray) (i : Int) : 0 ≤ bt s i := by
  unfold bt
  split <;> omega
/-- What a walk leaves: as many lines. -/
abbrev TR := Int × Int × Int × Int × List Ln
def Ends (n : Nat) (f : Nat → Option TR) : Prop := ∃ r : TR, Ev f r ∧ r.2.2.2.2.length = n ∧ Nn r.2.2.2.2
theorem Ends.step {n : Nat} {f g : Nat → Option TR} (h : Ends n g) (e : ∀ k, f (k + 1) = g k) : Ends n f := by
  obtain ⟨r, h1, h2⟩ := h
  exact ⟨r, Ev.step e h1, h2⟩
section
variable {a c : Int} {n : Nat} (hn : n ≤ 1000)
include hn
theorem tid_j2 {i : Nat} (hi : i < n) (next : ∀ (b d : Int) (y : List Ln), y.length = n → Nn y → Ends n (fun k => redpenlaw20_Tidied.l0 k (n : Int) ((i + 1 : Nat) : Int) a b c d y)) (b d : Int) (y : List Ln) (hy : y.length = n) (hN : Nn y) :
    Ends n (fun k => redpenlaw20_Tidied.j2 k (i : Int) (n : Int) (i : Int) a b c d y) := by
  have e : wrap64 ((i : Int) + 1) = ((i + 1 : Nat) : Int) := by rw [w64' (by omega) (by omega)]; omega
  by_cases h43 : (rd_T29 y (i : Int)).f0 = 43
  · refine (next b (wrap64 (d + 1)) y hy hN).step (fun k => ?_)
    simp only [redpenlaw20_Tidied.j2]
    rw [if_pos (by omega), if_pos (by omega), if_pos h43, if_neg (by omega), e]
  · by_cases h45 : (rd_T29 y (i : Int)).f0 = 45
    · refine (next (wrap64 (b + 1)) d y hy hN).step (fun k => ?_)
      simp only [redpenlaw20_Tidied.j2]
      rw [if_pos (by omega), if_pos (by omega), if_neg h43, if_pos h45, e]
    · refine (next (wrap64 (b + 1)) (wrap64 (d + 1)) y hy hN).step (fun k => ?_)
      simp only [redpenlaw20_Tidied.j2]
      rw [if_pos (by omega), if_pos (by omega), if_neg h43, if_neg h45, e]
theorem tid_l1 {i : Nat} (hi : i < n) (next : ∀ (b d : Int) (y : List Ln), y.length = n → Nn y → Ends n (fun k => redpenlaw20_Tidied.l0 k (n : Int) ((i + 1 : Nat) : Int) a b c d y)) (b d : Int) (y : List Ln) (hy : y.length = n) (hN : Nn y) :
    ∀ (e j : Nat) (acc : List Int), (mn ((rd_T29 y (i : Int)).f1.size : Int) 9).toNat - j = e → j ≤ (mn ((rd_T29 y (i : Int)).f1.size : Int) 9).toNat → acc.length ≤ j →
      Ends n (fun k => redpenlaw20_Tidied.l1 k (i : Int) acc (n : Int) (i : Int) (mn ((rd_T29 y (i : Int)).f1.size : Int) 9) (j : Int) a b c d y) := by
  have hm : mn ((rd_T29 y (i : Int)).f1.size : Int) 9 = ((min (rd_T29 y (i : Int)).f1.size 9 : Nat) : Int) := by unfold mn; split <;> omega
  rw [hm, Int.toNat_natCast]
  intro e
  induction e with
  | zero =>
    intro j acc hd hj ha
    have hmem := hN _ (rd_mem y i (by omega))
    have hN1 : Nn (y.set i ⟨(rd_T29 y (i : Int)).f0, strOfNums acc, (rd_T29 y (i : Int)).f2⟩) := hN.set i ⟨hmem.1, by show (strOfNums acc).size ≤ _; rw [strOfNums_size]; omega⟩
    have hm1 := rd_mem (y.set i ⟨(rd_T29 y (i : Int)).f0, strOfNums acc, (rd_T29 y (i : Int)).f2⟩) i (by rw [List.length_set]; omega)
    have hm2 := hN1 _ hm1
    by_cases hb : (rd_T29 (y.set i ⟨(rd_T29 y (i : Int)).f0, strOfNums acc, (rd_T29 y (i : Int)).f2⟩) (i : Int)).f2 = true
    · refine (tid_j2 hn hi next b d ((y.set i ⟨(rd_T29 y (i : Int)).f0, strOfNums acc, (rd_T29 y (i : Int)).f2⟩).set i ⟨(rd_T29 (y.set i ⟨(rd_T29 y (i : Int)).f0, strOfNums acc, (rd_T29 y (i : Int)).f2⟩) (i : Int)).f0, (rd_T29 (y.set i ⟨(rd_T29 y (i : Int)).f0, strOfNums acc, (rd_T29 y (i : Int)).f2⟩) (i : Int)).f1, decide ((wrap64 ((i : Int) + 2)) ≥ (y.length : Int))⟩) (by simp [hy]) ?_).step (fun k => ?_)
      · exact hN1.set i hm2
      · simp only [redpenlaw20_Tidied.l1, Option.bind_some, Int.toNat_natCast]
        rw [if_neg (by omega), if_pos (by omega), if_pos (by omega), if_pos hb]
    · refine (tid_j2 hn hi next b d ((y.set i ⟨(rd_T29 y (i : Int)).f0, strOfNums acc, (rd_T29 y (i : Int)).f2⟩).set i ⟨(rd_T29 (y.set i ⟨(rd_T29 y (i : Int)).f0, strOfNums acc, (rd_T29 y (i : Int)).f2⟩) (i : Int)).f0, (rd_T29 (y.set i ⟨(rd_T29 y (i : Int)).f0, strOfNums acc, (rd_T29 y (i : Int)).f2⟩) (i : Int)).f1, false⟩) (by simp [hy]) ?_).step (fun k => ?_)
      · exact hN1.set i hm2
      · simp only [redpenlaw20_Tidied.l1, Option.bind_some, Int.toNat_natCast]
        rw [if_neg (by omega), if_pos (by omega), if_pos (by omega), if_neg hb]
  | succ e ih =>
    intro j acc hd hj ha
    have ew : wrap64 ((j : Int) + 1) = ((j + 1 : Nat) : Int) := by rw [w64' (by omega) (by omega)]; omega
    by_cases h10 : bt ((rd_T29 y (i : Int)).f1) (j : Int) = 10
    · refine (ih (j + 1) acc (by omega) (by omega) (by omega)).step (fun k => ?_)
      simp only [redpenlaw20_Tidied.l1]
      rw [if_pos (by omega), if_pos (by omega), if_pos (by omega), if_pos (by omega), if_pos (by omega), if_pos h10, ew]
    · refine (ih (j + 1) (acc ++ [bt ((rd_T29 y (i : Int)).f1) (j : Int)]) (by omega) (by omega) (by simp; omega)).step (fun k => ?_)
      simp only [redpenlaw20_Tidied.l1]
      rw [if_pos (by omega), if_pos (by omega), if_pos (by omega), if_pos (by omega), if_pos (by omega), if_neg h10, if_pos (by omega), ew]
theorem tid_l0 : ∀ (e i : Nat) (b d : Int) (y : List Ln), n - i = e → i ≤ n → y.length = n → Nn y → Ends n (fun k => redpenlaw20_Tidied.l0 k (n : Int) (i : Int) a b c d y) := by
  intro e
  induction e with
  | zero =>
    intro i b d y hd hi hy hN
    refine ⟨(a, b, c, d, y), Ev.step (f := fun _ => some (a, b, c, d, y)) (fun k => ?_) (Ev.now _), hy, hN⟩
    simp only [redpenlaw20_Tidied.l0]
    rw [if_neg (by omega)]
  | succ e ih =>
    intro i b d y hd hi hy hN
    have hlt : i < n := by omega
    have hs := hN _ (rd_mem y i (by omega))
    have t0 : 0 ≤ Int.tmod ((rd_T29 y (i : Int)).f0) 3 := Int.tmod_nonneg 3 hs.1
    have t1 : Int.tmod ((rd_T29 y (i : Int)).f0) 3 < 3 := Int.tmod_lt_of_pos _ (by omega)
    refine (tid_l1 hn hlt (fun b d y hy hN => ih (i + 1) b d y (by omega) (by omega) hy hN) b d (y.set i ⟨bt (⟨#[32, 45, 43]⟩ : ByteArray) (Int.tmod ((rd_T29 y (i : Int)).f0) 3), (rd_T29 y (i : Int)).f1, (rd_T29 y (i : Int)).f2⟩) (by simp [hy]) (hN.set i ⟨bt_nonneg _ _, hs.2⟩) _ 0 [] rfl (by omega) (by simp)).step (fun k => ?_)
    simp only [redpenlaw20_Tidied.l0, Option.bind_some, Int.toNat_natCast]
    rw [if_pos (by omega), if_pos (by omega), if_pos (by omega), if_pos t0, if_pos t1]
    rfl
end
theorem tidied_ev (a b c d : Int) (l : List Ln) (hl : l.length ≤ 1000) (hN : Nn l) (r : Bool) : ∃ x : TR, Ev (fun k => redpenlaw20_Tidied.f k a b c d l r) x ∧ x.2.2.2.2.length = min l.length 12 ∧ Nn x.2.2.2.2 ∧ (r = false → x = (a, b, c, d, l.take (min l.length 12))) := by
  have hm : mn (l.length : Int) 12 = ((min l.length 12 : Nat) : Int) := by unfold mn; split <;> omega
  have hy : (l.take (min l.length 12)).length = min l.length 12 := by rw [List.length_take]; omega
  have hN2 : Nn (l.take (min l.length 12)) := fun x hx => hN x (List.mem_of_mem_take hx)
  cases r with
  | false =>
    refine ⟨(a, b, c, d, l.take (min l.length 12)), Ev.congr (fun k => ?_) (Ev.now _), hy, hN2, fun _ => rfl⟩
    simp only [redpenlaw20_Tidied.f, Option.bind_some, List.nil_append, List.length_nil, hm, Int.toNat_natCast]
    rw [if_pos (by omega), if_pos (by omega), if_pos (by rw [hy]; omega), if_neg (by simp)]
  | true =>
    obtain ⟨x, h1, h2, h3⟩ := tid_l0 (n := min l.length 12) (a := wrap64 (Int.tmod (IntKind.u64.wrap a) 50)) (c := wrap64 (Int.tmod (IntKind.u64.wrap c) 50)) (by omega) _ 0 0 0 (l.take (min l.length 12)) rfl (by omega) hy hN2
    refine ⟨x, Ev.congr (fun k => ?_) h1, h2, h3, fun h => by cases h⟩
    simp only [redpenlaw20_Tidied.f, Option.bind_some, List.nil_append, List.length_nil, hm, Int.toNat_natCast]
    rw [if_pos (by omega), if_pos (by omega), if_pos (by rw [hy]; omega), if_pos trivial, hy]
    rfl
/-! ### Check -/
/-- May a line of a sign be its side's last one, with these behind it? -/
def lastM (sg : Int) (l : List Ln) : Bool := l.all fun x => !(decide (x.f0 = 32) || decide (sg = 32) || decide (x.f0 = sg))
def hasNl (s : ByteArray) : Bool := (bytesOf s).any fun c => decide (c = 10)
/-- The first fault of lines: a newline within, a sign of no kind; else how many old and new ones. -/
def scanM : List Ln → Int → Int → Sum Int (Int × Int)
  | [], o, n => .inr (o, n)
  | x :: t, o, n => if hasNl x.f1 = true then .inl 14 else if x.f0 = 32 then scanM t (o + 1) (n + 1) else if x.f0 = 43 then scanM t o (n + 1) else if x.f0 = 45 then scanM t (o + 1) n else .inl 7
def bareM : List Ln → Int
  | [] => 0
  | x :: t => if x.f2 = true then (if lastM x.f0 t = true then bareM t else 15) else bareM t
def checkM (a b c d : Int) (l : List Ln) : Int := match scanM l 0 0 with
  | .inl e => e
  | .inr (o, n) => if a < 0 ∨ c < 0 ∨ a > 65536 ∨ c > 65536 then 2 else if o ≠ b ∨ n ≠ d ∨ o + n = 0 then 13 else bareM l
theorem scanM_range : ∀ (l : List Ln) (o n : Int) {o' n' : Int}, scanM l o n = .inr (o', n') → o ≤ o' ∧ n ≤ n' ∧ o' ≤ o + l.length ∧ n' ≤ n + l.length ∧ (l ≠ [] → o + n < o' + n')
  | [], o, n, o', n', h => by
    unfold scanM at h
    injection h with h
    injection h with h1 h2
    subst h1 h2
    simp
  | x :: t, o, n, o', n', h => by
    unfold scanM at h
    simp only [List.length_cons]
    split at h
    · cases h
    split at h
    · have := scanM_range t _ _ h
      refine ⟨by omega, by omega, by omega, by omega, fun _ => by omega⟩
    split at h
    · have := scanM_range t _ _ h
      refine ⟨by omega, by omega, by omega, by omega, fun _ => by omega⟩
    split at h
    · have := scanM_range t _ _ h
      refine ⟨by omega, by omega, by omega, by omega, fun _ => by omega⟩
    · cases h
theorem index_nl (s : ByteArray) : (Lib.indexByte s.data.toList (10 : Int).toNat.toUInt8 ≥ 0) ↔ hasNl s = true := by
  unfold hasNl bytesOf
  rw [List.any_map]
  generalize s.data.toList = l
  induction l with
  | nil => simp [Lib.indexByte]
  | cons b l ih =>
    have hb : (b == (10 : Int).toNat.toUInt8) = decide (((b.toNat : Nat) : Int) = 10) := by
      rw [Bool.eq_iff_iff, beq_iff_eq, decide_eq_true_eq, ← UInt8.toNat_inj]
      show b.toNat = 10 ↔ _
      omega
    have hge := Lib.indexByte_ge l (10 : Int).toNat.toUInt8
    unfold Lib.indexByte
    rw [hb, List.any_cons]
    show _ ↔ (decide (((b.toNat : Nat) : Int) = 10) || l.any _) = true
    by_cases h : ((b.toNat : Nat) : Int) = 10
    · simp [h]
    · rw [decide_eq_false h]
      simp only [Bool.false_eq_true, if_false, Bool.false_or]
      rw [← ih]
      by_cases h1 : Lib.indexByte l (10 : Int).toNat.toUInt8 = -1
      · rw [h1]; simp
      · have : (Lib.indexByte l (10 : Int).toNat.toUInt8 == -1) = false := beq_eq_false_iff_ne.mpr h1
        rw [this]
        simp only [Bool.false_eq_true, if_false]
        omega
theorem last_ev (sg : Int) (l : List Ln) (hl : l.length ≤ 1000) : ∀ (e i : Nat), l.length - i = e → i ≤ l.length → Ev (fun k => show_last.l0 k sg l (l.length : Int) (i : Int)) (lastM sg (l.drop i)) := by
  intro e
  induction e with
  | zero =>
    intro i hd hi
    rw [List.drop_of_length_le (by omega)]
    refine Ev.step (f := fun _ => some true) (fun k => ?_) (Ev.now _)
    simp only [show_last.l0]
    rw [if_neg (by omega)]
  | succ e ih =>
    intro i hd hi
    have hlt : i < l.length := by omega
    have ew : wrap64 ((i : Int) + 1) = ((i + 1 : Nat) : Int) := by rw [w64' (by omega) (by omega)]; omega
    have hx := rd_get l i hlt
    rw [List.drop_eq_getElem_cons hlt]
    show Ev _ ((!(decide (l[i].f0 = 32) || decide (sg = 32) || decide (l[i].f0 = sg))) && lastM sg (l.drop (i + 1)))
    by_cases h1 : l[i].f0 = 32
    · rw [decide_eq_true h1]
      simp only [Bool.true_or, Bool.not_true, Bool.false_and]
      refine Ev.step (f := fun _ => some false) (fun k => ?_) (Ev.now _)
      simp only [show_last.l0, hx]
      rw [if_pos (by omega), if_pos (by omega), if_pos (by omega), if_pos h1]
    by_cases h2 : sg = 32
    · rw [decide_eq_true h2]
      simp only [Bool.or_true, Bool.true_or, Bool.not_true, Bool.false_and]
      refine Ev.step (f := fun _ => some false) (fun k => ?_) (Ev.now _)
      simp only [show_last.l0, hx]
      rw [if_pos (by omega), if_pos (by omega), if_pos (by omega), if_neg h1, if_pos h2]
    by_cases h3 : l[i].f0 = sg
    · rw [decide_eq_true h3]
      simp only [Bool.or_true, Bool.not_true, Bool.false_and]
      refine Ev.step (f := fun _ => some false) (fun k => ?_) (Ev.now _)
      simp only [show_last.l0, hx]
      rw [if_pos (by omega), if_pos (by omega), if_pos (by omega), if_neg h1, if_neg h2, if_pos h3]
    · rw [decide_eq_false h1, decide_eq_false h2, decide_eq_false h3]
      simp only [Bool.or_false, Bool.not_false, Bool.true_and]
      refine Ev.step (fun k => ?_) (ih (i + 1) (by omega) (by omega))
      simp only [show_last.l0, hx]
      rw [if_pos (by omega), if_pos (by omega), if_pos (by omega), if_neg h1, if_neg h2, if_neg h3, ew]
section
variable (a b c d : Int) (l : List Ln) (hl : l.length ≤ 1000)
include hl
theorem check_l1 : ∀ (e i : Nat), l.length - i = e → i ≤ l.length → Ev (fun k => show_Check.l1 k l (l.length : Int) (i : Int) a b c d l) (bareM (l.drop i)) := by
  intro e
  induction e with
  | zero =>
    intro i hd hi
    rw [List.drop_of_length_le (by omega)]
    refine Ev.step (f := fun _ => some 0) (fun k => ?_) (Ev.now _)
    simp only [show_Check.l1]
    rw [if_neg (by omega)]
  | succ e ih =>
    intro i hd hi
    have hlt : i < l.length := by omega
    have ew : wrap64 ((i : Int) + 1) = ((i + 1 : Nat) : Int) := by rw [w64' (by omega) (by omega)]; omega
    have hx := rd_get l i hlt
    rw [List.drop_eq_getElem_cons hlt]
    show Ev _ (if l[i].f2 = true then (if lastM l[i].f0 (l.drop (i + 1)) = true then bareM (l.drop (i + 1)) else 15) else bareM (l.drop (i + 1)))
    by_cases h2 : l[i].f2 = true
    · rw [if_pos h2]
      have hla := last_ev l[i].f0 (l.drop (i + 1)) (by rw [List.length_drop]; omega) _ 0 rfl (by omega)
      rw [List.drop_zero] at hla
      refine Ev.step (f := fun k => (show_last.f k (l.drop (i + 1)) l[i].f0).bind fun t => if t = true then show_Check.l1 k l (l.length : Int) ((i + 1 : Nat) : Int) a b c d l else some 15) (fun k => ?_) (Ev.bind hla ?_)
      · simp only [show_Check.l1, hx, ew, Int.toNat_natCast]
        rw [if_pos (by omega), if_pos (by omega), if_pos (by omega), if_pos h2, if_pos (by omega), if_pos (by omega)]
      · by_cases h3 : lastM l[i].f0 (l.drop (i + 1)) = true
        · simp only [if_pos h3]
          exact ih (i + 1) (by omega) (by omega)
        · simp only [if_neg h3]
          exact Ev.now _
    · rw [if_neg h2]
      refine Ev.step (fun k => ?_) (ih (i + 1) (by omega) (by omega))
      simp only [show_Check.l1, hx, ew]
      rw [if_pos (by omega), if_pos (by omega), if_pos (by omega), if_neg h2]
def finM (o n : Int) : Int := if a < 0 ∨ c < 0 ∨ a > 65536 ∨ c > 65536 then 2 else if o ≠ b ∨ n ≠ d ∨ o + n = 0 then 13 else bareM l
theorem check_end (o n : Int) (ho : 0 ≤ o ∧ o ≤ 1000) (hn : 0 ≤ n ∧ n ≤ 1000) : Ev (fun k => show_Check.l0 k o n l (l.length : Int) (l.length : Int) a b c d l) (finM a b c d l o n) := by
  have j1 : ∀ t : Bool, (t = true ↔ (a < 0 ∨ c < 0 ∨ a > 65536 ∨ c > 65536)) → Ev (fun k => show_Check.j1 k o n t a b c d l) (finM a b c d l o n) := by
    intro t ht
    unfold finM
    cases t with
    | true =>
      rw [if_pos (ht.1 rfl)]
      refine Ev.step (f := fun _ => some 2) (fun k => ?_) (Ev.now _)
      simp only [show_Check.j1]
      rw [if_pos trivial]
    | false =>
      rw [if_neg (fun h => by have := ht.2 h; cases this)]
      have e1 : wrap64 (o + n) = o + n := w64' (by omega) (by omega)
      by_cases g1 : o = b
      · by_cases g2 : n = d
        · by_cases g3 : o + n = 0
          · rw [if_pos (.inr (.inr g3))]
            refine Ev.step (f := fun _ => some 13) (fun k => ?_) (Ev.now _)
            simp only [show_Check.j1, e1]
            rw [if_neg (by simp), if_pos g1, if_pos g2, if_pos g3]
          · rw [if_neg (by omega)]
            have h0 := check_l1 a b c d l hl _ 0 rfl (by omega)
            rw [List.drop_zero] at h0
            refine Ev.step (fun k => ?_) h0
            simp only [show_Check.j1, e1]
            rw [if_neg (by simp), if_pos g1, if_pos g2, if_neg g3]
            rfl
        · rw [if_pos (.inr (.inl g2))]
          refine Ev.step (f := fun _ => some 13) (fun k => ?_) (Ev.now _)
          simp only [show_Check.j1]
          rw [if_neg (by simp), if_pos g1, if_neg g2]
      · rw [if_pos (.inl g1)]
        refine Ev.step (f := fun _ => some 13) (fun k => ?_) (Ev.now _)
        simp only [show_Check.j1]
        rw [if_neg (by simp), if_neg g1]
  by_cases q1 : a < 0
  · refine Ev.step (fun k => ?_) (j1 true (by simp [q1]))
    simp only [show_Check.l0]
    rw [if_neg (by omega), if_pos q1]
  by_cases q2 : c < 0
  · refine Ev.step (fun k => ?_) (j1 true (by simp [q2]))
    simp only [show_Check.l0]
    rw [if_neg (by omega), if_neg q1, if_pos q2]
  by_cases q3 : a > 65536
  · refine Ev.step (fun k => ?_) (j1 true (by simp; omega))
    simp only [show_Check.l0]
    rw [if_neg (by omega), if_neg q1, if_neg q2, if_pos q3]
  · refine Ev.step (fun k => ?_) (j1 (decide (c > 65536)) (by simp; omega))
    simp only [show_Check.l0]
    rw [if_neg (by omega), if_neg q1, if_neg q2, if_neg q3]
def restM (t : List Ln) (o n : Int) : Int := match scanM t o n with
  | .inl e => e
  | .inr (o, n) => finM a b c d l o n
theorem check_l0 : ∀ (e i : Nat) (o n : Int), l.length - i = e → i ≤ l.length → 0 ≤ o ∧ o ≤ i → 0 ≤ n ∧ n ≤ i → Ev (fun k => show_Check.l0 k o n l (l.length : Int) (i : Int) a b c d l) (restM a b c d l (l.drop i) o n) := by
  intro e
  induction e with
  | zero =>
    intro i o n hd hi ho hn
    have : i = l.length := by omega
    subst this
    rw [List.drop_of_length_le (Nat.le_refl _)]
    exact check_end a b c d l hl o n (by omega) (by omega)
  | succ e ih =>
    intro i o n hd hi ho hn
    have hlt : i < l.length := by omega
    have ew : wrap64 ((i : Int) + 1) = ((i + 1 : Nat) : Int) := by rw [w64' (by omega) (by omega)]; omega
    have eo : wrap64 (o + 1) = o + 1 := w64' (by omega) (by omega)
    have en : wrap64 (n + 1) = n + 1 := w64' (by omega) (by omega)
    have hx := rd_get l i hlt
    have hnl := index_nl l[i].f1
    rw [List.drop_eq_getElem_cons hlt]
    generalize hz : Lib.indexByte l[i].f1.data.toList (10 : Int).toNat.toUInt8 = z at hnl
    have hidx : strings_IndexByte.f l[i].f1 10 = some z := by unfold strings_IndexByte.f; rw [hz]
    unfold restM scanM
    by_cases h0 : hasNl l[i].f1 = true
    · rw [if_pos h0]
      refine Ev.step (f := fun _ => some 14) (fun k => ?_) (Ev.now _)
      simp only [show_Check.l0, hx, hidx, Option.bind_some]
      rw [if_pos (by omega), if_pos (by omega), if_pos (by omega), if_pos (hnl.2 h0)]
    rw [if_neg h0]
    have hz0 : ¬ z ≥ 0 := fun h => h0 (hnl.1 h)
    by_cases h1 : l[i].f0 = 32
    · rw [if_pos h1]
      refine Ev.step (fun k => ?_) (ih (i + 1) (o + 1) (n + 1) (by omega) (by omega) (by omega) (by omega))
      simp only [show_Check.l0, hx, hidx, Option.bind_some, eo, en, ew]
      rw [if_pos (by omega), if_pos (by omega), if_pos (by omega), if_neg hz0, if_pos h1]
    rw [if_neg h1]
    by_cases h2 : l[i].f0 = 43
    · rw [if_pos h2]
      refine Ev.step (fun k => ?_) (ih (i + 1) o (n + 1) (by omega) (by omega) (by omega) (by omega))
      simp only [show_Check.l0, hx, hidx, Option.bind_some, eo, en, ew]
      rw [if_pos (by omega), if_pos (by omega), if_pos (by omega), if_neg hz0, if_neg h1, if_pos h2]
    rw [if_neg h2]
    by_cases h3 : l[i].f0 = 45
    · rw [if_pos h3]
      refine Ev.step (fun k => ?_) (ih (i + 1) (o + 1) n (by omega) (by omega) (by omega) (by omega))
      simp only [show_Check.l0, hx, hidx, Option.bind_some, eo, en, ew]
      rw [if_pos (by omega), if_pos (by omega), if_pos (by omega), if_neg hz0, if_neg h1, if_neg h2, if_pos h3]
    · rw [if_neg h3]
      refine Ev.step (f := fun _ => some 7) (fun k => ?_) (Ev.now _)
      simp only [show_Check.l0, hx, hidx, Option.bind_some]
      rw [if_pos (by omega), if_pos (by omega), if_pos (by omega), if_neg hz0, if_neg h1, if_neg h2, if_neg h3]
theorem check_ev : Ev (fun k => show_Check.f k a b c d l) (checkM a b c d l) := by
  have h := check_l0 a b c d l hl _ 0 0 0 rfl (by omega) (by omega) (by omega)
  rw [List.drop_zero] at h
  exact h
/-! ### the document's Check -/
omit hl in
theorem bt_bytes (s : ByteArray) (i : Nat) (h : i < s.size) : bt s (i : Int) = rd (bytesOf s) (i : Int) := by
  unfold bt rd bytesOf
  rw [dif_pos (by rw [Int.toNat_natCast]; exact h)]
  simp only [Int.toNat_natCast]
  rw [List.getD_eq_getElem?_getD, List.getElem?_map, List.getElem?_eq_getElem (by rw [Array.length_toList]; have := s.size_data; omega)]
  rfl
/-- A sign of a kind. -/
def Sg (x : Ln) : Prop := x.f0 = 32 ∨ x.f0 = 43 ∨ x.f0 = 45
omit hl in
theorem has_ev (s : ByteArray) : ∀ (e i : Nat), s.size - i = e → i ≤ s.size → s.size ≤ 1000000000000000 → Ev (fun k => redpenref18_has.l0 k s 10 (i : Int)) (((bytesOf s).drop i).any fun c => decide (c = 10)) := by
  intro e
  induction e with
  | zero =>
    intro i hd hi hs
    rw [List.drop_of_length_le (by rw [bytesOf_length]; omega)]
    refine Ev.step (f := fun _ => some false) (fun k => ?_) (Ev.now _)
    simp only [redpenref18_has.l0]
    rw [if_neg (by omega)]
  | succ e ih =>
    intro i hd hi hs
    have hlt : i < s.size := by omega
    have hlt' : i < (bytesOf s).length := by rw [bytesOf_length]; exact hlt
    have ew : wrap64 ((i : Int) + 1) = ((i + 1 : Nat) : Int) := by rw [w64' (by omega) (by omega)]; omega
    have hb : bt s (i : Int) = (bytesOf s)[i] := by
      rw [bt_bytes s i hlt]
      unfold rd
      rw [Int.toNat_natCast, List.getD_eq_getElem?_getD, List.getElem?_eq_getElem hlt']
      rfl
    rw [List.drop_eq_getElem_cons hlt', List.any_cons]
    by_cases h : (bytesOf s)[i] = 10
    · rw [decide_eq_true h, Bool.true_or]
      refine Ev.step (f := fun _ => some true) (fun k => ?_) (Ev.now _)
      simp only [redpenref18_has.l0, hb]
      rw [if_pos (by omega), if_pos (by omega), if_pos h]
    · rw [decide_eq_false h, Bool.false_or]
      refine Ev.step (fun k => ?_) (ih (i + 1) (by omega) (by omega) hs)
      simp only [redpenref18_has.l0, hb, ew]
      rw [if_pos (by omega), if_pos (by omega), if_neg h]
theorem rcheck_l2 (hv : ∀ x ∈ l, Sg x) {i : Nat} (hi : i < l.length) {res : Int} (h : Ev (fun k => redpenref18_Check.l1 k ((i + 1 : Nat) : Int) a b c d l) res) : ∀ (e j : Nat), l.length - j = e → j ≤ l.length → Ev (fun k => redpenref18_Check.l2 k (i : Int) (j : Int) a b c d l) (if lastM l[i].f0 (l.drop j) = true then res else 15) := by
  intro e
  have ei : wrap64 ((i : Int) + 1) = ((i + 1 : Nat) : Int) := by rw [w64' (by omega) (by omega)]; omega
  have hxi := rd_get l i hi
  induction e with
  | zero =>
    intro j hd hj
    rw [List.drop_of_length_le (by omega)]
    simp only [lastM, List.all_nil, if_true]
    refine Ev.step (fun k => ?_) h
    simp only [redpenref18_Check.l2, ei]
    rw [if_neg (by omega)]
  | succ e ih =>
    intro j hd hj
    have hlt : j < l.length := by omega
    have ej : wrap64 ((j : Int) + 1) = ((j + 1 : Nat) : Int) := by rw [w64' (by omega) (by omega)]; omega
    have hxj := rd_get l j hlt
    have hih := ih (j + 1) (by omega) (by omega)
    have hsp : (lastM l[i].f0 (l.drop j) = true) ↔ (¬ (l[j].f0 = 32 ∨ l[i].f0 = 32 ∨ l[j].f0 = l[i].f0)) ∧ lastM l[i].f0 (l.drop (j + 1)) = true := by
      rw [List.drop_eq_getElem_cons hlt]
      show ((!(decide (l[j].f0 = 32) || decide (l[i].f0 = 32) || decide (l[j].f0 = l[i].f0))) && lastM l[i].f0 (l.drop (j + 1))) = true ↔ _
      simp only [Bool.and_eq_true, Bool.not_eq_true', Bool.or_eq_false_iff, decide_eq_false_iff_not, not_or]
      constructor
      · rintro ⟨⟨⟨h1, h2⟩, h3⟩, h4⟩
        exact ⟨⟨h1, h2, h3⟩, h4⟩
      · rintro ⟨⟨h1, h2, h3⟩, h4⟩
        exact ⟨⟨⟨h1, h2⟩, h3⟩, h4⟩
    have v1 : Sg l[i] := hv _ (List.getElem_mem hi)
    have v2 : Sg l[j] := hv _ (List.getElem_mem hlt)
    unfold Sg at v1 v2
    by_cases g : (l[i].f0 = 43 ∧ l[j].f0 = 45) ∨ (l[i].f0 = 45 ∧ l[j].f0 = 43)
    · have e : (if lastM l[i].f0 (l.drop j) = true then res else 15) = if lastM l[i].f0 (l.drop (j + 1)) = true then res else 15 := by
        by_cases q : lastM l[i].f0 (l.drop (j + 1)) = true
        · rw [if_pos q, if_pos (hsp.2 ⟨by omega, q⟩)]
        · rw [if_neg q, if_neg (fun x => q (hsp.1 x).2)]
      rw [e]
      refine Ev.step (fun k => ?_) hih
      simp only [redpenref18_Check.l2, hxi, hxj, ej]
      rcases g with ⟨g1, g2⟩ | ⟨g1, g2⟩
      · rw [if_pos (by omega), if_pos (by omega), if_pos (by omega), if_pos (by omega), if_pos g1, if_neg (by omega), if_pos g2]
      · rw [if_pos (by omega), if_pos (by omega), if_pos (by omega), if_pos (by omega), if_neg (by omega), if_pos g2, if_pos g1]
    · have hno : ¬ lastM l[i].f0 (l.drop j) = true := fun x => by have := (hsp.1 x).1; omega
      rw [if_neg hno]
      refine Ev.step (f := fun _ => some 15) (fun k => ?_) (Ev.now _)
      simp only [redpenref18_Check.l2, hxi, hxj]
      rw [if_pos (by omega), if_pos (by omega), if_pos (by omega), if_pos (by omega)]
      by_cases g1 : l[i].f0 = 43
      · rw [if_pos g1, if_neg (by omega), if_neg (by omega)]
      · rw [if_neg g1]
        by_cases g2 : l[j].f0 = 43
        · rw [if_pos g2, if_neg (by omega), if_neg (by omega)]
        · rw [if_neg g2]
theorem rcheck_l1 (hv : ∀ x ∈ l, Sg x) : ∀ (e i : Nat), l.length - i = e → i ≤ l.length → Ev (fun k => redpenref18_Check.l1 k (i : Int) a b c d l) (bareM (l.drop i)) := by
  intro e
  induction e with
  | zero =>
    intro i hd hi
    rw [List.drop_of_length_le (by omega)]
    refine Ev.step (f := fun _ => some 0) (fun k => ?_) (Ev.now _)
    simp only [redpenref18_Check.l1]
    rw [if_neg (by omega)]
  | succ e ih =>
    intro i hd hi
    have hlt : i < l.length := by omega
    have ew : wrap64 ((i : Int) + 1) = ((i + 1 : Nat) : Int) := by rw [w64' (by omega) (by omega)]; omega
    have hx := rd_get l i hlt
    have hih := ih (i + 1) (by omega) (by omega)
    rw [List.drop_eq_getElem_cons hlt]
    show Ev _ (if l[i].f2 = true then (if lastM l[i].f0 (l.drop (i + 1)) = true then bareM (l.drop (i + 1)) else 15) else bareM (l.drop (i + 1)))
    by_cases h2 : l[i].f2 = true
    · rw [if_pos h2]
      refine Ev.step (fun k => ?_) (rcheck_l2 a b c d l hl hv hlt hih _ (i + 1) rfl (by omega))
      simp only [redpenref18_Check.l1, hx, ew]
      rw [if_pos (by omega), if_pos (by omega), if_pos h2]
    · rw [if_neg h2]
      refine Ev.step (fun k => ?_) hih
      simp only [redpenref18_Check.l1, hx, ew]
      rw [if_pos (by omega), if_pos (by omega), if_neg h2]
theorem rcheck_end (hv : ∀ x ∈ l, Sg x) (o n : Int) (hz : (l.length : Int) = 0 ↔ o + n = 0) : Ev (fun k => redpenref18_Check.l0 k o n (l.length : Int) a b c d l) (finM a b c d l o n) := by
  have j3 : ∀ t : Bool, (t = true ↔ (o ≠ b ∨ n ≠ d ∨ o + n = 0)) → Ev (fun k => redpenref18_Check.j3 k t a b c d l) (if o ≠ b ∨ n ≠ d ∨ o + n = 0 then 13 else bareM l) := by
    intro t ht
    cases t with
    | true =>
      rw [if_pos (ht.1 rfl)]
      refine Ev.step (f := fun _ => some 13) (fun k => ?_) (Ev.now _)
      simp only [redpenref18_Check.j3]
      rw [if_pos trivial]
    | false =>
      rw [if_neg (fun h => by have := ht.2 h; cases this)]
      have h0 := rcheck_l1 a b c d l hl hv _ 0 rfl (by omega)
      rw [List.drop_zero] at h0
      refine Ev.step (fun k => ?_) h0
      simp only [redpenref18_Check.j3]
      rw [if_neg (by simp)]
      rfl
  have j2 : ∀ t : Bool, (t = true ↔ (a < 0 ∨ c < 0 ∨ a > 65536 ∨ c > 65536)) → Ev (fun k => redpenref18_Check.j2 k o n t a b c d l) (finM a b c d l o n) := by
    intro t ht
    unfold finM
    cases t with
    | true =>
      rw [if_pos (ht.1 rfl)]
      refine Ev.step (f := fun _ => some 2) (fun k => ?_) (Ev.now _)
      simp only [redpenref18_Check.j2]
      rw [if_pos trivial]
    | false =>
      rw [if_neg (fun h => by have := ht.2 h; cases this)]
      by_cases g1 : o = b
      · by_cases g2 : n = d
        · refine Ev.step (fun k => ?_) (j3 ((l.length : Int) == 0) (by rw [beq_iff_eq, hz]; constructor; exact fun h => .inr (.inr h); intro h; omega))
          simp only [redpenref18_Check.j2]
          rw [if_neg (by simp), if_pos g1, if_pos g2]
        · refine Ev.step (fun k => ?_) (j3 true (by simp [g2]))
          simp only [redpenref18_Check.j2]
          rw [if_neg (by simp), if_pos g1, if_neg g2]
      · refine Ev.step (fun k => ?_) (j3 true (by simp [g1]))
        simp only [redpenref18_Check.j2]
        rw [if_neg (by simp), if_neg g1]
  by_cases q1 : a < 0
  · refine Ev.step (fun k => ?_) (j2 true (by simp [q1]))
    simp only [redpenref18_Check.l0]
    rw [if_neg (by omega), if_pos q1]
  by_cases q3 : a > 65536
  · refine Ev.step (fun k => ?_) (j2 true (by simp; omega))
    simp only [redpenref18_Check.l0]
    rw [if_neg (by omega), if_neg q1, if_pos q3]
  by_cases q2 : c < 0
  · refine Ev.step (fun k => ?_) (j2 true (by simp [q2]))
    simp only [redpenref18_Check.l0]
    rw [if_neg (by omega), if_neg q1, if_neg q3, if_pos q2]
  · refine Ev.step (fun k => ?_) (j2 (decide (c > 65536)) (by simp; omega))
    simp only [redpenref18_Check.l0]
    rw [if_neg (by omega), if_neg q1, if_neg q3, if_neg q2]
theorem rcheck_l0 (hsz : ∀ x ∈ l, x.f1.size ≤ 1000000000000000) : ∀ (e i : Nat) (o n : Int), l.length - i = e → i ≤ l.length → 0 ≤ o ∧ o ≤ i → 0 ≤ n ∧ n ≤ i → (i : Int) ≤ o + n → (∀ x ∈ l.take i, Sg x) → Ev (fun k => redpenref18_Check.l0 k o n (i : Int) a b c d l) (restM a b c d l (l.drop i) o n) := by
  intro e
  induction e with
  | zero =>
    intro i o n hd hi ho hn hs hv
    have : i = l.length := by omega
    subst this
    rw [List.take_length] at hv
    rw [List.drop_of_length_le (Nat.le_refl _)]
    exact rcheck_end a b c d l hl hv o n (by omega)
  | succ e ih =>
    intro i o n hd hi ho hn hs hv
    have hlt : i < l.length := by omega
    have ew : wrap64 ((i : Int) + 1) = ((i + 1 : Nat) : Int) := by rw [w64' (by omega) (by omega)]; omega
    have eo : wrap64 (o + 1) = o + 1 := w64' (by omega) (by omega)
    have en : wrap64 (n + 1) = n + 1 := w64' (by omega) (by omega)
    have hx := rd_get l i hlt
    have hh : Ev (fun k => redpenref18_has.f k l[i].f1 10) (hasNl l[i].f1) := by
      have := has_ev l[i].f1 _ 0 rfl (by omega) (hsz _ (List.getElem_mem hlt))
      rw [List.drop_zero] at this
      exact this
    have hv' : Sg l[i] → ∀ x ∈ l.take (i + 1), Sg x := by
      intro hs x hx
      rw [List.take_succ_eq_append_getElem hlt] at hx
      rcases List.mem_append.1 hx with hx | hx
      · exact hv x hx
      · rw [List.mem_singleton.1 hx]
        exact hs
    rw [List.drop_eq_getElem_cons hlt]
    have head : ∀ (g : Nat → Option Int), (∀ k, redpenref18_Check.l0 (k + 1) o n (i : Int) a b c d l = (redpenref18_has.f k l[i].f1 10).bind fun t => if t = true then some 14 else g k) → (hasNl l[i].f1 = false → Ev g (restM a b c d l (l[i] :: l.drop (i + 1)) o n)) → Ev (fun k => redpenref18_Check.l0 k o n (i : Int) a b c d l) (restM a b c d l (l[i] :: l.drop (i + 1)) o n) := by
      intro g hg hE
      refine Ev.step hg (Ev.bind hh ?_)
      by_cases h0 : hasNl l[i].f1 = true
      · rw [h0]
        simp only [if_true]
        unfold restM scanM
        rw [if_pos h0]
        exact Ev.now _
      · rw [eq_false_of_ne_true h0]
        simp only [Bool.false_eq_true, if_false]
        exact hE (eq_false_of_ne_true h0)
    have tail : ∀ (t : Bool), hasNl l[i].f1 = false → (t = true ↔ ¬ Sg l[i]) → Ev (fun k => redpenref18_Check.j1 k o n (i : Int) t a b c d l l[i].f0 l[i].f1 l[i].f2) (restM a b c d l (l[i] :: l.drop (i + 1)) o n) := by
      intro t h0 ht
      unfold restM scanM
      rw [if_neg (by rw [h0]; simp)]
      unfold Sg at ht
      cases t with
      | true =>
        have := ht.1 rfl
        rw [if_neg (by omega), if_neg (by omega), if_neg (by omega)]
        refine Ev.step (f := fun _ => some 7) (fun k => ?_) (Ev.now _)
        simp only [redpenref18_Check.j1]
        rw [if_pos trivial]
      | false =>
        have hsg : l[i].f0 = 32 ∨ l[i].f0 = 43 ∨ l[i].f0 = 45 := Classical.byContradiction (fun h => by have := ht.2 h; cases this)
        by_cases h1 : l[i].f0 = 32
        · rw [if_pos h1]
          refine Ev.step (fun k => ?_) (ih (i + 1) (o + 1) (n + 1) (by omega) (by omega) (by omega) (by omega) (by omega) (hv' hsg))
          simp only [redpenref18_Check.j1, eo, en, ew]
          rw [if_neg (by simp), if_neg (by omega), if_neg (by omega)]
        rw [if_neg h1]
        by_cases h2 : l[i].f0 = 43
        · rw [if_pos h2]
          refine Ev.step (fun k => ?_) (ih (i + 1) o (n + 1) (by omega) (by omega) (by omega) (by omega) (by omega) (hv' hsg))
          simp only [redpenref18_Check.j1, eo, en, ew]
          rw [if_neg (by simp), if_pos h2, if_neg (by omega)]
        · rw [if_neg h2, if_pos (by omega)]
          refine Ev.step (fun k => ?_) (ih (i + 1) (o + 1) n (by omega) (by omega) (by omega) (by omega) (by omega) (hv' hsg))
          simp only [redpenref18_Check.j1, eo, en, ew]
          rw [if_neg (by simp), if_neg h2, if_pos (by omega)]
    by_cases h1 : l[i].f0 = 32
    · refine head _ (fun k => ?_) (fun h0 => tail false h0 (by unfold Sg; simp [h1]))
      simp only [redpenref18_Check.l0, hx]
      rw [if_pos (by omega), if_pos (by omega)]
      simp only [if_pos h1]
    by_cases h2 : l[i].f0 = 45
    · refine head _ (fun k => ?_) (fun h0 => tail false h0 (by unfold Sg; simp [h2]))
      simp only [redpenref18_Check.l0, hx]
      rw [if_pos (by omega), if_pos (by omega)]
      simp only [if_neg h1, if_pos h2]
    · refine head _ (fun k => ?_) (fun h0 => tail (l[i].f0 != 43) h0 (by unfold Sg; rw [bne_iff_ne]; omega))
      simp only [redpenref18_Check.l0, hx]
      rw [if_pos (by omega), if_pos (by omega)]
      simp only [if_neg h1, if_neg h2]
theorem rcheck_ev (hsz : ∀ x ∈ l, x.f1.size ≤ 1000000000000000) : Ev (fun k => redpenref18_Check.f k a b c d l) (checkM a b c d l) := by
  have h := rcheck_l0 a b c d l hl hsz _ 0 0 0 rfl (by omega) (by omega) (by omega) (by omega) (by simp)
  rw [List.drop_zero] at h
  exact h
end
end Go.Proofs.YtjabpbnlpljlkaaDoor.Pure
