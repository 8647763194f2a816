/- ShowPrints: a diff of any name and any hunks is printed as the document says. Where what comes in is of bulk at most 1048576; the tables of Go's library lie as their texts lay them. -/
import Derived.Test.YtjabpbnlpljlkaaDoorBPrnShowPrints
namespace Go.Proofs.YtjabpbnlpljlkaaDoor.Pure
open Go.RowKit Go.Proofs.YtjabpbnlpljlkaaDoor.PShowPrints Go.Proofs.YtjabpbnlpljlkaaDoorW.PrintWords Go.Proofs.YtjabpbnlpljlkaaDoorW.PrintLast Go.Proofs.YtjabpbnlpljlkaaDoor.X Go.Proofs.YtjabpbnlpljlkaaDoor.H
set_option linter.unusedVariables false
set_option linter.unusedSimpArgs false

theorem num_lit {n : Nat} {b : UInt8} (h : n < 10) (e : UInt8.ofNat (48 + n % 10) = b) : numM n = ⟨#[b]⟩ := by rw [num_small h, e]
theorem prints_awake : redpenlaw20_Awake.f = some true := by
  unfold redpenlaw20_Awake.f
  rw [show show_Head.f 0 2 0 2 ([] : List Ln) = _ from head_eq (a := 0) (b := 2) (c := 0) (d := 2) (by omega) (by omega) (by omega) (by omega) [],
    show show_Head.f 3 0 3 1 ([] : List Ln) = _ from head_eq (a := 3) (b := 0) (c := 3) (d := 1) (by omega) (by omega) (by omega) (by omega) []]
  have n0 : numM 0 = ⟨#[48]⟩ := num_lit (by omega) (by decide)
  have n1 : numM 1 = ⟨#[49]⟩ := num_lit (by omega) (by decide)
  have n2 : numM 2 = ⟨#[50]⟩ := num_lit (by omega) (by decide)
  have n3 : numM 3 = ⟨#[51]⟩ := num_lit (by omega) (by decide)
  have n4 : numM 4 = ⟨#[52]⟩ := num_lit (by omega) (by decide)
  have e1 : headM 0 2 0 2 = ⟨#[64, 64, 32, 45, 49, 44, 50, 32, 43, 49, 44, 50, 32, 64, 64, 10]⟩ := by
    unfold headM sideM
    rw [show fromM 0 2 = 1 from rfl, n1, n2]
    decide +kernel
  have e2 : headM 3 0 3 1 = ⟨#[64, 64, 32, 45, 51, 44, 48, 32, 43, 52, 44, 49, 32, 64, 64, 10]⟩ := by
    unfold headM sideM
    rw [show fromM 3 0 = 3 from rfl, show fromM 3 1 = 4 from rfl, n3, n4, n0, n1]
    decide +kernel
  rw [e1, e2]
  decide +kernel
theorem bt_at (s : ByteArray) (i : Nat) (h : i < s.size) : bt s (i : Int) = (at_ s i : Int) := by
  unfold bt at_
  rw [dif_pos (by rw [Int.toNat_natCast]; exact h)]
  have : s.get! i = s[i]'h := by
    simp [ByteArray.get!, getElem!_pos, h]
    rfl
  rw [this]
  simp
/-- Is a byte in a text, from a place on? -/
def hasN (s : ByteArray) (c : Nat) : Nat → Nat → Bool
  | 0, _ => false
  | d + 1, i => (at_ s i == c) || hasN s c d (i + 1)
theorem has_from (s : ByteArray) (c : Nat) (hs : s.size ≤ 1000) : ∀ (d i : Nat), s.size - i = d → i ≤ s.size → Ev (fun k => redpenref18_has.l0 k s (c : Int) (i : Int)) (hasN s c d i) := by
  intro d
  induction d with
  | zero =>
    intro i hd hi
    refine Ev.step (f := fun _ => some false) (fun k => ?_) (Ev.now _)
    simp only [redpenref18_has.l0]
    rw [if_neg (by omega)]
  | succ d ih =>
    intro i hd hi
    have ew : wrap64 ((i : Int) + 1) = ((i + 1 : Nat) : Int) := by rw [w64' (by omega) (by omega)]; omega
    show Ev _ ((at_ s i == c) || hasN s c d (i + 1))
    by_cases h : at_ s i = c
    · rw [beq_iff_eq.2 h, Bool.true_or]
      refine Ev.step (f := fun _ => some true) (fun k => ?_) (Ev.now _)
      simp only [redpenref18_has.l0]
      rw [if_pos (by omega), if_pos (by omega), bt_at s i (by omega), if_pos (by omega)]
    · rw [beq_eq_false_iff_ne.2 h, Bool.false_or]
      refine Ev.step (fun k => ?_) (ih (i + 1) (by omega) (by omega))
      simp only [redpenref18_has.l0]
      rw [if_pos (by omega), if_pos (by omega), bt_at s i (by omega), ew, if_neg (by omega)]
theorem bad_has (s : ByteArray) : ∀ d i, badN s d i = (hasN s 10 d i || hasN s 13 d i)
  | 0, _ => rfl
  | d + 1, i => by
    show ((at_ s i == 10 || at_ s i == 13) || badN s d (i + 1)) = ((at_ s i == 10 || hasN s 10 d (i + 1)) || (at_ s i == 13 || hasN s 13 d (i + 1)))
    rw [bad_has s d (i + 1)]
    cases (at_ s i == 10) <;> cases (at_ s i == 13) <;> cases hasN s 10 d (i + 1) <;> cases hasN s 13 d (i + 1) <;> rfl
def nameB (s : ByteArray) : Bool := if badN s s.size 0 = true then false else if 0 < s.size then decide (s.size ≤ 64) else false
theorem rname_ev (s : ByteArray) (hs : s.size ≤ 1000) : Ev (fun k => redpenref18_Name.f k s) (nameB s) := by
  obtain ⟨m, hm⟩ := has_from s 10 hs s.size 0 rfl (by omega)
  obtain ⟨m', hm'⟩ := has_from s 13 hs s.size 0 rfl (by omega)
  refine ⟨m + m', fun k hk => ?_⟩
  have h10 : redpenref18_has.f k s 10 = some (hasN s 10 s.size 0) := hm k (by omega)
  have h13 : redpenref18_has.f k s 13 = some (hasN s 13 s.size 0) := hm' k (by omega)
  show redpenref18_Name.f k s = _
  unfold redpenref18_Name.f nameB
  rw [h10, h13, bad_has]
  by_cases h1 : 0 < s.size
  · rw [if_pos (show (s.size : Int) ≥ 1 by omega), if_pos h1]
    by_cases h2 : s.size ≤ 64
    · rw [if_pos (show (s.size : Int) ≤ 64 by omega), decide_eq_true h2]
      cases hasN s 10 s.size 0 <;> cases hasN s 13 s.size 0 <;> rfl
    · rw [if_neg (show ¬ (s.size : Int) ≤ 64 by omega), decide_eq_false h2]
      cases hasN s 10 s.size 0 <;> cases hasN s 13 s.size 0 <;> rfl
  · rw [if_neg (show ¬ (s.size : Int) ≥ 1 by omega), if_neg h1]
    cases hasN s 10 s.size 0 <;> cases hasN s 13 s.size 0 <;> rfl
theorem sz6 : (⟨#[45, 45, 45, 32, 97, 47]⟩ : ByteArray).size = 6 := rfl
theorem sz7 : (⟨#[10, 43, 43, 43, 32, 98, 47]⟩ : ByteArray).size = 7 := rfl
theorem two_prints (s : ByteArray) (hs : s.size ≤ 100) (l : List Hk) (hn : l.length ≤ 5) (hg : ∀ h ∈ l, Good h) : ∃ r, Ev (fun k => show_Print.f k s l) r ∧ Ev (fun k => redpenref18_Print.f k s l) r := by
  have hname : show_Name.f s = some (nameB s) := rfl
  cases hb : nameB s with
  | false =>
    refine ⟨(⟨#[]⟩, 10), ?_, ?_⟩
    · refine Ev.congr (fun k => ?_) (Ev.now _)
      unfold show_Print.f
      rw [hname, hb]
      simp only [Option.bind_some, Bool.false_eq_true, if_false]
    · unfold redpenref18_Print.f
      refine Ev.bind (rname_ev s (by omega)) ?_
      rw [hb]
      simp only [Bool.false_eq_true, if_false]
      exact Ev.now _
  | true =>
    by_cases hl : (l.length : Int) = 0
    · refine ⟨(⟨#[]⟩, 0), ?_, ?_⟩
      · refine Ev.congr (fun k => ?_) (Ev.now _)
        unfold show_Print.f
        rw [hname, hb]
        simp only [Option.bind_some, if_true, if_pos hl]
      · unfold redpenref18_Print.f
        refine Ev.bind (rname_ev s (by omega)) ?_
        rw [hb]
        simp only [if_true, if_pos hl]
        exact Ev.now _
    · have ez : (⟨#[]⟩ : ByteArray) ++ (((((⟨#[45, 45, 45, 32, 97, 47]⟩ : ByteArray) ++ s) ++ (⟨#[10, 43, 43, 43, 32, 98, 47]⟩ : ByteArray)) ++ s) ++ (⟨#[10]⟩ : ByteArray)) = ((((⟨#[45, 45, 45, 32, 97, 47]⟩ : ByteArray) ++ s) ++ (⟨#[10, 43, 43, 43, 32, 98, 47]⟩ : ByteArray)) ++ s) ++ (⟨#[10]⟩ : ByteArray) := ByteArray.empty_append
      have hz : (((((⟨#[45, 45, 45, 32, 97, 47]⟩ : ByteArray) ++ s) ++ (⟨#[10, 43, 43, 43, 32, 98, 47]⟩ : ByteArray)) ++ s) ++ (⟨#[10]⟩ : ByteArray)).size ≤ 1000 := by
        simp only [ByteArray.size_append, one_size, sz6, sz7]; omega
      refine ⟨printM (((((⟨#[45, 45, 45, 32, 97, 47]⟩ : ByteArray) ++ s) ++ (⟨#[10, 43, 43, 43, 32, 98, 47]⟩ : ByteArray)) ++ s) ++ (⟨#[10]⟩ : ByteArray)) l, ?_, ?_⟩
      · refine Ev.congr (fun k => ?_) (p_l0 l hn hg _ 0 _ rfl (by omega) (by omega))
        unfold show_Print.f
        rw [hname, hb, ez]
        simp only [Option.bind_some, if_true, if_neg hl]
        simp only [ByteArray.size_append, one_size, sz6, sz7]
        rw [if_pos (by omega), if_pos (by omega), if_pos (by omega), if_pos (by omega), if_pos (by omega)]
        rfl
      · unfold redpenref18_Print.f
        refine Ev.bind (rname_ev s (by omega)) ?_
        rw [hb]
        simp only [if_true, if_neg hl]
        simp only [ByteArray.size_append, one_size, sz6, sz7]
        refine Ev.congr (fun k => ?_) (r_l0 l hn hg _ 0 _ rfl (by omega) (by omega))
        rw [if_pos (by omega), if_pos (by omega), if_pos (by omega), if_pos (by omega)]
        rfl
def In (h : Hk) : Prop := ∀ x ∈ h.f4, 0 ≤ x.f0 ∧ x.f1.size ≤ 1048576
theorem prints_l0 (s : ByteArray) (hs : s.size ≤ 100) (l : List Hk) (hl : l.length ≤ 1000000000000000) (r : Bool) (hI : ∀ h ∈ l, In h) : ∀ (e i : Nat) (acc : List Hk), l.length - i = e → i ≤ l.length → acc.length ≤ i → acc.length ≤ 5 → (∀ h ∈ acc, Good h) →
    Ev (fun k => redpenlaw20_ShowPrints.l0 k s r acc l (l.length : Int) (i : Int)) true := by
  intro e
  induction e with
  | zero =>
    intro i acc hd hi ha1 ha2 hg
    obtain ⟨p, h1, h2⟩ := two_prints s hs acc ha2 hg
    refine Ev.step (f := fun k => (show_Print.f k s acc).bind fun a => (redpenref18_Print.f k s acc).bind fun b => (if a.2 = b.2 then (some (a.1.toList == b.1.toList)) else (some false))) (fun k => ?_) (Ev.bind h1 (Ev.bind h2 ?_))
    · simp only [redpenlaw20_ShowPrints.l0]
      rw [if_neg (by omega)]
    · rw [if_pos rfl, beq_self_eq_true]
      exact Ev.now _
  | succ e ih =>
    intro i acc hd hi ha1 ha2 hg
    have hlt : i < l.length := by omega
    have ew : wrap64 ((i : Int) + 1) = ((i + 1 : Nat) : Int) := by rw [w64' (by omega) (by omega)]; omega
    have hx := rdH_get l i hlt
    have hIi := hI _ (List.getElem_mem hlt)
    have hskip := ih (i + 1) acc (by omega) (by omega) (by omega) ha2 hg
    by_cases h5 : i < 5
    · by_cases h100 : (l[i].f4.length : Int) < 100
      · obtain ⟨⟨a, b, c, d, L⟩, e1, e2, e3, _⟩ := tidied_ev l[i].f0 l[i].f1 l[i].f2 l[i].f3 l[i].f4 (by omega) hIi r
        dsimp only at e2 e3
        have hnext := ih (i + 1) (acc ++ [(⟨a, b, c, d, L⟩ : Hk)]) (by omega) (by omega) (by simp; omega) (by simp; omega) (fun h hh => by
          rcases List.mem_append.1 hh with hh | hh
          · exact hg h hh
          · rw [List.mem_singleton.1 hh]
            exact ⟨by show L.length ≤ 12; omega, fun x hx => (e3 x hx).2⟩)
        refine Ev.step (f := fun k => (redpenlaw20_Tidied.f k l[i].f0 l[i].f1 l[i].f2 l[i].f3 l[i].f4 r).bind fun t => (if acc.length < 2513169434916 then (redpenlaw20_ShowPrints.l0 k s r (acc ++ [(⟨t.1, t.2.1, t.2.2.1, t.2.2.2.1, t.2.2.2.2⟩ : Hk)]) l (l.length : Int) ((i + 1 : Nat) : Int)) else (none))) (fun k => ?_) (Ev.bind e1 ?_)
        · simp only [redpenlaw20_ShowPrints.l0, hx, ew]
          rw [if_pos (by omega), if_pos (by omega), if_pos (by omega), if_pos (by omega), if_pos h100]
        · simp only [if_pos (show acc.length < 2513169434916 by omega)]
          exact hnext
      · refine Ev.step (fun k => ?_) hskip
        simp only [redpenlaw20_ShowPrints.l0, hx, ew]
        rw [if_pos (by omega), if_pos (by omega), if_pos (by omega), if_pos (by omega), if_neg h100]
    · refine Ev.step (fun k => ?_) hskip
      simp only [redpenlaw20_ShowPrints.l0, hx, ew]
      rw [if_pos (by omega), if_pos (by omega), if_pos (by omega), if_neg (by omega)]
theorem ShowPrints (a0 : ByteArray) (l1 : List Hk) (a2 : Bool) (h0 : a0.size ≤ 140737488351232) (h1 : l1.length * 56 ≤ 140737488351232)
    (h2 : ∀ x ∈ l1, (fun x : Hk => (fun n => (Lit.int .i64 n).wf = true) x.f0 ∧ (fun n => (Lit.int .i64 n).wf = true) x.f1 ∧ (fun n => (Lit.int .i64 n).wf = true) x.f2 ∧ (fun n => (Lit.int .i64 n).wf = true) x.f3 ∧ (fun l : List Ln => l.length ≤ maxLen ∧ ∀ x ∈ l, (fun x : Ln => (fun n => (Lit.int .u8 n).wf = true) x.f0 ∧ (fun s : ByteArray => s.size ≤ 1048576) x.f1 ∧ (fun _ => True) x.f2) x) x.f4) x) : ∃ k, redpenlaw20_ShowPrints.f k a0 l1 a2 = some true := by
  have hI : ∀ h ∈ l1, In h := by
    intro h hh x hx
    obtain ⟨g1, g2, _⟩ := (h2 h hh).2.2.2.2.2 x hx
    refine ⟨?_, g2⟩
    have : (Lit.int .u8 x.f0).wf = true := g1
    simp [Lit.wf, IntKind.min, IntKind.max, IntKind.signed, IntKind.bits] at this
    omega
  clear h2
  refine Ev.rounds ?_
  unfold redpenlaw20_ShowPrints.f
  refine Ev.bind ⟨0, fun _ _ => prints_awake⟩ ?_
  simp only [if_true]
  by_cases hs : (a0.size : Int) > 100
  · simp only [if_pos hs]
    exact Ev.now _
  simp only [if_neg hs]
  exact prints_l0 a0 (by omega) l1 (by omega) a2 hI _ 0 [] rfl (by omega) (by simp) (by simp) (fun h hh => by cases hh)
end Go.Proofs.YtjabpbnlpljlkaaDoor.Pure
