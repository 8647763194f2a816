/- The printed Print and the document's are the same, of a name of at most 300 bytes and at most five hunks of at most twelve lines. -/
import Derived.Test.YtjabpbnlpljlkaaDoorBTidShowPrints
namespace Go.Proofs.YtjabpbnlpljlkaaDoor.Pure
open Go.RowKit Go.Proofs.YtjabpbnlpljlkaaDoor.PShowPrints Go.Proofs.YtjabpbnlpljlkaaDoorW.PrintWords Go.Proofs.YtjabpbnlpljlkaaDoorW.PrintLast Go.Proofs.YtjabpbnlpljlkaaDoor.X
set_option linter.unusedVariables false
set_option linter.unusedSimpArgs false

/-! ### Numbers -/
def numM (n : Nat) : ByteArray := ⟨(Lib.decDigits n).toArray⟩
theorem num_small {n : Nat} (h : n < 10) : numM n = ⟨#[UInt8.ofNat (48 + n % 10)]⟩ := by
  unfold numM
  rw [Lib.decDigits, dif_pos h, Nat.mod_eq_of_lt h]
theorem num_big {n : Nat} (h : ¬ n < 10) : numM n = numM (n / 10) ++ ⟨#[UInt8.ofNat (48 + n % 10)]⟩ := by
  unfold numM
  rw [Lib.decDigits, dif_neg h]
  apply ByteArray.ext
  simp
theorem one_size (b : UInt8) : (⟨#[b]⟩ : ByteArray).size = 1 := rfl
theorem num_lt : ∀ (d n : Nat), n < 10 ^ d → 1 ≤ d → (numM n).size ≤ d
  | 0, n, h, h1 => by omega
  | d + 1, n, h, h1 => by
    by_cases h10 : n < 10
    · rw [num_small h10, one_size]; omega
    · rw [num_big h10, ByteArray.size_append, one_size]
      have hd : 1 ≤ d := by
        rcases Nat.eq_zero_or_pos d with rfl | hd
        · simp at h; omega
        · exact hd
      have := num_lt d (n / 10) (by rw [Nat.pow_succ] at h; omega) hd
      omega
theorem num_size {n : Nat} (h : n ≤ 70000) : (numM n).size ≤ 5 := num_lt 5 n (by omega) (by omega)
theorem itoa_eq {n : Nat} (h : n ≤ 70000) : strconv_Itoa.f (n : Int) = some (numM n) := by
  show Go.Proofs.YtjabpbnlpljlkaaDoor.H.itoaG (n : Int) = _
  unfold Go.Proofs.YtjabpbnlpljlkaaDoor.H.itoaG
  rw [if_pos (by omega), if_pos (by omega), Lib.itoa_nonneg]
  rfl
theorem dig (n : Nat) : strOfNums [(wrap64 (48 + Int.tmod (n : Int) 10)) % 256] = ⟨#[UInt8.ofNat (48 + n % 10)]⟩ := by
  have e : Int.tmod (n : Int) 10 = ((n % 10 : Nat) : Int) := rfl
  rw [e, w64' (by omega) (by omega)]
  have e2 : ((48 + ((n % 10 : Nat) : Int)) % 256).toNat = 48 + n % 10 := by omega
  unfold strOfNums
  simp only [List.map_cons, List.map_nil]
  rw [e2]
theorem ritoa_ev (n : Nat) (h : n ≤ 70000) : Ev (fun k => redpenref18_Itoa.f k (n : Int)) (numM n) := by
  induction n using Nat.strongRecOn with
  | _ n ih =>
    by_cases h10 : n < 10
    · refine Ev.step (f := fun _ => some (numM n)) (fun k => ?_) (Ev.now _)
      simp only [redpenref18_Itoa.f, Option.bind_some]
      rw [if_neg (by omega), if_neg (by omega), dig, num_small h10]
    · have hd := ih (n / 10) (by omega) (by omega)
      have ew : wrap64 (Int.tdiv (n : Int) 10) = ((n / 10 : Nat) : Int) := by
        have e : Int.tdiv (n : Int) 10 = ((n / 10 : Nat) : Int) := rfl
        rw [e, w64' (by omega) (by omega)]
      refine Ev.step (f := fun k => (redpenref18_Itoa.f k ((n / 10 : Nat) : Int)).bind fun t => if t.size + (⟨#[UInt8.ofNat (48 + n % 10)]⟩ : ByteArray).size ≤ 9223372036854775807 then some (t ++ ⟨#[UInt8.ofNat (48 + n % 10)]⟩) else none) (fun k => ?_) (Ev.bind hd ?_)
      · simp only [redpenref18_Itoa.f, Option.bind_some]
        rw [if_neg (by omega), if_pos (by omega), ew, dig]
      · have := num_size (n := n / 10) (by omega)
        rw [if_pos (by rw [one_size]; omega), ← num_big h10]
        exact Ev.now _
/-! ### Heads -/
def fromM (a b : Nat) : Nat := if b > 0 then a + 1 else a
def sideM (sg : ByteArray) (a b : Nat) : ByteArray := ((sg ++ numM (fromM a b)) ++ (⟨#[44]⟩ : ByteArray)) ++ numM b
def rsideM (a b : Nat) : ByteArray := (numM (fromM a b) ++ (⟨#[44]⟩ : ByteArray)) ++ numM b
theorem from_le {a b : Nat} (ha : a ≤ 65536) : fromM a b ≤ 70000 := by unfold fromM; split <;> omega
theorem side_eq (sg : ByteArray) {a b : Nat} (hsg : sg.size ≤ 10) (ha : a ≤ 65536) (hb : b ≤ 1000) : show_side.f sg (a : Int) (b : Int) = some (sideM sg a b) := by
  have s1 := num_size (from_le (b := b) ha)
  have s2 := num_size (n := b) (by omega)
  have eb := itoa_eq (n := b) (by omega)
  unfold show_side.f sideM
  by_cases h : b > 0
  · have ef : fromM a b = a + 1 := by unfold fromM; rw [if_pos h]
    rw [ef] at s1 ⊢
    have ew : wrap64 ((a : Int) + 1) = ((a + 1 : Nat) : Int) := by rw [w64' (by omega) (by omega)]; omega
    rw [if_pos (by omega), ew, itoa_eq (by omega), eb]
    simp only [Option.bind_some, ByteArray.size_append, one_size]
    rw [if_pos (by omega), if_pos (by omega), if_pos (by omega)]
  · have ef : fromM a b = a := by unfold fromM; rw [if_neg h]
    rw [ef] at s1 ⊢
    rw [if_neg (by omega), itoa_eq (by omega), eb]
    simp only [Option.bind_some, ByteArray.size_append, one_size]
    rw [if_pos (by omega), if_pos (by omega), if_pos (by omega)]
theorem rside_ev {a b : Nat} (ha : a ≤ 65536) (hb : b ≤ 1000) : Ev (fun k => redpenref18_side.f k (a : Int) (b : Int)) (rsideM a b) := by
  have s1 := num_size (from_le (b := b) ha)
  have s2 := num_size (n := b) (by omega)
  have eb := ritoa_ev b (by omega)
  have ef := ritoa_ev (fromM a b) (from_le ha)
  have fin : Ev (fun k => (redpenref18_Itoa.f k ((fromM a b : Nat) : Int)).bind fun t => (if t.size + 1 ≤ 9223372036854775807 then ((redpenref18_Itoa.f k (b : Int)).bind fun u => (if (t ++ (⟨#[44]⟩ : ByteArray)).size + u.size ≤ 9223372036854775807 then (some ((t ++ (⟨#[44]⟩ : ByteArray)) ++ u)) else (none))) else (none))) (rsideM a b) := by
    refine Ev.bind ef ?_
    simp only [if_pos (show (numM (fromM a b)).size + 1 ≤ 9223372036854775807 by omega)]
    refine Ev.bind eb ?_
    rw [if_pos (by rw [ByteArray.size_append, one_size]; omega)]
    exact Ev.now _
  by_cases h : b > 0
  · have e : fromM a b = a + 1 := by unfold fromM; rw [if_pos h]
    have ew : wrap64 ((a : Int) + 1) = ((a + 1 : Nat) : Int) := by rw [w64' (by omega) (by omega)]; omega
    rw [e] at fin
    refine Ev.congr (fun k => ?_) fin
    unfold redpenref18_side.f
    rw [if_pos (by omega), ew]
  · have e : fromM a b = a := by unfold fromM; rw [if_neg h]
    rw [e] at fin
    refine Ev.congr (fun k => ?_) fin
    unfold redpenref18_side.f
    rw [if_neg (by omega)]
def headM (a b c d : Nat) : ByteArray := ((((⟨#[64, 64, 32]⟩ : ByteArray) ++ sideM ⟨#[45]⟩ a b) ++ (⟨#[32]⟩ : ByteArray)) ++ sideM ⟨#[43]⟩ c d) ++ (⟨#[32, 64, 64, 10]⟩ : ByteArray)
theorem side_size (sg : ByteArray) {a b : Nat} (ha : a ≤ 65536) (hb : b ≤ 1000) : (sideM sg a b).size ≤ sg.size + 11 := by
  have s1 := num_size (from_le (b := b) ha)
  have s2 := num_size (n := b) (by omega)
  unfold sideM
  simp only [ByteArray.size_append, one_size]
  omega
theorem sz3 : (⟨#[64, 64, 32]⟩ : ByteArray).size = 3 := rfl
theorem sz4 : (⟨#[32, 64, 64, 10]⟩ : ByteArray).size = 4 := rfl
theorem sz4' : (⟨#[64, 64, 32, 45]⟩ : ByteArray).size = 4 := rfl
theorem sz2 : (⟨#[32, 43]⟩ : ByteArray).size = 2 := rfl
theorem head_size {a b c d : Nat} (ha : a ≤ 65536) (hb : b ≤ 1000) (hc : c ≤ 65536) (hd : d ≤ 1000) : (headM a b c d).size ≤ 100 := by
  have s1 := side_size ⟨#[45]⟩ ha hb
  have s2 := side_size ⟨#[43]⟩ hc hd
  simp only [one_size] at s1 s2
  unfold headM
  simp only [ByteArray.size_append, one_size, sz3, sz4]
  omega
theorem head_eq {a b c d : Nat} (ha : a ≤ 65536) (hb : b ≤ 1000) (hc : c ≤ 65536) (hd : d ≤ 1000) (l : List Ln) : show_Head.f (a : Int) (b : Int) (c : Int) (d : Int) l = some (headM a b c d) := by
  have s1 := side_size ⟨#[45]⟩ ha hb
  have s2 := side_size ⟨#[43]⟩ hc hd
  simp only [one_size] at s1 s2
  unfold show_Head.f headM
  rw [side_eq _ (by rw [one_size]; omega) ha hb, side_eq _ (by rw [one_size]; omega) hc hd]
  simp only [Option.bind_some, ByteArray.size_append, one_size, sz3]
  rw [if_pos (by omega), if_pos (by omega), if_pos (by omega), if_pos (by omega)]
theorem rhead_ev {a b c d : Nat} (ha : a ≤ 65536) (hb : b ≤ 1000) (hc : c ≤ 65536) (hd : d ≤ 1000) (l : List Ln) : Ev (fun k => redpenref18_Head.f k (a : Int) (b : Int) (c : Int) (d : Int) l) (headM a b c d) := by
  have z : ∀ a b : Nat, a ≤ 65536 → b ≤ 1000 → (rsideM a b).size ≤ 11 := by
    intro a b ha hb
    have s1 := num_size (from_le (b := b) ha)
    have s2 := num_size (n := b) (by omega)
    unfold rsideM
    simp only [ByteArray.size_append, one_size]
    omega
  have s1 := z a b ha hb
  have s2 := z c d hc hd
  have e : headM a b c d = ((((⟨#[64, 64, 32, 45]⟩ : ByteArray) ++ rsideM a b) ++ (⟨#[32, 43]⟩ : ByteArray)) ++ rsideM c d) ++ (⟨#[32, 64, 64, 10]⟩ : ByteArray) := by
    unfold headM sideM rsideM
    generalize numM (fromM a b) = p
    generalize numM b = q
    generalize numM (fromM c d) = r
    generalize numM d = s
    apply ByteArray.ext
    apply Array.toList_inj.1
    simp [List.append_assoc]
  rw [e]
  unfold redpenref18_Head.f
  refine Ev.bind (rside_ev ha hb) ?_
  simp only [if_pos (show 4 + (rsideM a b).size ≤ 9223372036854775807 by omega), if_pos (show ((⟨#[64, 64, 32, 45]⟩ : ByteArray) ++ rsideM a b).size + 2 ≤ 9223372036854775807 by simp only [ByteArray.size_append, sz4']; omega)]
  refine Ev.bind (rside_ev hc hd) ?_
  rw [if_pos (by simp only [ByteArray.size_append, sz4', sz2]; omega), if_pos (by simp only [ByteArray.size_append, sz4', sz2]; omega)]
  exact Ev.now _
/-! ### What Check leaves -/
theorem check0 {a b c d : Int} {l : List Ln} (hl : l.length ≤ 1000) (h : checkM a b c d l = 0) : ∃ a' b' c' d' : Nat, a = a' ∧ b = b' ∧ c = c' ∧ d = d' ∧ a' ≤ 65536 ∧ b' ≤ 1000 ∧ c' ≤ 65536 ∧ d' ≤ 1000 := by
  unfold checkM at h
  cases hs : scanM l 0 0 with
  | inl e =>
    exfalso
    rw [hs] at h
    simp only at h
    subst h
    have : ∀ (l : List Ln) (o n : Int), scanM l o n ≠ .inl 0 := by
      intro l
      induction l with
      | nil => intro o n h; unfold scanM at h; cases h
      | cons x t ih =>
        intro o n h
        unfold scanM at h
        split at h
        · injection h with h; omega
        split at h
        · exact ih _ _ h
        split at h
        · exact ih _ _ h
        split at h
        · exact ih _ _ h
        · injection h with h; omega
    exact this _ _ _ hs
  | inr p =>
    obtain ⟨o, n⟩ := p
    have hr := scanM_range l 0 0 hs
    rw [hs] at h
    simp only at h
    split at h
    · omega
    split at h
    · omega
    · exact ⟨a.toNat, b.toNat, c.toNat, d.toNat, by omega, by omega, by omega, by omega, by omega, by omega, by omega, by omega⟩
/-! ### Lines -/
def bareT : ByteArray := ⟨#[92, 32, 78, 111, 32, 110, 101, 119, 108, 105, 110, 101, 32, 97, 116, 32, 101, 110, 100, 32, 111, 102, 32, 102, 105, 108, 101, 10]⟩
theorem bare_size : bareT.size = 28 := rfl
def lineM (o : ByteArray) (x : Ln) : ByteArray := if x.f2 = true then (o ++ ((strOfNums [x.f0] ++ x.f1) ++ (⟨#[10]⟩ : ByteArray))) ++ bareT else o ++ ((strOfNums [x.f0] ++ x.f1) ++ (⟨#[10]⟩ : ByteArray))
def linesM (o : ByteArray) (l : List Ln) : ByteArray := l.foldl lineM o
theorem son_size (v : Int) : (strOfNums [v]).size = 1 := rfl
theorem line_size (o : ByteArray) (x : Ln) : (lineM o x).size ≤ o.size + x.f1.size + 30 := by
  unfold lineM
  split <;> simp only [ByteArray.size_append, one_size, son_size, bare_size] <;> omega
theorem lines_size : ∀ (l : List Ln) (o : ByteArray), (∀ x ∈ l, x.f1.size ≤ 1048576) → (linesM o l).size ≤ o.size + l.length * 1048606
  | [], o, _ => by simp [linesM]
  | x :: t, o, h => by
    have h1 := line_size o x
    have h2 := h x (by simp)
    have h3 := lines_size t (lineM o x) (fun y hy => h y (by simp [hy]))
    show (linesM (lineM o x) t).size ≤ _
    simp only [List.length_cons]
    omega
abbrev Hk := S26
theorem rdH_get (l : List Hk) (i : Nat) (h : i < l.length) : rd_T26 l (i : Int) = l[i] := by
  unfold rd_T26
  rw [Int.toNat_natCast, List.getD_eq_getElem?_getD, List.getElem?_eq_getElem h]
  rfl
def Good (h : Hk) : Prop := h.f4.length ≤ 12 ∧ ∀ x ∈ h.f4, x.f1.size ≤ 1048576
def printM : ByteArray → List Hk → ByteArray × Int
  | o, [] => (o, 0)
  | o, h :: t => if checkM h.f0 h.f1 h.f2 h.f3 h.f4 = 0 then printM (linesM (o ++ headM h.f0.toNat h.f1.toNat h.f2.toNat h.f3.toNat) h.f4) t else (⟨#[]⟩, checkM h.f0 h.f1 h.f2 h.f3 h.f4)
section
variable (hs : List Hk) (hn : hs.length ≤ 5) (hg : ∀ h ∈ hs, Good h)
include hn hg
theorem p_l1 {i : Nat} (hi : i < hs.length) {R : ByteArray × Int} : ∀ (e j : Nat) (o : ByteArray), hs[i].f4.length - j = e → j ≤ hs[i].f4.length → o.size + e * 1048606 ≤ 1000000000 →
    Ev (fun k => show_Print.l0 k (linesM o (hs[i].f4.drop j)) hs (hs.length : Int) ((i + 1 : Nat) : Int)) R → Ev (fun k => show_Print.l1 k o hs (hs.length : Int) (i : Int) hs[i].f4 (hs[i].f4.length : Int) (j : Int)) R := by
  have hG := hg _ (List.getElem_mem hi)
  have hG1 := hG.1
  intro e
  induction e with
  | zero =>
    intro j o hd hj hz h
    rw [List.drop_of_length_le (by omega)] at h
    have ew : wrap64 ((i : Int) + 1) = ((i + 1 : Nat) : Int) := by rw [w64' (by omega) (by omega)]; omega
    refine Ev.step (fun k => ?_) h
    simp only [show_Print.l1]
    rw [if_neg (by omega), ew]
    rfl
  | succ e ih =>
    intro j o hd hj hz h
    have hlt : j < hs[i].f4.length := by omega
    have ew : wrap64 ((j : Int) + 1) = ((j + 1 : Nat) : Int) := by rw [w64' (by omega) (by omega)]; omega
    have hx := rd_get hs[i].f4 j hlt
    have hxs := hG.2 _ (List.getElem_mem hlt)
    rw [List.drop_eq_getElem_cons hlt] at h
    have hls := line_size o hs[i].f4[j]
    have hnext := ih (j + 1) (lineM o hs[i].f4[j]) (by omega) (by omega) (by omega) h
    clear h ih
    refine Ev.step (fun k => ?_) hnext
    simp only [show_Print.l1, Option.bind_some, hx, ew]
    clear hnext hls hx
    generalize hs[i].f4[j] = x at *
    rw [if_pos (by omega), if_pos (by omega), if_pos (by omega), if_pos (by rw [son_size]; omega), if_pos (by simp only [ByteArray.size_append, son_size]; omega), if_pos (by simp only [ByteArray.size_append, son_size, one_size]; omega)]
    unfold lineM
    by_cases hb : x.f2 = true
    · rw [if_pos hb, if_pos hb, if_pos (by simp only [ByteArray.size_append, son_size, one_size]; omega)]
      rfl
    · rw [if_neg hb, if_neg hb]
theorem p_l0 : ∀ (e i : Nat) (o : ByteArray), hs.length - i = e → i ≤ hs.length → o.size + e * 20000000 ≤ 500000000 → Ev (fun k => show_Print.l0 k o hs (hs.length : Int) (i : Int)) (printM o (hs.drop i)) := by
  intro e
  induction e with
  | zero =>
    intro i o hd hi hz
    rw [List.drop_of_length_le (by omega)]
    refine Ev.step (f := fun _ => some (o, 0)) (fun k => ?_) (Ev.now _)
    simp only [show_Print.l0]
    rw [if_neg (by omega)]
  | succ e ih =>
    intro i o hd hi hz
    have hlt : i < hs.length := by omega
    have hG := hg _ (List.getElem_mem hlt)
    have hG1 := hG.1
    rw [List.drop_eq_getElem_cons hlt]
    unfold printM
    have hx := rdH_get hs i hlt
    refine Ev.step (f := fun k => (show_Check.f k hs[i].f0 hs[i].f1 hs[i].f2 hs[i].f3 hs[i].f4).bind fun t => (if t = 0 then ((show_Head.f hs[i].f0 hs[i].f1 hs[i].f2 hs[i].f3 hs[i].f4).bind fun u => (if o.size + u.size ≤ 140737488355328 then (show_Print.l1 k (o ++ u) hs (hs.length : Int) (i : Int) hs[i].f4 (hs[i].f4.length : Int) ((0 : Nat) : Int)) else (none))) else (some ((⟨#[]⟩ : ByteArray), t)))) (fun k => ?_) (Ev.bind (check_ev hs[i].f0 hs[i].f1 hs[i].f2 hs[i].f3 hs[i].f4 (by omega)) ?_)
    · simp only [show_Print.l0, hx]
      rw [if_pos (by omega), if_pos (by omega), if_pos (by omega)]
      rfl
    · by_cases h0 : checkM hs[i].f0 hs[i].f1 hs[i].f2 hs[i].f3 hs[i].f4 = 0
      · obtain ⟨a, b, c, d, ea, eb, ec, ed, ha, hb, hc, hd'⟩ := check0 (by omega) h0
        have hh : show_Head.f hs[i].f0 hs[i].f1 hs[i].f2 hs[i].f3 hs[i].f4 = some (headM hs[i].f0.toNat hs[i].f1.toNat hs[i].f2.toNat hs[i].f3.toNat) := by
          rw [ea, eb, ec, ed]
          exact head_eq ha hb hc hd' _
        have hz2 : (headM hs[i].f0.toNat hs[i].f1.toNat hs[i].f2.toNat hs[i].f3.toNat).size ≤ 100 := by
          rw [ea, eb, ec, ed]
          exact head_size ha hb hc hd'
        have hz3 : (o ++ headM hs[i].f0.toNat hs[i].f1.toNat hs[i].f2.toNat hs[i].f3.toNat).size ≤ o.size + 100 := by rw [ByteArray.size_append]; omega
        simp only [if_pos h0, hh, Option.bind_some]
        clear hh ea eb ec ed
        generalize headM hs[i].f0.toNat hs[i].f1.toNat hs[i].f2.toNat hs[i].f3.toNat = u at *
        simp only [if_pos (show o.size + u.size ≤ 140737488355328 by omega)]
        have hl := lines_size hs[i].f4 (o ++ u) hG.2
        refine p_l1 hs hn hg hlt _ 0 (o ++ u) rfl (by omega) (by omega) ?_
        rw [List.drop_zero]
        exact ih (i + 1) _ (by omega) (by omega) (by omega)
      · simp only [if_neg h0]
        exact Ev.now _
theorem r_l1 {i : Nat} (hi : i < hs.length) {R : ByteArray × Int} : ∀ (e j : Nat) (o : ByteArray), hs[i].f4.length - j = e → j ≤ hs[i].f4.length → o.size + e * 1048606 ≤ 1000000000 →
    Ev (fun k => redpenref18_Print.l0 k hs (linesM o (hs[i].f4.drop j)) ((i + 1 : Nat) : Int)) R → Ev (fun k => redpenref18_Print.l1 k hs o (i : Int) (j : Int)) R := by
  have hG := hg _ (List.getElem_mem hi)
  have hG1 := hG.1
  have hxi := rdH_get hs i hi
  intro e
  induction e with
  | zero =>
    intro j o hd hj hz h
    rw [List.drop_of_length_le (by omega)] at h
    have ew : wrap64 ((i : Int) + 1) = ((i + 1 : Nat) : Int) := by rw [w64' (by omega) (by omega)]; omega
    refine Ev.step (fun k => ?_) h
    simp only [redpenref18_Print.l1, hxi]
    rw [if_pos (by omega), if_pos (by omega), if_neg (by omega), ew]
    rfl
  | succ e ih =>
    intro j o hd hj hz h
    have hlt : j < hs[i].f4.length := by omega
    have ew : wrap64 ((j : Int) + 1) = ((j + 1 : Nat) : Int) := by rw [w64' (by omega) (by omega)]; omega
    have hx := rd_get hs[i].f4 j hlt
    have hxs := hG.2 _ (List.getElem_mem hlt)
    rw [List.drop_eq_getElem_cons hlt] at h
    have hls := line_size o hs[i].f4[j]
    have hnext := ih (j + 1) (lineM o hs[i].f4[j]) (by omega) (by omega) (by omega) h
    clear h ih
    refine Ev.step (fun k => ?_) hnext
    simp only [redpenref18_Print.l1, Option.bind_some, hxi, hx, ew]
    clear hnext hls hx
    generalize hs[i].f4[j] = x at *
    rw [if_pos (by omega), if_pos (by omega), if_pos (by omega), if_pos (by omega), if_pos (by rw [son_size]; omega), if_pos (by simp only [ByteArray.size_append, son_size]; omega), if_pos (by simp only [ByteArray.size_append, son_size, one_size]; omega)]
    have e1 : ((o ++ strOfNums [x.f0]) ++ x.f1) ++ (⟨#[10]⟩ : ByteArray) = o ++ ((strOfNums [x.f0] ++ x.f1) ++ (⟨#[10]⟩ : ByteArray)) := by simp only [ByteArray.append_assoc]
    unfold lineM
    by_cases hb : x.f2 = true
    · rw [if_pos hb, if_pos hb, if_pos (by simp only [ByteArray.size_append, son_size, one_size]; omega), e1]
      rfl
    · rw [if_neg hb, if_neg hb, e1]
theorem r_l0 : ∀ (e i : Nat) (o : ByteArray), hs.length - i = e → i ≤ hs.length → o.size + e * 20000000 ≤ 500000000 → Ev (fun k => redpenref18_Print.l0 k hs o (i : Int)) (printM o (hs.drop i)) := by
  intro e
  induction e with
  | zero =>
    intro i o hd hi hz
    rw [List.drop_of_length_le (by omega)]
    refine Ev.step (f := fun _ => some (o, 0)) (fun k => ?_) (Ev.now _)
    simp only [redpenref18_Print.l0]
    rw [if_neg (by omega)]
  | succ e ih =>
    intro i o hd hi hz
    have hlt : i < hs.length := by omega
    have hG := hg _ (List.getElem_mem hlt)
    have hG1 := hG.1
    rw [List.drop_eq_getElem_cons hlt]
    unfold printM
    have hx := rdH_get hs i hlt
    refine Ev.step (f := fun k => (redpenref18_Check.f k hs[i].f0 hs[i].f1 hs[i].f2 hs[i].f3 hs[i].f4).bind fun t => (if t = 0 then ((redpenref18_Head.f k hs[i].f0 hs[i].f1 hs[i].f2 hs[i].f3 hs[i].f4).bind fun u => (if o.size + u.size ≤ 9223372036854775807 then (redpenref18_Print.l1 k hs (o ++ u) (i : Int) ((0 : Nat) : Int)) else (none))) else (some ((⟨#[]⟩ : ByteArray), t)))) (fun k => ?_) (Ev.bind (rcheck_ev hs[i].f0 hs[i].f1 hs[i].f2 hs[i].f3 hs[i].f4 (by omega) (fun x hx => Nat.le_trans (hG.2 x hx) (by omega))) ?_)
    · simp only [redpenref18_Print.l0, hx]
      rw [if_pos (by omega), if_pos (by omega)]
      rfl
    · by_cases h0 : checkM hs[i].f0 hs[i].f1 hs[i].f2 hs[i].f3 hs[i].f4 = 0
      · obtain ⟨a, b, c, d, ea, eb, ec, ed, ha, hb, hc, hd'⟩ := check0 (by omega) h0
        have hh : Ev (fun k => redpenref18_Head.f k hs[i].f0 hs[i].f1 hs[i].f2 hs[i].f3 hs[i].f4) (headM hs[i].f0.toNat hs[i].f1.toNat hs[i].f2.toNat hs[i].f3.toNat) := by
          rw [ea, eb, ec, ed]
          exact rhead_ev ha hb hc hd' _
        have hz2 : (headM hs[i].f0.toNat hs[i].f1.toNat hs[i].f2.toNat hs[i].f3.toNat).size ≤ 100 := by
          rw [ea, eb, ec, ed]
          exact head_size ha hb hc hd'
        have hz3 : (o ++ headM hs[i].f0.toNat hs[i].f1.toNat hs[i].f2.toNat hs[i].f3.toNat).size ≤ o.size + 100 := by rw [ByteArray.size_append]; omega
        simp only [if_pos h0]
        refine Ev.bind hh ?_
        clear hh ea eb ec ed
        generalize headM hs[i].f0.toNat hs[i].f1.toNat hs[i].f2.toNat hs[i].f3.toNat = u at *
        simp only [if_pos (show o.size + u.size ≤ 9223372036854775807 by omega)]
        have hl := lines_size hs[i].f4 (o ++ u) hG.2
        refine r_l1 hs hn hg hlt _ 0 (o ++ u) rfl (by omega) (by omega) ?_
        rw [List.drop_zero]
        exact ih (i + 1) _ (by omega) (by omega) (by omega)
      · simp only [if_neg h0]
        exact Ev.now _
end
end Go.Proofs.YtjabpbnlpljlkaaDoor.Pure
