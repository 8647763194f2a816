/- ShowMade: hunks of two texts are right, and can be printed: with as many newlines as rows; nothing is printed of none. The tables of Go's library lie as their texts lay them. -/
import Derived.Test.YtjabpbnlpljlkaaDoorBAll
namespace Go.Proofs.YtjabpbnlpljlkaaDoor.Pure
open Go.RowKit Go.Proofs.YtjabpbnlpljlkaaDoor.PShowMade Go.Proofs.YtjabpbnlpljlkaaDoorW.PrintWords Go.Proofs.YtjabpbnlpljlkaaDoorW.PrintLast
open Go.Proofs.YtjabpbnlpljlkaaDoor.M Go.Proofs.YtjabpbnlpljlkaaDoor.X
set_option linter.unusedVariables false
set_option linter.unusedSimpArgs false

theorem num_lit {n : Nat} {b : UInt8} (h : n < 10) (e : UInt8.ofNat (48 + n % 10) = b) : numM n = ⟨#[b]⟩ := by rw [num_small h, e]
theorem prints_awake : redpenlaw20_Awake.f = some true := by
  unfold redpenlaw20_Awake.f
  rw [show show_Head.f 0 2 0 2 ([] : List PLn) = _ from head_eq (a := 0) (b := 2) (c := 0) (d := 2) (by omega) (by omega) (by omega) (by omega) [],
    show show_Head.f 3 0 3 1 ([] : List PLn) = _ from head_eq (a := 3) (b := 0) (c := 3) (d := 1) (by omega) (by omega) (by omega) (by omega) []]
  have n0 : numM 0 = ⟨#[48]⟩ := num_lit (by omega) (by decide)
  have n1 : numM 1 = ⟨#[49]⟩ := num_lit (by omega) (by decide)
  have n2 : numM 2 = ⟨#[50]⟩ := num_lit (by omega) (by decide)
  have n3 : numM 3 = ⟨#[51]⟩ := num_lit (by omega) (by decide)
  have n4 : numM 4 = ⟨#[52]⟩ := num_lit (by omega) (by decide)
  have e1 : headM 0 2 0 2 = ⟨#[64, 64, 32, 45, 49, 44, 50, 32, 43, 49, 44, 50, 32, 64, 64, 10]⟩ := by
    unfold headM sideM
    rw [show fromM 0 2 = 1 from rfl, n1, n2]
    decide +kernel
  have e2 : headM 3 0 3 1 = ⟨#[64, 64, 32, 45, 51, 44, 48, 32, 43, 52, 44, 49, 32, 64, 64, 10]⟩ := by
    unfold headM sideM
    rw [show fromM 3 0 = 3 from rfl, show fromM 3 1 = 4 from rfl, n3, n4, n0, n1]
    decide +kernel
  rw [e1, e2]
  decide +kernel
def headT : ByteArray := ((((⟨#[45, 45, 45, 32, 97, 47]⟩ : ByteArray) ++ (⟨#[102]⟩ : ByteArray)) ++ (⟨#[10, 43, 43, 43, 32, 98, 47]⟩ : ByteArray)) ++ (⟨#[102]⟩ : ByteArray)) ++ (⟨#[10]⟩ : ByteArray)
theorem headT_nls : nls headT = 2 := by decide +kernel
theorem headT_size : headT.size = 16 := by decide +kernel
theorem print_none (k : Nat) : show_Print.f k (⟨#[102]⟩ : ByteArray) [] = some (⟨#[]⟩, 0) := by
  have hname : show_Name.f (⟨#[102]⟩ : ByteArray) = some true := by decide +kernel
  unfold show_Print.f
  rw [hname]
  rfl
theorem print_some (l : List PHk) (hn : l.length ≤ 1000) (hl : l ≠ []) (hg : ∀ h ∈ l, PGood h) : Ev (fun k => show_Print.f k (⟨#[102]⟩ : ByteArray) l) (printM headT l) := by
  have hname : show_Name.f (⟨#[102]⟩ : ByteArray) = some true := by decide +kernel
  have h0 : 0 < l.length := List.length_pos_iff.2 hl
  have hz := headT_size
  have ez : (⟨#[]⟩ : ByteArray) ++ (((((⟨#[45, 45, 45, 32, 97, 47]⟩ : ByteArray) ++ (⟨#[102]⟩ : ByteArray)) ++ (⟨#[10, 43, 43, 43, 32, 98, 47]⟩ : ByteArray)) ++ (⟨#[102]⟩ : ByteArray)) ++ (⟨#[10]⟩ : ByteArray)) = headT := ByteArray.empty_append
  refine Ev.congr (fun k => ?_) (p_l0 l hn hg _ 0 headT rfl (by omega) (by omega))
  unfold show_Print.f
  rw [hname, ez]
  simp only [Option.bind_some, if_true]
  rw [if_neg (by omega), if_pos (by decide +kernel), if_pos (by decide +kernel), if_pos (by decide +kernel), if_pos (by decide +kernel), if_pos (by decide +kernel)]
  rfl
theorem rows_drop : ∀ (hs : List Hk) (i : Nat) (h : i < hs.length), rowsH (hs.drop i) = 1 + hs[i].ls.length + rowsH (hs.drop (i + 1)) := by
  intro hs i h
  rw [List.drop_eq_getElem_cons h]
  rfl
theorem rows_le : ∀ (hs : List Hk), (∀ h ∈ hs.map toH, PGood h) → rowsH hs ≤ hs.length * 1001
  | [], _ => Nat.le_refl _
  | h :: t, hg => by
    have ih := rows_le t (fun x hx => hg x (by simp [List.mem_map.1 hx]))
    have h1 : (h.ls.map toL).length ≤ 1000 := (hg (toH h) (by simp)).1
    rw [List.length_map] at h1
    show 1 + h.ls.length + rowsH t ≤ (t.length + 1) * 1001
    omega
theorem rdH_map (hs : List Hk) (i : Nat) (h : i < hs.length) : rd_T26 (hs.map toH) (i : Int) = toH hs[i] := by
  rw [rdH_get _ i (by rw [List.length_map]; exact h), List.getElem_map]
theorem made_l1 (hs : List Hk) (hn : hs.length ≤ 1000) (hg : ∀ h ∈ hs.map toH, PGood h) (s : ByteArray) (hz : s.size ≤ 140737488355328) (he : (s.toList == ([] : List UInt8)) = (((hs.map toH).length : Int) == 0)) (hc : 0 < hs.length → rowsH hs + 2 ≤ nls s ∧ nls s ≤ rowsH hs + 4) :
    ∀ (d i n : Nat), hs.length - i = d → i ≤ hs.length → n + rowsH (hs.drop i) = rowsH hs →
    Ev (fun k => redpenlaw20_ShowMade.l1 k (hs.map toH) 0 s 0 (n : Int) (hs.map toH) ((hs.map toH).length : Int) (i : Int)) true := by
  have hr := rows_le hs hg
  intro d
  induction d with
  | zero =>
    intro i n hd hi hN
    obtain rfl : i = hs.length := by omega
    rw [List.drop_length] at hN
    have hn0 : n = rowsH hs := by have : rowsH ([] : List Hk) = 0 := rfl; omega
    subst hn0
    refine Ev.step (f := fun _ => some true) (fun k => ?_) (Ev.now _)
    simp only [redpenlaw20_ShowMade.l1]
    rw [if_neg (by rw [List.length_map]; omega), nlF_eq s hz]
    simp only [Option.bind_some, if_true]
    rw [if_pos (by rw [he]; simp)]
    by_cases h0 : 0 < hs.length
    · obtain ⟨c1, c2⟩ := hc h0
      have e2 : wrap64 (((rowsH hs : Nat) : Int) + 2) = ((rowsH hs + 2 : Nat) : Int) := by rw [w64' (by omega) (by omega)]; omega
      have e4 : wrap64 (((rowsH hs : Nat) : Int) + 4) = ((rowsH hs + 4 : Nat) : Int) := by rw [w64' (by omega) (by omega)]; omega
      rw [if_neg (by rw [List.length_map]; omega), e2, e4, if_pos (by omega), decide_eq_true (by omega)]
    · rw [if_pos (by rw [List.length_map]; omega)]
  | succ d ih =>
    intro i n hd hi hN
    have hlt : i < hs.length := by omega
    rw [rows_drop hs i hlt] at hN
    have hx := rdH_map hs i hlt
    have hl : hs[i].ls.length ≤ 1000 := by
      have h1 : (hs[i].ls.map toL).length ≤ 1000 := (hg (toH hs[i]) (List.mem_map.2 ⟨_, List.getElem_mem hlt, rfl⟩)).1
      rw [List.length_map] at h1
      exact h1
    have e1 : ∀ _ : Unit, wrap64 ((i : Int) + 1) = ((i + 1 : Nat) : Int) := fun _ => by rw [w64' (by omega) (by omega)]; omega
    have el : ((toH hs[i]).f4.length : Int) = ((hs[i].ls.length : Nat) : Int) := by show (((hs[i].ls.map toL).length : Nat) : Int) = _; rw [List.length_map]
    have e2 : ∀ _ : Unit, wrap64 ((n : Int) + wrap64 (1 + ((hs[i].ls.length : Nat) : Int))) = ((n + (1 + hs[i].ls.length) : Nat) : Int) := fun _ => by rw [w64' (x := 1 + ((hs[i].ls.length : Nat) : Int)) (by omega) (by omega), w64' (by omega) (by omega)]; omega
    refine Ev.step (fun k => ?_) (ih (i + 1) (n + (1 + hs[i].ls.length)) (by omega) (by omega) (by omega))
    simp only [redpenlaw20_ShowMade.l1]
    rw [if_pos (by rw [List.length_map]; omega), if_pos (by omega), if_pos (by rw [List.length_map]; omega), hx, el, e1 (), e2 ()]
theorem made_l0 {P Q : List ByteArray} (cP : CleanL P) (cQ : CleanL Q) (uP : Cut P) (uQ : Cut Q) (lP : P.length ≤ 1000) (lQ : Q.length ≤ 1000) (L : List Hk) (hn : L.length ≤ 1000) (hg : ∀ h ∈ L.map toH, PGood h) {r : ByteArray} (hp : Ev (fun k => show_Print.f k (⟨#[102]⟩ : ByteArray) (L.map toH)) (r, 0))
    (main : Ev (fun k => redpenlaw20_ShowMade.l1 k (L.map toH) 0 r 0 ((0 : Nat) : Int) (L.map toH) ((L.map toH).length : Int) ((0 : Nat) : Int)) true) : ∀ (hs : List Hk) (i a b : Nat), L.drop i = hs → i ≤ L.length → HkPath P Q a b hs →
    Ev (fun k => redpenlaw20_ShowMade.l0 k (L.map toH) 0 (L.map toH) ((L.map toH).length : Int) (i : Int)) true := by
  intro hs
  induction hs with
  | nil =>
    intro i a b hd hi hG
    have hl : L.length ≤ i := by
      have := congrArg List.length hd
      rw [List.length_drop, List.length_nil] at this
      omega
    refine Ev.step (f := fun k => (show_Print.f k (⟨#[102]⟩ : ByteArray) (L.map toH)).bind fun t => redpenlaw20_ShowMade.l1 k (L.map toH) 0 t.1 t.2 0 (L.map toH) ((L.map toH).length : Int) 0) (fun k => ?_) (Ev.bind hp main)
    simp only [redpenlaw20_ShowMade.l0]
    rw [if_neg (by rw [List.length_map]; omega)]
  | cons h hs ih =>
    intro i a b hd hi hG
    have hlt : i < L.length := by
      have := congrArg List.length hd
      rw [List.length_drop, List.length_cons] at this
      omega
    obtain ⟨hget, hrest⟩ : L[i] = h ∧ L.drop (i + 1) = hs := by
      rw [List.drop_eq_getElem_cons hlt] at hd
      injection hd with d1 d2
      exact ⟨d1, d2⟩
    have hx := rdH_map L i hlt
    rw [hget] at hx
    have hc := (check_hk cP cQ uP uQ lP lQ hG).1
    have hgh := (hg (toH h) (List.mem_map.2 ⟨h, by rw [← hget]; exact List.getElem_mem hlt, rfl⟩)).1
    have e1 : ∀ _ : Unit, wrap64 ((i : Int) + 1) = ((i + 1 : Nat) : Int) := fun _ => by rw [w64' (by omega) (by omega)]; omega
    obtain ⟨o1, n1, o', n', g1, g2, g3, g4, g5, g6, g7, g8, g9, g10, g11⟩ := hG
    have next := ih (i + 1) o' n' hrest (by omega) g11
    have hck := check_ev (toH h).f0 (toH h).f1 (toH h).f2 (toH h).f3 (toH h).f4 hgh
    rw [show checkM (toH h).f0 (toH h).f1 (toH h).f2 (toH h).f3 (toH h).f4 = 0 from hc] at hck
    refine Ev.step (f := fun k => (show_Check.f k (toH h).f0 (toH h).f1 (toH h).f2 (toH h).f3 (toH h).f4).bind fun t => if t = 0 then redpenlaw20_ShowMade.l0 k (L.map toH) 0 (L.map toH) ((L.map toH).length : Int) ((i + 1 : Nat) : Int) else some false) (fun k => ?_) (Ev.bind hck ?_)
    · simp only [redpenlaw20_ShowMade.l0]
      rw [if_pos (by rw [List.length_map]; omega), if_pos (by omega), if_pos (by rw [List.length_map]; omega), hx, e1 ()]
    · simp only [if_true]
      exact next
theorem ShowMade (l0 : List Int) (l1 : List Int) (a2 : Bool) (a3 : Bool) (a4 : Int) (h0 : l0.length * 1 ≤ 140737488351232) (h1 : ∀ x ∈ l0, (fun n => (Lit.int .u8 n).wf = true) x) (h2 : l1.length * 1 ≤ 140737488351232) (h3 : ∀ x ∈ l1, (fun n => (Lit.int .u8 n).wf = true) x) (h4 : (Lit.int .u8 a4).wf = true) : ∃ k, redpenlaw20_ShowMade.f k l0 l1 a2 a3 a4 = some true := by
  have b4 : 0 ≤ a4 ∧ a4 < 256 := by simp [Lit.wf, IntKind.min, IntKind.max, IntKind.signed, IntKind.bits] at h4; omega
  have t4 : Int.tmod a4 17 = a4 % 17 := Int.tmod_eq_emod_of_nonneg b4.1
  obtain ⟨c, hc, hc16⟩ : ∃ c : Nat, a4 % 17 = (c : Int) ∧ c ≤ 16 := ⟨(a4 % 17).toNat, by omega, by omega⟩
  have e4 : wrap64 (Int.tmod a4 17) = (c : Int) := by rw [t4, hc, w64' (by omega) (by omega)]
  clear t4 hc
  obtain ⟨p, hp, hpB, hpl⟩ := text_ev l0 (tx_wf h1) (by omega) a2
  obtain ⟨q, hq, hqB, hql⟩ := text_ev l1 (tx_wf h3) (by omega) a3
  have m1 := make_ev p q (by omega) (by omega) c hc16
  have cp := ls_count p
  have cq := ls_count q
  have cP := clean_ls hpB
  have cQ := clean_ls hqB
  have uP := cut_ls p
  have uQ := cut_ls q
  have sP := short_ls (N := 1000) (p := p) (by omega)
  have sQ := short_ls (N := 1000) (p := q) (by omega)
  have lP : ((ls p).map strOfNums).length ≤ 240 := by rw [List.length_map]; omega
  have lQ : ((ls q).map strOfNums).length ≤ 240 := by rw [List.length_map]; omega
  generalize (ls p).map strOfNums = P at *
  generalize (ls q).map strOfNums = Q at *
  have hG := chgs_good P Q (by omega) (by omega)
  have hlen := makeM_len P Q c _ (chgs P Q) (Nat.le_refl _)
  have hcl := chgs_len P Q
  have hk := make_path P Q c _ (chgs P Q) true 0 0 0 _ 0 0 (Nat.le_refl _) hG (.inr ⟨rfl, rfl, rfl, rfl⟩)
  generalize makeM P Q c (chgs P Q) = L at *
  have hg := hk_good (by omega) (by omega) sP sQ hk
  have hb := hk_bares uP uQ hk
  have hb2 : baresH L ≤ 2 := by
    have c1 : (if 0 < P.length then 1 else 0) ≤ 1 := by split <;> omega
    have c2 : (if 0 < Q.length then 1 else 0) ≤ 1 := by split <;> omega
    omega
  refine Ev.rounds (Ev.bind ⟨0, fun _ _ => prints_awake⟩ ?_)
  simp only [if_true, e4]
  refine Ev.bind hp (Ev.bind hq (Ev.bind m1 ?_))
  simp only
  by_cases hL : L = []
  · subst hL
    refine made_l0 cP cQ uP uQ (by omega) (by omega) [] (by simp) hg (r := ⟨#[]⟩) ⟨0, fun k _ => print_none k⟩ ?_ [] 0 0 0 rfl (Nat.le_refl _) hk
    exact made_l1 [] (by simp) hg ⟨#[]⟩ (by decide +kernel) (by decide +kernel) (fun h => by simp at h) _ 0 0 rfl (Nat.le_refl _) rfl
  · have hl0 : 0 < L.length := List.length_pos_iff.2 hL
    obtain ⟨p1, p2, p3⟩ := print_hk cP cQ uP uQ (by omega) (by omega) L 0 0 headT hk
    have pz := print_size (by omega) (by omega) sP sQ cP cQ uP uQ L 0 0 headT hk
    have pr := print_some (L.map toH) (by rw [List.length_map]; omega) (by simpa using hL) hg
    rw [headT_size] at p3 pz
    rw [headT_nls] at p2
    obtain ⟨s, e⟩ : ∃ s, printM headT (L.map toH) = (s, 0) := ⟨(printM headT (L.map toH)).1, by rw [← p1]⟩
    rw [e] at p2 p3 pz pr
    simp only at p2 p3 pz
    refine made_l0 cP cQ uP uQ (by omega) (by omega) L (by omega) hg pr ?_ L 0 0 0 rfl (Nat.zero_le _) hk
    refine made_l1 L (by omega) hg s (by omega) ?_ (fun _ => ⟨by omega, by omega⟩) _ 0 0 rfl (Nat.zero_le _) (by rw [List.drop_zero]; omega)
    have g1 : (s.toList == ([] : List UInt8)) = false := by
      rw [beq_eq_false_iff_ne]
      intro h
      rw [toList_eq_data] at h
      have h2 : s.data.toList.length = 0 := by rw [h]; rfl
      rw [Array.length_toList] at h2
      have h3 : s.size = s.data.size := rfl
      omega
    have g2 : (((L.map toH).length : Int) == 0) = false := by rw [beq_eq_false_iff_ne, List.length_map]; omega
    rw [g1, g2]
end Go.Proofs.YtjabpbnlpljlkaaDoor.Pure
