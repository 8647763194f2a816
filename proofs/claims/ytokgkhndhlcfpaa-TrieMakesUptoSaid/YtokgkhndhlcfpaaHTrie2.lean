/- The functions of package trie that make and read the nodes, proved by hand, second text: put, Len, Size, Ends, Kids. -/
import Derived.Test.YtokgkhndhlcfpaaHTrie
namespace Go.Proofs.Ytokgkhndhlcfpaa.X
open Go.RowKit Go.Proofs.YtokgkhndhlcfpaaW.PrintWords Go.Proofs.YtokgkhndhlcfpaaW.PrintLast Go.Proofs.YtokgkhndhlcfpaaW.PrintMore
open Go.Proofs.Ytokgkhndhlcfpaa.M
set_option linter.unusedVariables false
set_option linter.unusedSimpArgs false

/-- A trie that is being made: its block and its row of nodes; what else was there is as it was. -/
def TrSt (g B : Nat) (words : Int) (ns : List Nd) (w w0 w1 : World) : Prop :=
  ∃ A c, w1.heap[g]? = some (.cells #[.slice A ns.length c, .int .i64 words] 79 (0, 0)) ∧ kNd.R 96 w1 B (fun _ => True) (.slice A ns.length c) ns ∧ Below B w0 w1 ∧ NKp g w w1
theorem TrSt.drew {g B : Nat} {words : Int} {ns : List Nd} {w w0 w1 : World} (h : TrSt g B words ns w w0 w1) (m : Nat) : TrSt g B words ns w w0 (w1.drewN m) := by
  obtain ⟨A, c, h1, h2, h3, h4⟩ := h
  exact ⟨A, c, blk_drewN h1 m, nd_drewN h2 m, pw_below_drewN h3 m, h4.drew m⟩
theorem child_st (f g B : Nat) (ns : List Nd) (words : Int) (at_ r n : Int) (ns' : List Nd) (w w0 w1 : World) (hBw : B ≤ w0.heap.size) (hBg : B ≤ g) (hS : TrSt g B words ns w w0 w1) (h : childF f ns at_ r = some (ns', n)) :
    Calls Try.prog 51 #[.pointer (some ⟨g, 0, none⟩), .int .i64 at_, .int .i32 r] w1 fun e w' => e = .returned (.int .i64 n) ∧ TrSt g B words ns' w w0 w' := by
  obtain ⟨A, c, h1, h2, h3, h4⟩ := hS
  refine (child_at f g B ns words A c at_ r n ns' w1 w0 h3 (Nat.le_trans hBw h3.size) hBg h1 h2 h).mono ?_
  rintro e w' ⟨A', c', rfl, k1, k2, k3, k4⟩
  exact ⟨rfl, A', c', k1, k2, k3, h4.trans k4⟩
def putL (f : Nat) : List Nd → Int → List Int → Option (List Nd × Int)
  | ns, at_, [] => some (ns, at_)
  | ns, at_, r :: t => (childF f ns at_ r).bind fun q => putL f q.1 q.2 t
def putF (f : Nat) (ns : List Nd) (words : Int) (l : List Int) : Option (List Nd × Int) :=
  (putL f ns 0 l).bind fun q => if 0 ≤ q.2 then (if q.2 < (q.1.length : Int) then (if (ndAt q.1 q.2).e = true then some (q.1, words) else some (setEnd q.1 q.2, wrap64 (words + 1))) else none) else none
theorem drop_rd (l : List Int) (i : Nat) (h : i < l.length) : l.drop i = rd l (i : Int) :: l.drop (i + 1) := by
  rw [List.drop_eq_getElem_cons h]
  unfold rd
  rw [Int.toNat_natCast, List.getD_eq_getElem?_getD, List.getElem?_eq_getElem h]
  rfl
set_option maxHeartbeats 8000000 in
set_option maxRecDepth 100000 in
theorem put_at (f g B : Nat) (ns ns' : List Nd) (words words' : Int) (Al : Option Addr) (cl : Nat) (l : List Int) (w w0 w1 : World) (hBw : B ≤ w0.heap.size) (hBg : B ≤ g) (hS : TrSt g B words ns w w0 w1)
    (hl : ∀ w', NKp g w w' → Kd.C (Kd.int .i32) w' Al l.length l) (hll : l.length < 1000000000000) (h : putF f ns words l = some (ns', words')) :
    Calls Try.prog 40 #[.pointer (some ⟨g, 0, none⟩), .slice Al l.length cl] w1 fun e w' => e = .returned (.tuple #[]) ∧ TrSt g B words' ns' w w0 w' := by
  obtain ⟨⟨nsq, atq⟩, hp, h⟩ := Option.bind_eq_some_iff.mp h
  have HP := Aside0.mk hp
  have HH := Aside0.mk h
  have HS := Aside0.mk hS
  have HL := Aside0.mk hl
  have HLL := Aside0.mk hll
  clear hp h hS hl hll
  go_enter Try.func40, Try.ntmps40
  go_wp2
  go_loopg [4, 9] (l.length + 1) (fun kq v4 v9 w' => ∃ (i : Nat) (at_ : Int) (ns1 : List Nd), v4 = .int .i64 at_ ∧ v9 = .int .i64 (i : Int) ∧ Aside0 (i ≤ l.length ∧ kq = l.length - i + 1) ∧ Aside0 (putL f ns1 at_ (l.drop i) = some (nsq, atq)) ∧ Aside0 (TrSt g B words ns1 w w0 w'))
  case atStart => exact ⟨0, 0, ns, rfl, rfl, ⟨⟨Nat.zero_le _, rfl⟩⟩, HP, HS⟩
  case round =>
    clear HP HS
    obtain ⟨i, at_, ns1, rfl, rfl, HK, HP, HS⟩ := hrel
    by_cases hlt : i < l.length
    · have d1 := decide_eq_true (show (i : Int) < (l.length : Int) by omega)
      have p1 : 0 ≤ (i : Int) := by omega
      have q1 : (i : Int) < (l.length : Int) := by omega
      have hp := HP.out
      rw [drop_rd l i hlt] at hp
      obtain ⟨⟨ns2, at2⟩, hc, hp⟩ := Option.bind_eq_some_iff.mp hp
      have hq := HS.out
      obtain ⟨_, _, _, _, _, hTK⟩ := hq
      obtain ⟨ad1, e1, hx1⟩ := Kd.at_int (HL.out _ hTK) (i : Int) p1 q1
      cases e1
      simp only [Int.toNat_natCast] at hx1
      have HP2 := Aside0.mk hp
      have HC := Aside0.mk hc
      have HLT := Aside0.mk hlt
      clear HP hp hc hTK hlt
      replace p1 := eq_true p1
      replace q1 := eq_true q1
      have hew := Aside0.mk (show wrap64 ((i : Int) + 1) = ((i + 1 : Nat) : Int) by have := HLL.out; have := HLT.out; rw [w64 (by omega) (by omega)]; omega)
      go_wp2_with (go_at_call 51; refine (child_st f g B ns1 words at_ _ at2 ns2 w w0 _ hBw hBg HS.out HC.out).mono ?_; rintro e w' ⟨rfl, hs2⟩; have HS2 := Aside0.mk hs2; clear hs2)
      go_roundg (l.length - (i + 1) + 1)
      case measure => have := HK.out; have := HLT.out; omega
      case rel => exact ⟨i + 1, at2, ns2, rfl, by rw [hew.out], ⟨⟨by have := HLT.out; omega, rfl⟩⟩, HP2, HS2⟩
    · have hil : i = l.length := by have := HK.out; omega
      have d1 := decide_eq_false (show ¬ (i : Int) < (l.length : Int) by omega)
      have hp := HP.out
      rw [hil, List.drop_length] at hp
      obtain ⟨rfl, rfl⟩ : ns1 = nsq ∧ at_ = atq := by simpa [putL] using hp
      obtain ⟨A, c, hg, hR, hB, hT⟩ := HS.out
      have hh := HH.out
      by_cases h0 : 0 ≤ at_
      · rw [if_pos h0] at hh
        by_cases h1 : at_ < (ns1.length : Int)
        · rw [if_pos h1] at hh
          obtain ⟨gr, rfl⟩ := nd_row hR (by omega)
          have hx := blk_cell hg 0
          have hf1 := blk_cell hg 1
          have hf2 := blk_frozen hg 1
          simp at hx hf1
          have he := nd_cells (Kd.R_reads' hR).2.2 at_ h0 h1 1 _ rfl
          have e0 := eq_true h0
          have e1 := eq_true h1
          clear HP HS hp
          by_cases ce : (ndAt ns1 at_).e = true
          · rw [if_pos ce] at hh
            obtain ⟨rfl, rfl⟩ : ns1 = ns' ∧ words = words' := by simpa using hh
            rw [ce] at he
            go_wp2
            exact bodyPost_end (results_none rfl _ _ _) rfl ⟨rfl, _, _, hg, hR, hB, hT⟩
          · rw [if_neg ce] at hh
            obtain ⟨rfl, rfl⟩ : setEnd ns1 at_ = ns' ∧ wrap64 (words + 1) = words' := by simpa using hh
            rw [eq_false_of_ne_true ce] at he
            have HG := Aside0.mk hg
            have HR := Aside0.mk hR
            have HB := Aside0.mk hB
            have HT := Aside0.mk hT
            clear hg hR hB hT hh
            go_wp2_with ((with_reducible refine gate_ (.store 4 (.tmp 33) (.const (.bool true))) rfl ?_); refine Kd.R_store kNd (w0 := w0) B rfl rfl 4 (.tmp 33) (.const (.bool true)) rfl 96 (o' := at_.toNat * 4 + 1) at_ 1 ns1 ⟨(ndAt ns1 at_).r, true, (ndAt ns1 at_).kid, (ndAt ns1 at_).oth⟩ (.bool true) [.bool true] (ndc (ndAt ns1 at_)) (fun _ => True) (fun _ => False) rfl rfl rfl rfl (by kernel_rfl) (by simp [Value.oneCell']) HR.out h0 h1 rfl (nd_cells (Kd.R_reads' HR.out).2.2 at_ h0 h1) (by show 1 + 1 ≤ 4; omega) (kNd_mkM _ _ _ _) (fun _ hk => hk.elim) HB.out ?_; intro w3 ho3 hb3 hg3; obtain ⟨cur, hcur⟩ := nd_typed HR.out; have hgg := blk_grown HG.out hg3 (Kd.R_ne HR.out HG.out (by decide)); have hy1 := blk_cell hgg 1; have hy2 := blk_frozen hgg 1; have HO3 := Aside0.mk ho3; have HB3 := Aside0.mk hb3; have HG3 := Aside0.mk hgg; have HT3 := Aside0.mk (HT.out.grown hg3 hcur); clear ho3 hb3 hg3 hgg hcur; simp at hy1)
            refine bodyPost_end (results_none rfl _ _ _) rfl ⟨rfl, some ⟨gr, 0, none⟩, c, ?_, ?_, HB3.out.setCell hBg _, HT3.out.set_⟩
            · have := blk_put HG3.out 1 (.int .i64 (wrap64 (words + 1))) (cs' := #[.slice (some ⟨gr, 0, none⟩) ns1.length c, .int .i64 (wrap64 (words + 1))]) rfl
              unfold setEnd
              rw [List.length_set]
              exact this
            · have := Kd.R_set HO3.out HG3.out (by decide) 1 (.int .i64 (wrap64 (words + 1)))
              unfold setEnd
              rw [List.length_set]
              exact this
        · rw [if_neg h1] at hh
          cases hh
      · rw [if_neg h0] at hh
        cases hh
theorem seekF_mono (ns : List Nd) (r : Int) : ∀ f b k, LeO (seekF ns r f b k) (seekF ns r (f + 1) b k)
  | 0 => fun _ _ q h => by simp [seekF] at h
  | f + 1 => by
    intro b k
    unfold seekF
    exact LeO.ite (LeO.ite (LeO.ite (seekF_mono ns r f _ _) (LeO.refl _)) (LeO.refl _)) (LeO.refl _)
theorem childF_mono (f : Nat) (ns : List Nd) (a r : Int) : LeO (childF f ns a r) (childF (f + 1) ns a r) := by
  unfold childF
  exact LeO.ite (LeO.ite (LeO.bind (seekF_mono _ _ _ _ _) (fun _ => LeO.refl _)) (LeO.refl _)) (LeO.refl _)
theorem putL_mono (f : Nat) : ∀ (l : List Int) (ns : List Nd) (a : Int), LeO (putL f ns a l) (putL (f + 1) ns a l)
  | [] => fun _ _ => LeO.refl _
  | r :: t => fun ns a => by
    unfold putL
    exact LeO.bind (childF_mono _ _ _ _) (fun _ => putL_mono f t _ _)
theorem putF_mono (f : Nat) (ns : List Nd) (n : Int) (l : List Int) : LeO (putF f ns n l) (putF (f + 1) ns n l) := by
  unfold putF
  exact LeO.bind (putL_mono _ _ _ _) (fun _ => LeO.refl _)
/-- A row of what is neither nodes nor a trie, over what only changes those. -/
theorem R_NKp {α : Type} {d : Kd α} {e b g : Nat} {ok : Nat → Prop} {w w1 : World} {v : Value} {xs : List α} {cs : Array Value} (h : d.R e w b ok v xs) (hT : NKp g w w1) (hg : w.heap[g]? = some (.cells cs 79 (0, 0)))
    (he : ∀ q, q ∈ e :: d.E → q ≠ 96 ∧ q ≠ 79) : d.R e w1 b ok v xs := by
  refine Kd.R_mono (Kd.R_step (Kd.R_bound h) (fun k hk hlt => ?_)) (fun k hk => hk.1)
  obtain ⟨_, _, _, q, hq, cells, hc⟩ := hk
  refine hT.2 k hlt ?_ ?_
  · rintro rfl
    rw [hc] at hg
    injection hg with hg
    injection hg with _ hg _
    exact (he q hq).2 hg
  · intro cs' m hh
    rw [hc] at hh
    injection hh with hh
    injection hh with _ hh _
    exact (he q hq).1 hh
end Go.Proofs.Ytokgkhndhlcfpaa.X
