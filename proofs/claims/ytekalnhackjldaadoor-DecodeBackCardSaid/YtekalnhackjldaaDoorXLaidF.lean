/- What the listed variables read as, told cell by cell; and a world in which they do (for the witness of tied cards). -/
import Derived.Test.YtekalnhackjldaaDoorRows
import Derived.Test.YtekalnhackjldaaDoorHEnt
import Derived.ProofKit
import Derived.LaidLaws
import Derived.OpenShut
import Derived.ChangeArms
import Derived.FnData
import Derived.Lib.LaidTab
import Derived.Deep.DeepHandedRow
import Derived.Lay
namespace Go.Proofs.YtekalnhackjldaaDoor
set_option linter.unusedVariables false

theorem two_ {α : Type} : ∀ l : List α, l.length = 2 → ∃ a b, l = [a, b]
  | [a, b], _ => ⟨a, b, rfl⟩
theorem row_cells {w : World} {base fuel : Nat} {sp : Nat → Bool} {held : Bool} {cs : List Value} {s : List UInt8} {n : Int} {q : DataW Unit × List MemPlace}
    (h : DataW.trod (fun _ => ()) Tryd.prog w base sp held fuel 67 cs = some q) (hd : q.1 = .agg [.lit (.string s), .lit (.int .i32 n)]) : cs = [.string ⟨s.toArray⟩, .int .i32 n] := by
  obtain ⟨xs, m, rfl, rfl, hl, hxl, hx⟩ := DataW.trod_struct Tryd.underlying67 h
  simp only [DataW.agg.injEq] at hd
  have c67 : Tryd.prog.cellsOf 67 = 2 := by kernel_rfl
  have c9 : Tryd.prog.cellsOf 9 = 1 := by kernel_rfl
  have c21 : Tryd.prog.cellsOf 21 = 1 := by kernel_rfl
  have h0 : DataW.trod (fun _ => ()) Tryd.prog w base sp held m 9 ((cs.drop 0).take (Tryd.prog.cellsOf 9)) = xs[0]? := hx 0 _ rfl
  have h1 : DataW.trod (fun _ => ()) Tryd.prog w base sp held m 21 ((cs.drop 1).take (Tryd.prog.cellsOf 21)) = xs[1]? := hx 1 _ rfl
  rw [c9] at h0
  rw [c21] at h1
  rw [c67] at hl
  obtain ⟨x0, x1, rfl⟩ := two_ xs hxl
  obtain ⟨a, b, rfl⟩ := two_ cs hl
  simp only [List.map_cons, List.map_nil, List.cons.injEq, and_true] at hd
  obtain ⟨s', e0, f0, _⟩ := DataW.trod_string Tryd.underlying9 (x := x0) (by simpa using h0)
  obtain ⟨n', e1, f1, _⟩ := DataW.trod_int Tryd.underlying21 (x := x1) (by simpa using h1)
  simp only [List.cons.injEq, and_true] at e0 e1
  subst e0; subst e1; subst f0; subst f1
  simp only [DataW.lit.injEq, Lit.string.injEq, Lit.int.injEq, true_and] at hd
  obtain ⟨hs, rfl⟩ := hd
  subst hs
  rfl
theorem iface_cell {w : World} {base fuel : Nat} {sp : Nat → Bool} {cs : List Value} {nm : String} {d : DataW Unit} {p : List MemPlace}
    (h : DataW.trod (fun _ => ()) Tryd.prog w base sp false fuel 71 cs = some (.iface nm d, p)) : ∃ u v, cs = [.iface u v] := by
  cases fuel with
  | zero => simp [DataW.trod] at h
  | succ m =>
    have hu := Tryd.underlying71
    unfold DataW.trod at h
    split at h <;> first | (rename_i hq; rw [hu] at hq; cases hq; done) | skip
    all_goals first | exact ⟨_, _, rfl⟩ | simp_all
theorem six_ {α : Type} : ∀ l : List α, l.length = 6 → ∃ a b c d e f, l = [a, b, c, d, e, f]
  | [a, b, c, d, e, f], _ => ⟨a, b, c, d, e, f, rfl⟩
theorem laid_of {W : World} (h : laidMetH Tryd.prog Rows.decodeOnesRow.laid W) : H.Laid W := by
  have h' : laidMet Tryd.prog Rows.decodeOnesRow.laid W := h
  obtain ⟨ps, ⟨g1, t1, cs1, f1, p1, q1, hg1, ht1, hv1, hd1, ⟨g2, t2, cs2, f2, p2, q2, hg2, ht2, hv2, hd2, ⟨g3, t3, cs3, f3, p3, q3, hg3, ht3, hv3, hd3, ⟨g4, t4, cs4, f4, p4, q4, hg4, ht4, hv4, hd4, ⟨g5, t5, cs5, f5, p5, q5, hg5, ht5, hv5, hd5, ⟨g6, t6, cs6, f6, p6, q6, hg6, ht6, hv6, hd6, _⟩, _⟩, _⟩, _⟩, _⟩, _⟩, _⟩ := h'
  have e4 : Tryd.prog.globalNamed "strconv.ErrRange" = some 2 := by kernel_rfl
  have e5 : Tryd.prog.globalNamed "strconv.ErrSyntax" = some 1 := by kernel_rfl
  have e6 : Tryd.prog.globalNamed "redpen/decode.names" = some 0 := by kernel_rfl
  obtain rfl := Option.some.inj (e4.symm.trans hg4)
  obtain rfl := Option.some.inj (e5.symm.trans hg5)
  obtain rfl := Option.some.inj (e6.symm.trans hg6)
  obtain rfl := Option.some.inj ((show (Tryd.prog.globals[2]?).map (·.type) = some 71 by kernel_rfl).symm.trans ht4)
  obtain rfl := Option.some.inj ((show (Tryd.prog.globals[1]?).map (·.type) = some 71 by kernel_rfl).symm.trans ht5)
  obtain rfl := Option.some.inj ((show (Tryd.prog.globals[0]?).map (·.type) = some 68 by kernel_rfl).symm.trans ht6)
  obtain ⟨u4, v4, h4⟩ := iface_cell hd4
  obtain ⟨u5, v5, h5⟩ := iface_cell hd5
  have k4 := World.var?_cell hg4 hv4 0
  have k5 := World.var?_cell hg5 hv5 0
  rw [← Array.getElem?_toList, h4] at k4
  rw [← Array.getElem?_toList, h5] at k5
  refine ⟨⟨⟨_, k5, .inr ⟨_, _, rfl⟩⟩, _, k4, .inr ⟨_, _, rfl⟩⟩, ?_⟩
  obtain ⟨xs, m, rfl, hx, hl, hxl, hxs⟩ := DataW.trod_array Tryd.underlying68 hd6
  have c67 : Tryd.prog.cellsOf 67 = 2 := by kernel_rfl
  have c68 : Tryd.prog.cellsOf 68 = 12 := by kernel_rfl
  rw [c67] at hxs
  rw [c68] at hl
  obtain ⟨x0, x1, x2, x3, x4, x5, rfl⟩ := six_ xs hxl
  have hx' := congrArg Prod.fst hx
  simp only [Rows.laid_redpen_decode_names, List.map_cons, List.map_nil, DataW.agg.injEq, List.cons.injEq, and_true] at hx'
  obtain ⟨y0, y1, y2, y3, y4, y5⟩ := hx'
  have a0 := row_cells (hxs 0 (by omega)) y0.symm
  have a1 := row_cells (hxs 1 (by omega)) y1.symm
  have a2 := row_cells (hxs 2 (by omega)) y2.symm
  have a3 := row_cells (hxs 3 (by omega)) y3.symm
  have a4 := row_cells (hxs 4 (by omega)) y4.symm
  have a5 := row_cells (hxs 5 (by omega)) y5.symm
  have two : ∀ (i : Nat) (a b : Value), (cs6.toList.drop (i * 2)).take 2 = [a, b] → cs6[i * 2]? = some a ∧ cs6[i * 2 + 1]? = some b := by
    intro i a b h
    have h0 := congrArg (·[0]?) h
    have h1 := congrArg (·[1]?) h
    simp only [List.getElem?_take, List.getElem?_drop] at h0 h1
    constructor
    · simpa using h0
    · simpa using h1
  obtain ⟨b0, b1⟩ := two 0 _ _ a0
  obtain ⟨b2, b3⟩ := two 1 _ _ a1
  obtain ⟨b4, b5⟩ := two 2 _ _ a2
  obtain ⟨b6, b7⟩ := two 3 _ _ a3
  obtain ⟨b8, b9⟩ := two 4 _ _ a4
  obtain ⟨b10, b11⟩ := two 5 _ _ a5
  exact ⟨(World.var?_cell hg6 hv6 0).trans b0, (World.var?_cell hg6 hv6 1).trans b1, (World.var?_cell hg6 hv6 2).trans b2, (World.var?_cell hg6 hv6 3).trans b3, (World.var?_cell hg6 hv6 4).trans b4, (World.var?_cell hg6 hv6 5).trans b5,
    (World.var?_cell hg6 hv6 6).trans b6, (World.var?_cell hg6 hv6 7).trans b7, (World.var?_cell hg6 hv6 8).trans b8, (World.var?_cell hg6 hv6 9).trans b9, (World.var?_cell hg6 hv6 10).trans b10, (World.var?_cell hg6 hv6 11).trans b11⟩
noncomputable def laidWorld (os : Os) : World := World.laidAll Tryd.prog os Rows.decodeOnesRow.laid
theorem laid_met (os : Os) (args : Array Value) : laidMet Tryd.prog Rows.decodeOnesRow.laid ((laidWorld os).forCall (fun _ _ => 0) ⟨#[], args, []⟩).memory :=
  laidMet_laidAll args (by kernel_rfl) (by kernel_rfl)
end Go.Proofs.YtekalnhackjldaaDoor
