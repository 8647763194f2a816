/- Signs as the program's structs. -/
import Derived.Test.YtgjnelloegkicaaBNextLinesOwn
namespace Go.Proofs.Ytgjnelloegkicaa.PLinesOwn
open Go.RowKit Go.Proofs.YtgjnelloegkicaaW.PrintWords Go.Proofs.YtgjnelloegkicaaW.PrintLast Go.Proofs.YtgjnelloegkicaaW.PrintMore
open Go.Proofs.Ytgjnelloegkicaa.M
/-- Signs with their places. -/
def mkU : Int → List (Int × Int) → List S29
  | _, [] => []
  | at_, (r, n) :: l => ⟨r, ⟨at_, n⟩⟩ :: mkU (at_ + n) l
theorem mkU_len (a : Int) (l : List (Int × Int)) : (mkU a l).length = l.length := by
  induction l generalizing a with
  | nil => rfl
  | cons x l ih => simp [mkU, ih]
theorem mkU_map (a : Int) (l : List (Int × Int)) : (mkU a l).map (fun u => (u.f0, u.f1.f1)) = l := by
  induction l generalizing a with
  | nil => rfl
  | cons x l ih => simp [mkU, ih]
theorem mkU_get (a : Int) (l : List (Int × Int)) (i : Nat) (h : i < l.length) : (mkU a l).getD i z29 = ⟨(l.getD i (0, 0)).1, ⟨a + pos l i, (l.getD i (0, 0)).2⟩⟩ := by
  induction l generalizing a i with
  | nil => simp at h
  | cons x l ih =>
    cases i with
    | zero => simp [mkU, pos]
    | succ i =>
      have := ih (a + x.2) i (by simpa using h)
      simp only [mkU, List.getD_cons_succ, this, pos_cons]
      congr 2
      omega
end Go.Proofs.Ytgjnelloegkicaa.PLinesOwn
