/- The witness of a law's second form: after the kit's own. -/
import Derived.Test.YtipbakdodbmfjaaGreatDoorWrap
import Derived.Test.YtipbakdodbmfjaaGreatDoorOpenBulk
import Derived.LaidLaws
import Derived.Stop.Joined
import Derived.Deep.DeepHandedRow
namespace Go.Proofs.YtipbakdodbmfjaaGreatDoor
open Go.ChangeShapes Go.WideShapes Go.ChangeAt Go.RowKit

theorem witness_upto {H : Type} {enc : TypeId × Value → H} {C : Checked} {os : Os} {f : FuncId} {fn : Func} {s : OpenSpec} {conds : List PathCond} {apart : Bool} {laid : List (String × DataW Unit)} (modest : Bool) (w0 : World) (args : Array Value) (hos : w0.os = os)
    (hsh : (w0.forCall (fun _ _ => 0) ⟨#[], args, []⟩).Shaped C.prog)
    (hok : Input.okWideB C.prog (w0.forCall (fun _ _ => 0) ⟨#[], args, []⟩) f ⟨#[], args, []⟩ = true)
    (hrow : s.preRow enc C.prog fn conds apart laid (w0.forCall (fun _ _ => 0) ⟨#[], args, []⟩).memory args) :
    ∃ (w : World) (tape : Tape) (i : Input), w.os = os ∧ (w.forCall tape i).Shaped C.prog ∧ i.vars = [] ∧ Input.okWide C.prog (w.forCall tape i) .any w.heap.size f i ∧
      s.preRow enc C.prog fn conds apart laid (w.forCall tape i).memory i.args ∧ ({ modest := modest } : Assume).holds C.prog (lone (Frame.enter C.prog f i.args .normal) [] (w.forCall tape i)) :=
  ⟨w0, fun _ _ => 0, ⟨#[], args, []⟩, hos, hsh, (Input.okWide_of_okWideB (base := 0) hok).1, (Input.okWide_of_okWideB hok).2, hrow, by
    simp only [Assume.holds]
    exact ⟨by simp, by simp, fun _ => Modest.zero, by simp, by simp⟩⟩
/-- the bound on the whole bounds each act -/
theorem small_of {H : Type} {ds gs : List (DataW H)} {d : DataW H} (h : Rows.uptoSmall H (ds ++ gs) = true) (hd : d ∈ ds) : Rows.uptoBulk d ≤ 1048576 := by
  have h1 := of_decide_eq_true h
  have h2 := bulk_part (List.mem_append_left gs hd)
  exact Nat.le_trans h2 h1
theorem smallA_le {x : ActP} {m n : Nat} (h : smallA x m) (hm : m ≤ n) : smallA x n := ⟨Nat.le_trans h.1 hm, Nat.le_trans h.2 hm⟩
end Go.Proofs.YtipbakdodbmfjaaGreatDoor
