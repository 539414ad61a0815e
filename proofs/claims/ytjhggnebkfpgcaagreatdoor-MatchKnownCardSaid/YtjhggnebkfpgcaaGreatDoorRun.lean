/- MatchKnown, run by the kernel in the abstract machine, whose soundness the texts E1 .. E25 prove. -/
import Derived.Test.YtjhggnebkfpgcaaGreatDoorProg
import Derived.Test.YtjhggnebkfpgcaaGreatDoorE25
import Derived.KernelRfl
namespace Go.Proofs.YtjhggnebkfpgcaaGreatDoor
open Go.RowKit
open Go.Proofs.Abs

theorem Tryz.mixed : Tryz.prog.follows .mixedOrders = true := by kernel_rfl

/-- Functions whose answer is a row, or a variable, of their own: slices.Clone, slices.Delete, attrs.places, octet.NewReader, octet.NewWriter. -/
def freshs : List Nat := [118, 119, 120, 121, 151, 191, 193, 194]
/-- Functions that write by a pointer: the octet writer, match's heap. -/
def keeps : List Nat := [102, 104, 144, 145, 214, 215]
noncomputable def opts : Opts := { how := fun f => match memN freshs f with | true => .fresh | false => match memN keeps f with | true => .keep | false => .pure, summ := fun _ _ => none, glob := fun _ => none, lf := 100000 }

theorem known_runs : runTrue Tryz.prog opts 40 12 = true := by kernel_rfl

theorem known_calls (w : World) : Calls Tryz.prog 12 #[] w fun e w' => e = .returned (.bool true) ∧ Below w.heap.size w w' :=
  calls_true (O := opts) Tryz.mixed (fun _ _ => rfl) rfl known_runs

end Go.Proofs.YtjhggnebkfpgcaaGreatDoor
