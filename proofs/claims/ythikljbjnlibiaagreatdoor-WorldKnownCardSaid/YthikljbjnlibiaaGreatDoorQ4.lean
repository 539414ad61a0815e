import Derived.Test.YthikljbjnlibiaaGreatDoorQ3
import Derived.KernelRfl
namespace Go.Proofs.YthikljbjnlibiaaGreatDoor
open Go.RowKit
open Go.Proofs.Abs
def p2:Row:=⟨48,576,[(.ptr 26 0),(.agg [(I 2),(I 0),(I 0),.nilsl,.nilsl,(I 0),(I 0),(I 0),(I 0),.nilsl,.nilsl])],[381,81,17,385,540,16,26],[(540,some (.cells [(.ptr 385 0)])),(385,some (.cells [(.ptr 81 0),(.map 381),(I 0)])),(381,some (.mapb 0 [] [])),(81,some (.cells [(.ptr 16 0),(.int .u64 0),(I 0),(I 0),(I (-1)),(.bool false)])),(26,some (.cells [(.ptr 16 0),(.ptr 540 0),(.bool true),(I 0)])),(17,some (.cells (br 99++[bq,(.bool false)]))),(16,some (.cells [(.rsl true 17 0 100 2),.nilsl,(I (-1)),(.bool false),(I 0)]))],(.agg [(I 0),.nilsl]),[(540,some (.cells [(.ptr 385 0)])),(385,some (.cells [(.ptr 81 0),(.map 381),(I 0)])),(381,some (.mapb 0 [] [])),(81,some (.cells [(.ptr 16 0),(.int .u64 0),(I 0),(I 0),(I (-1)),(.bool false)])),(26,some (.cells [(.ptr 16 0),(.ptr 540 0),(.bool true),(I 0)])),(17,some (.cells (br 99++[bq,(.bool false)]))),(16,some (.cells [(.rsl true 17 0 100 2),.nilsl,(I 0),(.bool false),(I 0)]))],25⟩
theorem uJ:cY mP p2=true:=by kernel_rfl
noncomputable def mQ:bC:=cH p2 mP
theorem uK:cj mQ:=di uI uJ
end Go.Proofs.YthikljbjnlibiaaGreatDoor
