/- packed -/
import Derived.Test.YtplldnnnhgnbjaaGreatDoorMv50
namespace Go.Proofs.YtplldnnnhgnbjaaGreatDoor.modelCounts
open Go.ChangeShapes Go.WideShapes Go.ChangeAt Go.RowKit Go.Joins Go.Deep
theorem and_tt{a b:Bool}(h1:a=true)(h2:b=true):(a && b)=true:=by rw[h1,h2];rfl
set_option maxRecDepth 100000 in
set_option maxHeartbeats 6400000 in
theorem closed:joinedFacts Tryz.prog 7 Tryz.f7 (OpenSpec.ofChange Rows.modelCountsSpec).bare Rows.modelCountsRow=true:=by
 unfold joinedFacts
 repeat' (with_reducible refine and_tt ?_ ?_)
 all_goals as_aux_lemma=>kernel_rfl
