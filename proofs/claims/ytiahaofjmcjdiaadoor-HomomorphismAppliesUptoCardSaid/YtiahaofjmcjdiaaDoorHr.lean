/- The example of ordinallaw24.awake, in plain Lean. -/
import Derived.Test.YtiahaofjmcjdiaaDoorHq
namespace Go.Proofs.YtiahaofjmcjdiaaDoor
open Go.RowKit Go.Maps

def sx : ByteArray := ⟨#[120]⟩
def sy : ByteArray := ⟨#[121]⟩
def sz : ByteArray := ⟨#[122]⟩
def sa : ByteArray := ⟨#[97]⟩
def sb : ByteArray := ⟨#[98]⟩
def sr : ByteArray := ⟨#[114]⟩
def awX : List At := [⟨false, sr, [varT sx, varT sy]⟩, ⟨false, sr, [varT sy, varT sz]⟩]
def awY : List At := [⟨false, sr, [varT sa, varT sb]⟩, ⟨false, sr, [varT sb, varT sa]⟩, ⟨false, sr, [varT sa, varT sa]⟩]
def awM : List (ByteArray × Tm) := [(sx, varT sa), (sy, varT sa), (sz, varT sa)]
theorem aw_px : hpureB awX 0 = true := by decide +kernel
theorem aw_py : hpureB awY 0 = true := by decide +kernel
theorem aw_vars : varsT (allT awX) = [sx, sy, sz] := by decide +kernel
theorem aw_terms : distT (allT awY) = [varT sa, varT sb] := by decide +kernel
theorem aw_find : (findS awX awY []).map (fun im => pairsOf (varsT (allT awX)) im) = some awM := by decide +kernel
theorem aw_pinned : (findS awX awY [sx]).isNone = true := by decide +kernel
theorem aw_check : checkB awX awY awM = true := by decide +kernel
end Go.Proofs.YtiahaofjmcjdiaaDoor
