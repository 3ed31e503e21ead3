/-
  The fixed segments of the examples of chapter 11, and their encodings. No program in sight.
-/
import Derived.Test.YtmgjcjacoegocaaDoorSgPlain
import Derived.Test.YtmgjcjacoegocaaDoorSgRsame
namespace Go.Proofs.YtmgjcjacoegocaaDoor.Sg
set_option maxRecDepth 100000
open Go.RowKit Go.Proofs.YtmgjcjacoegocaaDoor.Wire

def segA : Seg := ⟨1, 2, 5, 0, true, false, false, false, 0, 100, false, [], ⟨#[]⟩⟩
def segB : Seg := ⟨1, 2, 0, 7, false, false, false, true, 0, 0, false, [(9, 12), (20, 25)], ⟨#[97, 98, 99]⟩⟩
def segZ : Seg := ⟨0, 0, 0, 0, false, false, false, false, 0, 0, false, [], ⟨#[]⟩⟩
theorem segA_ok : segA.ok := by decide +kernel
theorem segB_ok : segB.ok := by decide +kernel
theorem segZ_no : ¬ segZ.ok := by decide +kernel
theorem encA_take : (segA.enc 1 2).take 14 = [0, 1, 0, 2, 0, 0, 0, 5, 0, 0, 0, 0, 1, 0] := by decide +kernel
theorem encA_len : (segA.enc 1 2).length = 20 := by rw [enc_length]; rfl
theorem encB_len : (segB.enc 1 2).length = 39 := by rw [enc_length]; rfl
theorem short_dec (f d : Int) : ¬ decOk f d ⟨#[120]⟩ := fun h => by have := h.1; simp [ByteArray.size] at this
end Go.Proofs.YtmgjcjacoegocaaDoor.Sg
