/-
  The reference's Make of an Atom, and its source: by walking.
-/
import Derived.Test.YtjkgmkkhjpcngaaDoorRb
namespace Go.Proofs.YtjkgmkkhjpcngaaDoor
open Go.RowKit Go.Deep

def atomS (n : Nat) : ByteArray := ⟨(97 :: Lib.decDigits n).toArray⟩
theorem atomS_size (n : Nat) : (atomS n).size = 1 + (Lib.decDigits n).length := by
  show (97 :: Lib.decDigits n).toArray.size = _
  simp; omega
theorem dec_pos (n : Nat) : 0 < (Lib.decDigits n).length := List.length_pos_iff.2 (dec_ne n)
theorem atomS_t (n : Nat) (hn : n ≤ 4294967295) : AtT (atomS n) n where
  one := by rw [atomS_size]; have := dec_pos n; omega
  few := by rw [atomS_size]; have := dec_len n (by omega); omega
  head := fun h => rfl
  tail := fun i h hi => by
    obtain ⟨j, rfl⟩ : ∃ j, i = j + 1 := ⟨i - 1, by omega⟩
    have hl : j < (Lib.decDigits n).length := by rw [atomS_size] at h; omega
    have e : (atomS n)[j + 1] = (Lib.decDigits n)[j] := by
      show ((97 :: Lib.decDigits n).toArray)[j + 1]'(by simp; omega) = _
      simp
    have hd := List.all_eq_true.1 (dec_dig n) _ (List.getElem_mem hl)
    rw [e]
    unfold digB at hd
    simp only [Bool.and_eq_true, decide_eq_true_eq] at hd
    omega
  read := by
    have e : ((atomS n).extract 1 (atomS n).size).data.toList = Lib.decDigits n := by
      rw [ByteArray.data_extract]
      show ((97 :: Lib.decDigits n).toArray.extract 1 (97 :: Lib.decDigits n).toArray.size).toList = _
      simp
    rw [e]
    exact numR_dec n (by omega)
  num := hn
theorem cat_atom (n : Nat) : (⟨#[97]⟩ : ByteArray) ++ ⟨(Lib.decDigits n).toArray⟩ = atomS n := by
  apply ByteArray.ext
  rw [ByteArray.data_append]
  show #[97] ++ (Lib.decDigits n).toArray = (97 :: Lib.decDigits n).toArray
  simp
end Go.Proofs.YtjkgmkkhjpcngaaDoor
