/-
  trie.New, root and bit: by walking.
-/
import Derived.Test.YtjkgmkkhjpcngaaTr2
import Derived.Test.YtjkgmkkhjpcngaaAd4
namespace Go.Proofs.Ytjkgmkkhjpcngaa
open Go.RowKit Go.Deep

theorem i64_and1 (n : Int) : bits .and .i64 n 1 = n % 2 := by
  have h1 : (BitVec.ofInt 64 1).toNat = 2 ^ 1 - 1 := by decide
  have key : (BitVec.ofInt 64 n &&& BitVec.ofInt 64 1).toNat = (n % ((2 ^ 64 : Nat) : Int)).toNat % 2 ^ 1 := by
    rw [BitVec.toNat_and, BitVec.toNat_ofInt, h1, Nat.and_two_pow_sub_one_eq_mod]
  show IntKind.i64.wrap ((BitVec.ofInt 64 n &&& BitVec.ofInt 64 1).toNat : Nat) = n % 2
  rw [key, IntKind.wrap_i64]
  omega
theorem bit_num (c r : Nat) (hc : c < 256) : bits .and .i64 (wrap64 ((c : Int) / 2 ^ (7 - r))) 1 = ((c / 2 ^ (7 - r) % 2 : Nat) : Int) := by
  have h : (c : Int) / 2 ^ (7 - r) = ((c / 2 ^ (7 - r) : Nat) : Int) := by rw [Int.natCast_ediv, Int.natCast_pow]; rfl
  have h2 : c / 2 ^ (7 - r) ≤ c := Nat.div_le_self _ _
  rw [i64_and1, h]
  unfold wrap64
  omega
theorem tbit_any (v : Value) (l : List UInt8) (N : List Nat) (i : Nat) (w : World) (hv : Rd w N v (ints .u8 (byts l))) (hi : i < 8 * l.length) (hl : l.length ≤ 1000) :
    Calls Try.prog 40 #[v, .int .i64 i] w fun e w' => e = .returned (.int .i64 ((bitN l i : Nat) : Int)) ∧ w = w' := by
  obtain ⟨A, cap, rfl, hc, hm⟩ := hv.formb
  have hk : i / 8 < l.length := by omega
  obtain ⟨g, o, rfl, _, hg, hcell⟩ := hv.at_.2.2.2 (i / 8) _ (ints_get (byts_get (getD_some hk)))
  have hd : ((i : Int).tdiv 8) = ((i / 8 : Nat) : Int) := by rw [Int.tdiv_eq_ediv_of_nonneg (by omega)]; omega
  have hmo : ((i : Int).tmod 8) = ((i % 8 : Nat) : Int) := by rw [Int.tmod_eq_emod_of_nonneg (by omega)]; omega
  have HB := hide (show bitN l i = (l.getD (i / 8) 0).toNat / 2 ^ (7 - i % 8) % 2 from rfl)
  have hc256 := UInt8.toNat_lt (l.getD (i / 8) 0)
  generalize (l.getD (i / 8) 0).toNat = c at *
  obtain ⟨q, hq⟩ : ∃ q, q = i / 8 := ⟨_, rfl⟩
  obtain ⟨r, hr⟩ : ∃ r, r = i % 8 := ⟨_, rfl⟩
  have hr8 : r < 8 := by omega
  rw [← hr] at HB hmo
  rw [← hq] at hd hk hcell
  clear hv hq hr hi
  go_enter Try.func40, Try.ntmps40
  go_wp2
  go_ret
  refine ⟨congrArg (fun x => Ending.returned (.int .i64 x)) ?_, rfl⟩
  rw [HB.out]
  exact bit_num c r hc256

theorem root_any (T n : Nat) (s : Bool) (hs : s = !(decide (n = 4))) (w : World) : Calls Try.prog 39 #[.pointer (some ⟨T, 0, none⟩), .int .i64 n] w fun e w' => e = .returned (.pointer (some ⟨T, rootOff s, none⟩)) ∧ w = w' := by
  by_cases h : n = 4
  · have e1 : ((n : Int) == 4) = true := by rw [beq_iff_eq]; omega
    have HS := hide (show s = false by rw [hs, decide_eq_true h]; rfl)
    clear h hs
    go_enter Try.func39, Try.ntmps39
    go_wp2
    go_ret
    exact ⟨by rw [HS.out]; rfl, rfl⟩
  · have e1 : ((n : Int) == 4) = false := by rw [beq_eq_false_iff_ne]; omega
    have HS := hide (show s = true by rw [hs, decide_eq_false h]; rfl)
    clear h hs
    go_enter Try.func39, Try.ntmps39
    go_wp2
    go_ret
    exact ⟨by rw [HS.out]; rfl, rfl⟩

def noTh : Bool → List Bool → Bool := fun _ _ => false
def noOw : Bool → List Bool → Int := fun _ _ => 0
def rootAd (T : Nat) : Ads := fun s π => if π = [] then some (T, rootOff s) else none
theorem trie_fresh (w : World) (T : Nat) (t : TypeId) (h : Blk w T t #[.int .i64 0, .bool false, .pointer none, .pointer none, .int .i64 0, .bool false, .pointer none, .pointer none]) : TrIs w T [T] (rootAd T) noTh noOw := by
  refine ⟨⟨fun s => by simp [rootAd], fun s b π hs => by simp [rootAd] at hs, fun s π g o ha => ?_, fun s π s' π' g o o' h1 h2 => ?_⟩, fun g hg => ?_, fun s π g o ha => ?_, fun s π _ => ⟨rfl, rfl⟩⟩
  · unfold rootAd at ha
    split at ha
    · injection ha with ha; injection ha with e _; simp [e]
    · cases ha
  · right
    unfold rootAd at h1 h2
    split at h1
    · split at h2
      · exact ⟨by assumption, by assumption⟩
      · cases h2
    · cases h1
  · rw [List.mem_singleton.1 hg]; exact h.lt
  · unfold rootAd at ha
    split at ha
    · injection ha with ha
      injection ha with e1 e2
      subst e1 e2
      refine ⟨h.lt, fun j u hu => ?_, fun j => h.frozen _⟩
      rw [h.cell]
      rename_i hp
      subst hp
      have hk : ∀ c, rootAd T s [c] = none := fun c => by simp [rootAd]
      simp only [nodeC, kidV, noTh, noOw, hk, Option.map_none] at hu
      cases s
      · rw [← hu]
        rcases j with _ | _ | _ | _ | j
        all_goals first | rfl | (simp at hu)
      · rw [← hu]
        rcases j with _ | _ | _ | _ | j
        all_goals first | rfl | (simp at hu)
    · cases ha

theorem new_any (w : World) : Calls Try.prog 8 #[] w fun e w' => e = .returned (.pointer (some ⟨w.heap.size, 0, none⟩)) ∧ TrIs w' w.heap.size [w.heap.size] (rootAd w.heap.size) noTh noOw ∧ Only [] w w' := by
  have HT := hide (trie_fresh _ _ _ (Blk.new w 81 #[.int .i64 0, .bool false, .pointer none, .pointer none, .int .i64 0, .bool false, .pointer none, .pointer none]))
  go_enter Try.func8, Try.ntmps8
  go_wp2
  go_ret
  exact ⟨rfl, HT.out, (Only.refl [] w).alloc _⟩
end Go.Proofs.Ytjkgmkkhjpcngaa
