/-
  Walks and plain words (texts Py6). No condition beyond those that each theorem states.
-/
import Derived.Test.YtcokjoidpnfjhaaGreatDoorA32
namespace Go.Proofs.YtcokjoidpnfjhaaGreatDoor
section
open Go.RowKit Go.Deep

set_option maxRecDepth 100000 in
set_option maxHeartbeats 12800000 in
theorem peerNil_walk (w : World) (now lo fr : Int) (htab : Tab w) : Calls Tryz.prog 3 #[.int .i64 now, .int .u32 lo, .int .i64 fr] w fun e w' => e = .returned (.bool true) ∧ Only [] w w' := by
  have KN := hide (fun W => new_fine W pA1 ⟨#[48]⟩ 0 (by unfold maxLen; show 5 ≤ _; omega) (by unfold maxLen; show 1 ≤ _; omega) cfg_a1)
  have KSR := hide (fun W => (src_new 1 1 W : Calls Tryz.prog 8 #[.int .u32 1, .int .u32 1] W _))
  have HT := hide htab
  clear htab
  go_enter Tryz.func3, Tryz.ntmps3
  go_upto_region 5 with (first
      | (go_at_call 7; refine (awake15 _ HT.out).mono ?_; rintro e wq ⟨rfl, ho⟩; have HO := hide ho; clear ho HT)
      | (go_at_call 8; refine (KSR.out _).mono ?_; rintro e wq ⟨rfl, hw2⟩; have HO := hide (show Only [] w wq from (by rw [hw2]; exact HO.out.alloc _)); clear hw2))
  rename World => wx
  go_upto_region 6 with (first
      | (go_at_call 9; refine (knock_nil _ _ _ _).mono ?_; rintro e wq ⟨rfl, ho⟩; have HO := hide (HO.out.trans ho); clear ho))
  rename World => wx
  replace HO := hide (HO.out.alloc (.cells #[.int .i64 0, .int .u32 0, .int .u32 0, .int .u64 0, .string ⟨#[]⟩, .string ⟨#[]⟩, .string ⟨#[]⟩, .string ⟨#[]⟩, .string ⟨#[]⟩, .string ⟨#[]⟩, .string ⟨#[]⟩, .string ⟨#[]⟩, .string ⟨#[]⟩] 29))
  generalize wx.alloc (.cells #[.int .i64 0, .int .u32 0, .int .u32 0, .int .u64 0, .string ⟨#[]⟩, .string ⟨#[]⟩, .string ⟨#[]⟩, .string ⟨#[]⟩, .string ⟨#[]⟩, .string ⟨#[]⟩, .string ⟨#[]⟩, .string ⟨#[]⟩, .string ⟨#[]⟩] 29) = wy at *
  go_upto_region 7 with (first
      | (go_at_call 10; refine (hear_nil _ _ _ _).mono ?_; rintro e wq ⟨rfl, ho⟩; have HO := hide (HO.out.trans ho); clear ho))
  rename World => wx
  replace HO := hide (HO.out.alloc (.cells #[.int .i64 0, .int .u32 0, .int .u32 0, .int .u64 0, .string ⟨#[]⟩, .string ⟨#[]⟩, .string ⟨#[]⟩, .string ⟨#[]⟩, .string ⟨#[]⟩, .string ⟨#[]⟩, .string ⟨#[]⟩, .string ⟨#[]⟩, .string ⟨#[]⟩] 29))
  generalize wx.alloc (.cells #[.int .i64 0, .int .u32 0, .int .u32 0, .int .u64 0, .string ⟨#[]⟩, .string ⟨#[]⟩, .string ⟨#[]⟩, .string ⟨#[]⟩, .string ⟨#[]⟩, .string ⟨#[]⟩, .string ⟨#[]⟩, .string ⟨#[]⟩, .string ⟨#[]⟩] 29) = wy at *
  go_upto_region 8 with (first
      | (go_at_call 11; refine (seal_nil _ _ _).mono ?_; rintro e wq ⟨rfl, ho⟩; have HO := hide (HO.out.trans ho); clear ho))
  rename World => wx
  replace HO := hide (HO.out.alloc (.cells #[.int .i64 0, .int .u32 0, .int .u32 0, .int .u64 0, .string ⟨#[]⟩, .string ⟨#[]⟩, .string ⟨#[]⟩, .string ⟨#[]⟩, .string ⟨#[]⟩, .string ⟨#[]⟩, .string ⟨#[]⟩, .string ⟨#[]⟩, .string ⟨#[]⟩] 29))
  generalize wx.alloc (.cells #[.int .i64 0, .int .u32 0, .int .u32 0, .int .u64 0, .string ⟨#[]⟩, .string ⟨#[]⟩, .string ⟨#[]⟩, .string ⟨#[]⟩, .string ⟨#[]⟩, .string ⟨#[]⟩, .string ⟨#[]⟩, .string ⟨#[]⟩, .string ⟨#[]⟩] 29) = wy at *
  go_upto_region 9 with (first
      | (go_at_call 12; refine (open_nil _ _ _).mono ?_; rintro e wq ⟨rfl, ho⟩; have HO := hide (HO.out.trans ho); clear ho))
  rename World => wx
  go_upto_region 10 with (first
      | (go_at_call 13; refine (ptake_nil _).mono ?_; rintro e wq ⟨rfl, ho⟩; have HO := hide (HO.out.trans ho); clear ho))
  rename World => wx
  go_upto_region 11 with (first
      | (go_at_call 14; refine (KN.out _).mono ?_; rintro e wq ⟨g, rg, gr, sl, rfl, _, ho⟩; have HO := hide (HO.out.trans ho); clear ho))
  rename World => wx
  go_upto_region 12 with (first
      | (go_at_call 9; refine (knock_nosrc _ _ _ _).mono ?_; rintro e wq ⟨rfl, ho⟩; have HO := hide (HO.out.trans ho); clear ho))
  rename World => wx
  replace HO := hide (HO.out.alloc (.cells #[.int .i64 0, .int .u32 0, .int .u32 0, .int .u64 0, .string ⟨#[]⟩, .string ⟨#[]⟩, .string ⟨#[]⟩, .string ⟨#[]⟩, .string ⟨#[]⟩, .string ⟨#[]⟩, .string ⟨#[]⟩, .string ⟨#[]⟩, .string ⟨#[]⟩] 29))
  generalize wx.alloc (.cells #[.int .i64 0, .int .u32 0, .int .u32 0, .int .u64 0, .string ⟨#[]⟩, .string ⟨#[]⟩, .string ⟨#[]⟩, .string ⟨#[]⟩, .string ⟨#[]⟩, .string ⟨#[]⟩, .string ⟨#[]⟩, .string ⟨#[]⟩, .string ⟨#[]⟩] 29) = wy at *
  clear KN KSR
  go_wp2_with (first
      | (go_at_call 10; refine (hear_nosrc _ _ _ _).mono ?_; rintro e wq ⟨rfl, ho⟩; have HO := hide ((HO.out.trans ho).alloc (.cells #[.int .i64 0, .int .u32 0, .int .u32 0, .int .u64 0, .string ⟨#[]⟩, .string ⟨#[]⟩, .string ⟨#[]⟩, .string ⟨#[]⟩, .string ⟨#[]⟩, .string ⟨#[]⟩, .string ⟨#[]⟩, .string ⟨#[]⟩, .string ⟨#[]⟩] 29)); clear ho)
      | (go_at_call 15; refine (finish_nil _ _ _ _).mono ?_; rintro e wq ⟨rfl, ho⟩; have HO := hide (HO.out.trans ho); clear ho)
      | (go_at_call 16; refine (refused_nil _ _).mono ?_; rintro e wq ⟨rfl, ho⟩; have HO := hide (HO.out.trans ho); clear ho)
      | (go_at_call 17; refine (stage_nil _ _).mono ?_; rintro e wq ⟨rfl, ho⟩; have HO := hide (HO.out.trans ho); clear ho)
      | (go_at_call 18; refine (staged_nil _).mono ?_; rintro e wq ⟨rfl, ho⟩; have HO := hide (HO.out.trans ho); clear ho)
      | (go_at_call 19; refine (due_nil _ _).mono ?_; rintro e wq ⟨rfl, ho⟩; have HO := hide (HO.out.trans ho); clear ho)
      | (go_at_call 20; refine (perase_nil _).mono ?_; rintro e wq ⟨rfl, ho⟩; have HO := hide (HO.out.trans ho); clear ho)
      | (go_at_call 21; refine (giveup_nil _).mono ?_; rintro e wq ⟨rfl, ho⟩; have HO := hide (HO.out.trans ho); clear ho)
      | (go_at_call 22; refine (knows_nil _ _).mono ?_; rintro e wq ⟨rfl, ho⟩; have HO := hide (HO.out.trans ho); clear ho)
      | (go_at_call 23; refine (tired_nil _ _ _).mono ?_; rintro e wq ⟨rfl, ho⟩; have HO := hide (HO.out.trans ho); clear ho)
      | (go_at_call 24; refine (pfresh_nil _ _).mono ?_; rintro e wq ⟨rfl, ho⟩; have HO := hide (HO.out.trans ho); clear ho)
      | (go_at_call 25; refine (public_nil _).mono ?_; rintro e wq ⟨rfl, ho⟩; have HO := hide (HO.out.trans ho); clear ho)
      | (go_at_call 26; refine (endpoint_nil _).mono ?_; rintro e wq ⟨rfl, ho⟩; have HO := hide (HO.out.trans ho); clear ho)
      | (go_at_call 27; refine (made_nil _).mono ?_; rintro e wq ⟨rfl, ho⟩; have HO := hide (HO.out.trans ho); clear ho))
  go_ret
  exact ⟨rfl, HO.out⟩
end
end Go.Proofs.YtcokjoidpnfjhaaGreatDoor
