/-
  SearchFlags: the row, the card.
-/
import Derived.Test.YtnnclgadfbaldaaGreatDoorAvE
import Derived.Test.YtnnclgadfbaldaaGreatDoorAvFlagsRun
import Derived.Test.YtnnclgadfbaldaaGreatDoorTie
import Derived.Test.YtnnclgadfbaldaaGreatDoorCards
import Derived.SevenTiedAt
namespace Go.Proofs.YtnnclgadfbaldaaGreatDoor
open Go Go.Av Go.RowKit Go.Proofs

theorem own : ownKnob Tryz.prog.godebug = none := by kernel_rfl

set_option maxRecDepth 100000 in
theorem flags_lifted (os : Os) (started : os.Started) (H : Type) (enc : TypeId × Value → H) :
    ReturnsInHanded {} Tryz.checked os 6 .any (fun w args => (Rows.searchFlagsSpec.pre enc Tryz.prog Tryz.f6 [] false w args ∧ laidMetH Tryz.prog laid3 w) ∧ sizedMet enc Tryz.prog Tryz.f6 (OpenSpec.ofChange Rows.searchFlagsSpec) false w args)
      (Rows.searchFlagsSpec.post enc Tryz.prog Tryz.f6 false true false false) :=
  law_lifted (C := Tryz.checked) (T := (· ∈ tyL)) own started (by kernel_rfl) Tryz.func6
    (ChangeSpec.witness_shaped (enc := enc) (C := Tryz.checked) (os := os) (X := fun w _ => laidMetH Tryz.prog laid3 w) false (World.laidAll Tryz.prog os laid3) #[.int .u8 0, .int .u8 0] 8 (World.laidAll_os _ _ _)
      (World.shaped_of_ZipB (by kernel_rfl) (by kernel_rfl)) (by kernel_rfl) (by kernel_rfl) (by kernel_rfl)
      (by rw [MakeChecks.laidMetH_plain _ _ _ (by kernel_rfl)]; exact laidMet_laidAll _ (by kernel_rfl) (by kernel_rfl)))
    rfl (fun ds hl => by
      rw [Tryz.params6] at hl
      match ds, hl with
      | [d1, d2], _ => rfl) (tb := 4) (by kernel_rfl) Tryz.underlying4 (closed_kids tyL_closed) (fun h1 h2 => closed_size tyL_closed h1 h2) (fun h1 => closed_plain tyL_closed h1)
    (fun t ht => by
      rw [Tryz.params6] at ht
      have hm : t = 5 := by simpa using ht
      subst hm
      exact List.contains_iff_mem.1 (by kernel_rfl))
    (fun W hsh hL => by
      obtain ⟨m, hm⟩ := glob_all W hsh hL
      refine ⟨GM m, _, hm, law_cf m 100, fun l has => ?_⟩
      rw [Tryz.params6] at has
      obtain ⟨a, b, rfl, ha, hb⟩ := typed_two has
      obtain ⟨k, rfl, hk⟩ := typed_int Tryz.underlying5 ha
      obtain ⟨f, rfl, hf⟩ := typed_int Tryz.underlying5 hb
      have hk' : 0 ≤ k ∧ k ≤ 255 := by simpa [Lit.wf, IntKind.min, IntKind.max, IntKind.signed, IntKind.bits] using hk
      have hf' : 0 ≤ f ∧ f ≤ 255 := by simpa [Lit.wf, IntKind.min, IntKind.max, IntKind.signed, IntKind.bits] using hf
      exact flags_run m k f hk' hf')

theorem flags_over : Rows.searchFlagsRow.holds Tryz.pinned (OpenSpec.ofChange Rows.searchFlagsSpec) :=
  OpenClaim.holds_of_wide 6 Tryz.f6 rfl rfl rfl rfl rfl rfl rfl ⟨rfl, rfl, rfl, rfl, rfl⟩ rfl rfl rfl rfl rfl (by kernel_rfl) Tryz.func6 (by kernel_rfl)
    (of_decide_eq_true (by kernel_rfl)) (by unfold Func.isWrapper; first | (rw [if_pos (by decide +kernel)]; kernel_rfl) | (rw [if_neg (by decide +kernel)]; exact ⟨rfl, rfl⟩))
    (fun os started H enc _ => flags_lifted os started H enc)

theorem searchFlags_card : Rows.SearchFlagsCardSaid :=
  Claim7.holds_tied_plain_at .later [] [.data, .data, .pinned] true (true, "68493c405a9e54b2666253a8a438c8a8ece11ca9fd122a08f76cebb9055abbf4") false flags_over (fun _ h => by cases h) (by kernel_rfl) (fun _ h => by cases h) searchFlags_row_tie rfl ⟨rfl, rfl⟩ (by kernel_rfl) rfl
    (fun f fn hf hfn => by
      obtain rfl : f = 6 := Option.some.inj ((show Tryz.prog.funcNamed "letterbox/letterboxlaw23.SearchFlags" = some 6 by kernel_rfl).symm.trans hf) |>.symm
      obtain rfl : fn = Tryz.f6 := (Option.some.inj (Tryz.func6.symm.trans hfn)).symm
      exact ⟨by kernel_rfl, fun j t ht => by
        rw [Tryz.params6] at ht
        have hm : t ∈ [5, 5] := by simpa using Array.mem_of_getElem? ht
        have hall : ([5, 5].all fun u => !Tryz.prog.wantsStandIn u) = true := by kernel_rfl
        exact (show Tryz.prog.wantsStandIn t = false by simpa using List.all_eq_true.1 hall t hm)⟩)
    (by kernel_rfl)
#print axioms searchFlags_card
end Go.Proofs.YtnnclgadfbaldaaGreatDoor
