/- LiquidationMore returns true for every input and leaves its arguments as they were, with no condition but the card's own: the listed package variables start as the program's text lays them. -/
import Derived.Test.YtfhlblclcdhbiaaGreatDoorLaw
import Derived.Test.YtfhlblclcdhbiaaGreatDoorW7
import Derived.Test.YtfhlblclcdhbiaaGreatDoorOpen2
import Derived.Test.YtfhlblclcdhbiaaGreatDoorRows
import Derived.Test.YtfhlblclcdhbiaaGreatDoorCards
import Derived.Test.YtfhlblclcdhbiaaGreatDoorTie
import Derived.ProofKit
import Derived.Lay
import Derived.LaidOnce
import Derived.SevenTiedAt
namespace Go.Proofs.YtfhlblclcdhbiaaGreatDoor
open Go Go.RowKit Go.ChangeShapes Go.WideShapes Go.ChangeAt Go.Proofs.YtfhlblclcdhbiaaGreatDoor
set_option linter.unusedVariables false
namespace Am
theorem own : ownKnob Tryz.prog.godebug = none := by kernel_rfl
theorem laidOut : laidOutB Tryz.prog = true := by kernel_rfl
abbrev liquidationMoreLaid : List (String × DataW Unit) := [("unicode/utf8.acceptRanges", Rows.laid_unicode_utf8_acceptRanges), ("unicode/utf8.first", Rows.laid_unicode_utf8_first)]
set_option maxRecDepth 100000 in
theorem liquidationMore_lifted (os : Os) (started : os.Started) (H : Type) (enc : TypeId × Value → H) :
    ReturnsInHanded {} Tryz.checked os 6 .any (fun w args => (Rows.liquidationMoreSpec.pre enc Tryz.prog Tryz.f6 [] false w args ∧ laidMetH Tryz.prog liquidationMoreLaid w) ∧ sizedMet enc Tryz.prog Tryz.f6 (OpenSpec.ofChange Rows.liquidationMoreSpec) false w args)
      (Rows.liquidationMoreSpec.post enc Tryz.prog Tryz.f6 false true false false) := by
  refine returnsInHanded_of_change_and (C := Tryz.checked) (X := fun w _ => laidMetH Tryz.prog liquidationMoreLaid w) (fun _ _ _ hh h => h.of_heap hh) own started (by kernel_rfl) Tryz.func6
    (ChangeSpec.witness_shaped (enc := enc) (C := Tryz.checked) (os := os) (X := fun w _ => laidMetH Tryz.prog liquidationMoreLaid w) false (World.laidAll Tryz.prog os liquidationMoreLaid) #[.slice none 0 0, .slice none 0 0, .int .u8 0, .int .u8 0] 8 (World.laidAll_os _ _ _)
      (World.shaped_of_ZipB (by kernel_rfl) (by kernel_rfl)) (by kernel_rfl) (by kernel_rfl) (by kernel_rfl)
      (by rw [MakeChecks.laidMetH_plain _ _ _ (by kernel_rfl)]; exact laidMet_laidAll _ (by kernel_rfl) (by kernel_rfl))) ?_
  intro W base args ds gs before hval0 hW _ _ hL _
  have hval : ∀ (j : Nat) t v, Tryz.f6.params[j]? = some t → args[j]? = some v → Value.okWide Tryz.prog W .any base t v := hval0
  have hW' := hW
  obtain ⟨p, q, hA0, hV, rfl, _, _⟩ := hW
  have hA : DataW.TrodAll enc Tryz.prog W 0 (fun _ => true) true Tryz.f6.params.toList args.toList ds p := hA0
  rw [Tryz.params6] at hA hval
  obtain ⟨v0, v1, v2, v3, d0, d1, d2, d3, p0, p1, p2, p3, rfl, rfl, rfl, t0, t1, t2, t3⟩ := trodAll_four hA
  obtain ⟨rfl, rfl⟩ := trodVars_none hV
  have hlt := hW'.lt
  obtain ⟨U0, a0, x0, A0, hU0, hl0⟩ := open22 0 (hval 0 22 v0 rfl rfl) t0
  obtain ⟨U1, a1, x1, A1, hU1, hl1⟩ := open23 1 (hval 1 23 v1 rfl rfl) t1
  obtain ⟨n2, rfl, hn2, r2⟩ := open5 (hval 2 5 v2 rfl rfl) t2
  obtain ⟨n3, rfl, hn3, r3⟩ := open5 (hval 3 5 v3 rfl rfl) t3
  obtain ⟨r0, g0⟩ := A0.at (As := [x0, x1]) rfl
  obtain ⟨r1, g1⟩ := A1.at (As := [x0, x1]) rfl
  have hok : ∀ x ∈ ([x0, x1] : List Row0), RowOk W x := by
    intro x hx
    simp only [List.mem_cons, List.not_mem_nil, or_false] at hx
    rcases hx with rfl | rfl
    · exact A0.ok
    · exact A1.ok
  have key := law_calls (f := 6) (args' := [v0, v1, .int .u8 n2, .int .u8 n3]) hok (k6 hU0 hl0 hU1 hl1 hn2 hn3 g0 g1 fun h' _ => rfl) (.cons r0 (.cons r1 (.cons (r2 _) (.cons (r3 _) .nil)))) (by kernel_rfl)
  refine Calls.mono key fun e W' ⟨he, hb⟩ => ?_
  subst he
  simp only [List.append_nil] at hW' hlt
  have s0 := Below.trod laidOut (by kernel_rfl) (of_decide_eq_true (by kernel_rfl)) t0 hb (fun x hx => hlt x (by simp [hx]))
  have s1 := Below.trod laidOut (by kernel_rfl) (of_decide_eq_true (by kernel_rfl)) t1 hb (fun x hx => hlt x (by simp [hx]))
  have s2 := Below.trod laidOut (by kernel_rfl) (of_decide_eq_true (by kernel_rfl)) t2 hb (fun x hx => hlt x (by simp [hx]))
  have s3 := Below.trod laidOut (by kernel_rfl) (of_decide_eq_true (by kernel_rfl)) t3 hb (fun x hx => hlt x (by simp [hx]))
  exact ⟨_, rfl, _, _, _, [], _, [], hW', trodAll_mk1 (shut_bool Tryz.underlying4 _), trodAll_mk4 s0 s1 s2 s3, rfl, hb.frame _, fun h => by cases h⟩
theorem liquidationMore_holds : Rows.LiquidationMoreSaid :=
  OpenClaim.holds_of_wide 6 Tryz.f6 rfl rfl rfl rfl rfl rfl rfl ⟨rfl, rfl, rfl, rfl, rfl⟩ rfl rfl rfl rfl rfl (by kernel_rfl) Tryz.func6 (by kernel_rfl)
    (of_decide_eq_true (by kernel_rfl)) (by unfold Func.isWrapper; first | (rw [if_pos (by decide +kernel)]; kernel_rfl) | (rw [if_neg (by decide +kernel)]; exact ⟨rfl, rfl⟩))
    (fun os started H enc _ => liquidationMore_lifted os started H enc)
theorem liquidationMore_card : Rows.LiquidationMoreCardSaid :=
  Claim7.holds_tied_plain_at .later [] [.data, .pinned] true (true, "282358144a85be71355ec4042cce875e25f6984de2200131c13afdb76eac9842") false liquidationMore_holds (fun _ h => by cases h) (by kernel_rfl) (fun _ h => by cases h) liquidationMore_row_tie rfl ⟨rfl, rfl⟩ (by kernel_rfl) rfl
    (fun f fn hf hfn => by
      obtain rfl : f = 6 := Option.some.inj ((show Tryz.prog.funcNamed "insolvency/insolvencylaw31.LiquidationMore" = some 6 by kernel_rfl).symm.trans hf) |>.symm
      obtain rfl : fn = Tryz.f6 := (Option.some.inj (Tryz.func6.symm.trans hfn)).symm
      exact ⟨by kernel_rfl, fun j t ht => by
        rw [Tryz.params6] at ht
        have hm : t ∈ [22, 23, 5, 5] := by simpa using Array.mem_of_getElem? ht
        have hall : ([22, 23, 5, 5].all fun u => !Tryz.prog.wantsStandIn u) = true := by kernel_rfl
        exact (show Tryz.prog.wantsStandIn t = false by simpa using List.all_eq_true.1 hall t hm)⟩)
    (by kernel_rfl)
end Am
theorem liquidationMore_card_holds : Rows.LiquidationMoreCardSaid := Am.liquidationMore_card
#print axioms liquidationMore_card_holds
end Go.Proofs.YtfhlblclcdhbiaaGreatDoor
