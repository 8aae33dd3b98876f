/- LiquidationWorse returns true for every input and leaves its arguments as they were, with no condition but the card's own: the two listed package variables start as the program's text lays them. -/
import Derived.Test.YtfhlblclcdhbiaaGreatDoorOpen2
import Derived.Test.YtfhlblclcdhbiaaGreatDoorW5
import Derived.Test.YtfhlblclcdhbiaaGreatDoorRows
import Derived.Test.YtfhlblclcdhbiaaGreatDoorCards
import Derived.Test.YtfhlblclcdhbiaaGreatDoorTie
import Derived.ProofKit
import Derived.Lay
import Derived.LaidOnce
import Derived.SevenTiedAt
namespace Go.Proofs.YtfhlblclcdhbiaaGreatDoor
open Go Go.RowKit Go.ChangeShapes Go.WideShapes Go.ChangeAt Go.Proofs.YtfhlblclcdhbiaaGreatDoor
set_option linter.unusedVariables false
namespace Am
theorem own : ownKnob Tryz.prog.godebug = none := by kernel_rfl
theorem laidOut : laidOutB Tryz.prog = true := by kernel_rfl
abbrev worseLaid : List (String × DataW Unit) := [("unicode/utf8.acceptRanges", Rows.laid_unicode_utf8_acceptRanges), ("unicode/utf8.first", Rows.laid_unicode_utf8_first)]
set_option maxRecDepth 100000 in
theorem worse_lifted (os : Os) (started : os.Started) (H : Type) (enc : TypeId × Value → H) :
    ReturnsInHanded {} Tryz.checked os 4 .any (fun w args => (Rows.liquidationWorseSpec.pre enc Tryz.prog Tryz.f4 [] false w args ∧ laidMetH Tryz.prog worseLaid w) ∧ sizedMet enc Tryz.prog Tryz.f4 (OpenSpec.ofChange Rows.liquidationWorseSpec) false w args)
      (Rows.liquidationWorseSpec.post enc Tryz.prog Tryz.f4 false true false false) := by
  refine returnsInHanded_of_change_and (C := Tryz.checked) (X := fun w _ => laidMetH Tryz.prog worseLaid w) (fun _ _ _ hh h => h.of_heap hh) own started (by kernel_rfl) Tryz.func4
    (ChangeSpec.witness_shaped (enc := enc) (C := Tryz.checked) (os := os) (X := fun w _ => laidMetH Tryz.prog worseLaid w) false (World.laidAll Tryz.prog os worseLaid) #[.slice none 0 0, .slice none 0 0, .int .u8 0, .slice none 0 0, .slice none 0 0, .agg #[.bool false, .string ⟨#[]⟩, .string ⟨#[]⟩]] 8 (World.laidAll_os _ _ _)
      (World.shaped_of_ZipB (by kernel_rfl) (by kernel_rfl)) (by kernel_rfl) (by kernel_rfl) (by kernel_rfl)
      (by rw [MakeChecks.laidMetH_plain _ _ _ (by kernel_rfl)]; exact laidMet_laidAll _ (by kernel_rfl) (by kernel_rfl))) ?_
  intro W base args ds gs before hval0 hW _ _ hL _
  have hval : ∀ (j : Nat) t v, Tryz.f4.params[j]? = some t → args[j]? = some v → Value.okWide Tryz.prog W .any base t v := hval0
  have hW' := hW
  obtain ⟨p, q, hA0, hV, rfl, _, _⟩ := hW
  have hA : DataW.TrodAll enc Tryz.prog W 0 (fun _ => true) true Tryz.f4.params.toList args.toList ds p := hA0
  rw [Tryz.params4] at hA hval
  obtain ⟨v0, v1, v2, v3, v4, v5, d0, d1, d2, d3, d4, d5, p0, p1, p2, p3, p4, p5, rfl, rfl, rfl, t0, t1, t2, t3, t4, t5⟩ := trodAll_six hA
  obtain ⟨rfl, rfl⟩ := trodVars_none hV
  have hlt := hW'.lt
  obtain ⟨U, a0, x0, A0, hU, hUl⟩ := open22 0 (hval 0 22 v0 rfl rfl) t0
  obtain ⟨T, a1, x1, A1, hT, hTl⟩ := open23 1 (hval 1 23 v1 rfl rfl) t1
  obtain ⟨n, rfl, hn, r2⟩ := open5 (hval 2 5 v2 rfl rfl) t2
  obtain ⟨l, a3, x3, A3, hl, hll⟩ := open24 2 (hval 3 24 v3 rfl rfl) t3
  obtain ⟨vs, a4, x4, A4, hs, hsl⟩ := open25 3 (hval 4 25 v4 rfl rfl) t4
  obtain ⟨r, rfl, r5⟩ := open30 (hval 5 30 v5 rfl rfl) t5
  obtain ⟨r0, g0⟩ := A0.at (As := [x0, x1, x3, x4]) rfl
  obtain ⟨r1, g1⟩ := A1.at (As := [x0, x1, x3, x4]) rfl
  obtain ⟨r3, g3⟩ := A3.at (As := [x0, x1, x3, x4]) rfl
  obtain ⟨r4, g4⟩ := A4.at (As := [x0, x1, x3, x4]) rfl
  have hok : ∀ x ∈ [x0, x1, x3, x4], RowOk W x := by
    intro x hx
    simp only [List.mem_cons, List.not_mem_nil, or_false] at hx
    rcases hx with rfl | rfl | rfl | rfl
    · exact A0.ok
    · exact A1.ok
    · exact A3.ok
    · exact A4.ok
  have key := law_calls (f := 4) (args' := [v0, v1, .int .u8 n, v3, v4, r.v]) hok (k4 hU hUl hT hTl hn hll hsl g0 g1 g3 g4 fun h' _ => rfl) (.cons r0 (.cons r1 (.cons (r2 _) (.cons r3 (.cons r4 (.cons (r5 _) .nil)))))) (by kernel_rfl)
  refine Calls.mono key fun e W' ⟨he, hb⟩ => ?_
  subst he
  simp only [List.append_nil] at hW' hlt
  have s0 := Below.trod laidOut (by kernel_rfl) (of_decide_eq_true (by kernel_rfl)) t0 hb (fun x hx => hlt x (by simp [hx]))
  have s1 := Below.trod laidOut (by kernel_rfl) (of_decide_eq_true (by kernel_rfl)) t1 hb (fun x hx => hlt x (by simp [hx]))
  have s2 := Below.trod laidOut (by kernel_rfl) (of_decide_eq_true (by kernel_rfl)) t2 hb (fun x hx => hlt x (by simp [hx]))
  have s3 := Below.trod laidOut (by kernel_rfl) (of_decide_eq_true (by kernel_rfl)) t3 hb (fun x hx => hlt x (by simp [hx]))
  have s4 := Below.trod laidOut (by kernel_rfl) (of_decide_eq_true (by kernel_rfl)) t4 hb (fun x hx => hlt x (by simp [hx]))
  have s5 := Below.trod laidOut (by kernel_rfl) (of_decide_eq_true (by kernel_rfl)) t5 hb (fun x hx => hlt x (by simp [hx]))
  exact ⟨_, rfl, _, _, _, [], _, [], hW', trodAll_mk1 (shut_bool Tryz.underlying4 _), trodAll_mk6 s0 s1 s2 s3 s4 s5, rfl, hb.frame _, fun h => by cases h⟩
theorem worse_holds : Rows.LiquidationWorseSaid :=
  OpenClaim.holds_of_wide 4 Tryz.f4 rfl rfl rfl rfl rfl rfl rfl ⟨rfl, rfl, rfl, rfl, rfl⟩ rfl rfl rfl rfl rfl (by kernel_rfl) Tryz.func4 (by kernel_rfl)
    (of_decide_eq_true (by kernel_rfl)) (by unfold Func.isWrapper; first | (rw [if_pos (by decide +kernel)]; kernel_rfl) | (rw [if_neg (by decide +kernel)]; exact ⟨rfl, rfl⟩))
    (fun os started H enc _ => worse_lifted os started H enc)
theorem worse_card : Rows.LiquidationWorseCardSaid :=
  Claim7.holds_tied_plain_at .later [] [.data, .pinned] true (true, "282358144a85be71355ec4042cce875e25f6984de2200131c13afdb76eac9842") false worse_holds (fun _ h => by cases h) (by kernel_rfl) (fun _ h => by cases h) liquidationWorse_row_tie rfl ⟨rfl, rfl⟩ (by kernel_rfl) rfl
    (fun f fn hf hfn => by
      obtain rfl : f = 4 := Option.some.inj ((show Tryz.prog.funcNamed "insolvency/insolvencylaw31.LiquidationWorse" = some 4 by kernel_rfl).symm.trans hf) |>.symm
      obtain rfl : fn = Tryz.f4 := (Option.some.inj (Tryz.func4.symm.trans hfn)).symm
      exact ⟨by kernel_rfl, fun j t ht => by
        rw [Tryz.params4] at ht
        have hm : t ∈ [22, 23, 5, 24, 25, 30] := by simpa using Array.mem_of_getElem? ht
        have hall : ([22, 23, 5, 24, 25, 30].all fun u => !Tryz.prog.wantsStandIn u) = true := by kernel_rfl
        exact (show Tryz.prog.wantsStandIn t = false by simpa using List.all_eq_true.1 hall t hm)⟩)
    (by kernel_rfl)
end Am
theorem worse_card_holds : Rows.LiquidationWorseCardSaid := Am.worse_card
#print axioms worse_card_holds
end Go.Proofs.YtfhlblclcdhbiaaGreatDoor
