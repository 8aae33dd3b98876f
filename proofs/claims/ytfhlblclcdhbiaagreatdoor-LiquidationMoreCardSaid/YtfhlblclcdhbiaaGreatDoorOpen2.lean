/- THE LAWS' OTHER ARGUMENTS, OPENED. -/
import Derived.Test.YtfhlblclcdhbiaaGreatDoorLaw
namespace Go.Proofs.YtfhlblclcdhbiaaGreatDoor
open Go Go.RowKit Go.ChangeShapes
set_option linter.unusedVariables false
set_option maxRecDepth 100000
namespace Am
section
variable {P : Program} {W : World} {H : Type} {enc : TypeId × Value → H} {base : Nat} {spare : Nat → Bool} {held : Bool}
theorem trodAll_six {t0 t1 t2 t3 t4 t5 : TypeId} {args : Array Value} {ds : List (DataW H)} {ps : List MemPlace} (h : DataW.TrodAll enc P W base spare held [t0, t1, t2, t3, t4, t5] args.toList ds ps) :
    ∃ v0 v1 v2 v3 v4 v5 d0 d1 d2 d3 d4 d5 p0 p1 p2 p3 p4 p5, args = #[v0, v1, v2, v3, v4, v5] ∧ ds = [d0, d1, d2, d3, d4, d5] ∧ ps = p0 ++ (p1 ++ (p2 ++ (p3 ++ (p4 ++ p5)))) ∧ DataW.Trod enc P W base spare held t0 v0 d0 p0 ∧ DataW.Trod enc P W base spare held t1 v1 d1 p1 ∧ DataW.Trod enc P W base spare held t2 v2 d2 p2 ∧ DataW.Trod enc P W base spare held t3 v3 d3 p3 ∧ DataW.Trod enc P W base spare held t4 v4 d4 p4 ∧ DataW.Trod enc P W base spare held t5 v5 d5 p5 := by
  obtain ⟨v0, a0, d0, b0, p0, q0, hargs, rfl, rfl, h0, k0⟩ := trodAll_cons h
  obtain ⟨v1, a1, d1, b1, p1, q1, rfl, rfl, rfl, h1, k1⟩ := trodAll_cons k0
  obtain ⟨v2, a2, d2, b2, p2, q2, rfl, rfl, rfl, h2, k2⟩ := trodAll_cons k1
  obtain ⟨v3, a3, d3, b3, p3, q3, rfl, rfl, rfl, h3, k3⟩ := trodAll_cons k2
  obtain ⟨v4, a4, d4, b4, p4, q4, rfl, rfl, rfl, h4, k4⟩ := trodAll_cons k3
  obtain ⟨v5, a5, d5, b5, p5, q5, rfl, rfl, rfl, h5, k5⟩ := trodAll_cons k4
  obtain ⟨rfl, rfl, rfl⟩ := trodAll_nil k5
  exact ⟨v0, v1, v2, v3, v4, v5, d0, d1, d2, d3, d4, d5, p0, p1, p2, p3, p4, p5, by cases args; simp_all, rfl, by simp, h0, h1, h2, h3, h4, h5⟩
theorem trodAll_mk6 {t0 t1 t2 t3 t4 t5 : TypeId} {v0 v1 v2 v3 v4 v5 : Value} {d0 d1 d2 d3 d4 d5 : DataW H} {p0 p1 p2 p3 p4 p5 : List MemPlace} (h0 : DataW.Trod enc P W base spare held t0 v0 d0 p0) (h1 : DataW.Trod enc P W base spare held t1 v1 d1 p1) (h2 : DataW.Trod enc P W base spare held t2 v2 d2 p2) (h3 : DataW.Trod enc P W base spare held t3 v3 d3 p3) (h4 : DataW.Trod enc P W base spare held t4 v4 d4 p4) (h5 : DataW.Trod enc P W base spare held t5 v5 d5 p5) :
    DataW.TrodAll enc P W base spare held [t0, t1, t2, t3, t4, t5] [v0, v1, v2, v3, v4, v5] [d0, d1, d2, d3, d4, d5] (p0 ++ (p1 ++ (p2 ++ (p3 ++ (p4 ++ p5))))) := ⟨p0, _, h0, ⟨p1, _, h1, ⟨p2, _, h2, trodAll_mk3 h3 h4 h5, rfl⟩, rfl⟩, rfl⟩
end
section
variable {W : World} {H : Type} {enc : TypeId × Value → H} {u : Value} {d : DataW H} {ps : List MemPlace} {base : Nat}
theorem open30 (hval : Value.okWide Tryz.prog W .any base 30 u) (h : DataW.Trod enc Tryz.prog W 0 (fun _ => true) true 30 u d ps) : ∃ t : Tri, u = t.v ∧ ∀ β, VR β t.v u := by
  obtain ⟨fuel, hf⟩ := h
  obtain ⟨cs, rfl, _⟩ := WideShapes.okWide_struct Tryz.underlying30 hval
  obtain ⟨t, ht⟩ := el_tri hf
  have hc : cs.toList = t.cs := ht
  have e : Value.agg cs = t.v := by
    have : cs = t.cs.toArray := by rw [← hc]
    rw [this]; rfl
  refine ⟨t, e, fun β => ?_⟩
  rw [e]
  have : t.v = .agg t.cs.toArray := rfl
  rw [this]
  refine .w (.agg ?_)
  exact .cons (.base (.bool _)) (.cons (.base (.string _)) (.cons (.base (.string _)) .nil))
theorem open5 (hval : Value.okWide Tryz.prog W .any base 5 u) (h : DataW.Trod enc Tryz.prog W 0 (fun _ => true) true 5 u d ps) : ∃ n : Int, u = .int .u8 n ∧ (0 ≤ n ∧ n < 256) ∧ ∀ β, VR β u u := by
  obtain ⟨fuel, hf⟩ := h
  obtain ⟨n, rfl⟩ := WideShapes.okWide_int Tryz.underlying5 hval
  obtain ⟨m, e, _, hw⟩ := DataW.trod_int Tryz.underlying5 hf
  have e2 : n = m := by simpa [Value.cells] using e
  subst e2
  refine ⟨n, rfl, ?_, fun β => VR.base (.int _ _)⟩
  simp [Lit.wf, IntKind.min, IntKind.max, IntKind.signed, IntKind.bits] at hw
  omega
theorem open47 (hval : Value.okWide Tryz.prog W .any base 47 u) (h : DataW.Trod enc Tryz.prog W 0 (fun _ => true) true 47 u d ps) : ∃ n : Int, u = .int .u16 n ∧ (0 ≤ n ∧ n < 65536) ∧ ∀ β, VR β u u := by
  obtain ⟨fuel, hf⟩ := h
  obtain ⟨n, rfl⟩ := WideShapes.okWide_int Tryz.underlying47 hval
  obtain ⟨m, e, _, hw⟩ := DataW.trod_int Tryz.underlying47 hf
  have e2 : n = m := by simpa [Value.cells] using e
  subst e2
  exact ⟨n, rfl, b47 hw, fun β => VR.base (.int _ _)⟩
end
end Am
end Go.Proofs.YtfhlblclcdhbiaaGreatDoor
