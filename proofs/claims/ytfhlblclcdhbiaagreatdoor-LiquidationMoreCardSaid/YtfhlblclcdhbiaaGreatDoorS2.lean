/- append. -/
import Derived.Test.YtfhlblclcdhbiaaGreatDoorK8
namespace Go.Proofs.YtfhlblclcdhbiaaGreatDoor
open Go
set_option linter.unusedVariables false
set_option linter.unusedSimpArgs false
namespace Am
section
variable {C : CT} {h : AH} {Q : Ex → Fr → AH → Prop} {K : Fr → AH → Prop} {r : List AI} {tm : List (Nat × TV)} {bx : List (Nat × List Value)}
theorem over_at {A R new : List Value} (h : new.length ≤ R.length) : over (A ++ R) A.length new = some (A ++ new ++ R.drop new.length) := by
  simp only [over]
  rw [if_pos (by simp; omega)]
  simp [List.drop_append, Nat.add_sub_cancel_left, List.append_assoc]
/-- append in place: there is room -/
theorem s_appI {d n m c c2 o o2 bytes : Nat} {s x : X} {k : IntKind} {A R new : List Int} (hs : vl (⟨tm, bx⟩ : Fr) s = some (.slice (some ⟨o, 0, none⟩) n c)) (hx : vl (⟨tm, bx⟩ : Fr) x = some (.slice (some ⟨o2, 0, none⟩) m c2))
    (hn : UA k h.ob o2 new) (hm : m = new.length) (hm0 : 0 < m) (hc : n + m ≤ c) (hb : h.bar ≤ o) (ho : UA k h.ob o (A ++ R)) (hA : A.length = n) (hR : m ≤ R.length)
    (hk : ∀ h', SetO h o (some (1, (A ++ new ++ R.drop m).map (Value.int k))) h' → WI C r K ⟨(d, .v (.slice (some ⟨o, 0, none⟩) (n + m) c)) :: tm, bx⟩ h') : WI C (⟨some d, none, .app 1 bytes s x⟩ :: r) K (⟨tm, bx⟩ : Fr) h := by
  have h1 : rd h o2 0 (m * 1) = some (new.map (Value.int k)) := by
    simp only [rd, hn]
    rw [sub_of (by simp; omega)]
    rw [List.drop_zero, List.take_of_length_le (by simp; omega)]
  have h2 : wr h o (0 + n * 1) (new.map (Value.int k)) = some { h with ob := h.ob.set o (some (1, (A ++ new ++ R.drop m).map (Value.int k))) } := by
    have := over_at (A := A.map (Value.int k)) (R := R.map (Value.int k)) (new := new.map (Value.int k)) (by simp; omega)
    simp only [List.length_map] at this
    simp only [wr, ho, if_pos hb, List.map_append, Nat.zero_add, Nat.mul_one, ← hA, this]
    simp [hm, List.map_drop]
  constructor
  simp only [wIs, wI, wO, hs, hx]
  rw [if_neg (by omega)]
  simp only [h1]
  rw [if_neg (by omega), if_pos hc]
  simp only [h2]
  exact (hk { h with ob := h.ob.set o (some (1, (A ++ new ++ R.drop m).map (Value.int k))) } ⟨rfl, rfl⟩).out
/-- a list of one's own, made by append -/
inductive OwnL {α : Type} (en : α → List Value) (sz : Nat) (h0 h : AH) : Value → List α → Prop where
  | nil : OwnL en sz h0 h (.slice none 0 0) []
  | row {o n : Nat} {l : List α} (hn : l.length = n) (h1 : 0 < n) (ho : h0.ob.length ≤ o) (hr : h.ob[o]? = some (some (sz, l.flatMap en))) : OwnL en sz h0 h (.slice (some ⟨o, 0, none⟩) n n) l
section
variable {α : Type} {en : α → List Value} {sz : Nat} {h0 : AH} {l : List α} {v : Value}
theorem flat_len (hw : ∀ a, (en a).length = sz) : ∀ l : List α, (l.flatMap en).length = l.length * sz
  | [] => by simp
  | a :: l => by rw [List.flatMap_cons, List.length_append, hw, flat_len hw l, List.length_cons, Nat.succ_mul]; omega
theorem OwnL.ts (hw : ∀ a, (en a).length = sz) (w : OwnL en sz h0 h v l) : TS en sz h.ob l v := by
  refine ⟨hw, ?_⟩
  cases w with
  | nil => exact .nil rfl rfl
  | row hn h1 ho hr =>
    subst hn
    exact .row (Nat.le_refl _) hr (by rw [flat_len hw]; omega) (by rw [List.drop_zero, List.take_of_length_le (by rw [flat_len hw]; exact Nat.le_refl _)])
theorem OwnL.ext {h' : AH} (e : Ext h h') (w : OwnL en sz h0 h v l) : OwnL en sz h0 h' v l := by
  cases w with
  | nil => exact .nil
  | row hn h1 ho hr => exact .row hn h1 ho (e.row hr)
theorem OwnL.isW (w : OwnL en sz h0 h v l) : Am.isW v = true := by cases w <;> rfl
/-- append one element: the list is made anew -/
theorem s_appG {d o2 bytes : Nat} {s x : X} {a : α} (hs : vl (⟨tm, bx⟩ : Fr) s = some v) (hx : vl (⟨tm, bx⟩ : Fr) x = some (.slice (some ⟨o2, 0, none⟩) 1 1)) (hw : ∀ a, (en a).length = sz) (hl : OwnL en sz h0 h v l) (ha : h.ob[o2]? = some (some (sz, en a))) (hz : 0 < sz)
    (e : Ext h0 h) (hb : h0.bar ≤ h0.ob.length) (hlim : (l.length + 1) * bytes ≤ 140737488355328)
    (hk : ∀ v' h', Ext h0 h' → OwnL en sz h0 h' v' (l ++ [a]) → WI C r K ⟨(d, .v v') :: tm, bx⟩ h') : WI C (⟨some d, none, .app sz bytes s x⟩ :: r) K (⟨tm, bx⟩ : Fr) h := by
  have h1 : rd h o2 0 (1 * sz) = some (en a) := by
    simp only [rd, ha]
    rw [sub_of (by rw [hw]; omega)]
    rw [List.drop_zero, List.take_of_length_le (by rw [hw]; omega)]
  have hflat : (l ++ [a]).flatMap en = l.flatMap en ++ en a := by simp
  constructor
  cases hl with
  | nil =>
    simp only [wIs, wI, wO, hs, hx, Nat.succ_ne_zero, if_false, h1]
    rw [if_neg (by simp), if_neg (by omega), if_pos (by simpa using hlim)]
    simp only [if_true]
    refine (hk _ (mkO h sz (en a)) ⟨e.bar, by simp [mkO]; have := e.len; omega, fun p hp => ?_⟩ (OwnL.row (n := 0 + 1) (by simp) (by omega) e.len (by simp [mkO]))).out
    rw [← e.old p hp]
    exact List.getElem?_append_left (by have := e.len; omega)
  | @row o n _ hn hpos ho hr =>
    have h2 : rd h o 0 (n * sz) = some (l.flatMap en) := by
      simp only [rd, hr]
      rw [sub_of (by rw [flat_len hw, hn]; omega)]
      rw [List.drop_zero, List.take_of_length_le (by rw [flat_len hw, hn]; omega)]
    simp only [wIs, wI, wO, hs, hx, Nat.succ_ne_zero, if_false, h1]
    rw [if_neg (by simp), if_neg (by omega), if_pos (by rw [← hn]; exact hlim)]
    simp only [h2, hr]
    rw [if_neg (by omega), if_pos ⟨by have := e.bar; omega, trivial⟩]
    refine (hk _ (mkO (kill h o) sz (l.flatMap en ++ en a)) ⟨e.bar, by simp [mkO, kill]; have := e.len; omega, fun p hp => ?_⟩ (OwnL.row (by simp [hn]) (by omega) e.len (by rw [hflat]; simp [mkO, kill]))).out
    rw [← e.old p hp]
    have hlp : p < h.ob.length := Nat.lt_of_lt_of_le hp e.len
    show ((h.ob.set o none) ++ [_])[p]? = _
    rw [List.getElem?_append_left (by simpa using hlp), List.getElem?_set_ne (by omega)]
end
end
end Am
end Go.Proofs.YtfhlblclcdhbiaaGreatDoor
