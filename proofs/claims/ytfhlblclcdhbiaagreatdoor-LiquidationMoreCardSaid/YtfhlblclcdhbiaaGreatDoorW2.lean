/- Who is worse off. -/
import Derived.Test.YtfhlblclcdhbiaaGreatDoorW1
namespace Go.Proofs.YtfhlblclcdhbiaaGreatDoor
open Go
set_option linter.unusedVariables false
set_option linter.unusedSimpArgs false
namespace Am
theorem cmpq_gt {p q : Rat} : cmpq p q > 0 ↔ q < p := by
  unfold cmpq
  constructor
  · intro h
    split at h
    · omega
    · split at h
      · assumption
      · omega
  · intro h
    rw [if_neg (Rat.not_lt.mpr (Rat.le_of_lt h)), if_pos h]
    omega
theorem sgn_pos {q : Rat} : sgn q > 0 ↔ 0 < q := by
  have h1 : sgn q < 0 ↔ q < 0 := sgn_neg
  have h2 : sgn q = 0 ↔ q = 0 := sgn_zero
  constructor
  · intro h
    refine Rat.not_le.mp fun hle => ?_
    have n1 : ¬ q < 0 := fun hh => by have := h1.mpr hh; omega
    have := h2.mpr (Rat.le_antisymm hle (Rat.not_lt.mp n1))
    omega
  · intro h
    have n1 : ¬ q < 0 := Rat.not_lt.mpr (Rat.le_of_lt h)
    have n2 : ¬ q = 0 := fun e => by rw [e] at h; exact Rat.lt_irrefl h
    have m1 : ¬ sgn q < 0 := fun hh => n1 (h1.mp hh)
    have m2 : ¬ sgn q = 0 := fun hh => n2 (h2.mp hh)
    omega
theorem sub_pos {p q : Rat} : 0 < p - q ↔ q < p := by
  constructor
  · intro h
    have := Rat.add_lt_add_right (c := q) |>.mpr h
    rwa [Rat.zero_add, Rat.sub_add_cancel] at this
  · intro h
    have := Rat.add_lt_add_right (c := -q) |>.mpr h
    rwa [Rat.add_neg_cancel, ← Rat.sub_eq_add_neg] at this
theorem ssub_gt {p q : Rat} : sgn (p - q) > 0 ↔ q < p := sgn_pos.trans sub_pos
/-- a rate from 0 to 1 -/
def inR (r : Tri) : Prop := 0 ≤ r.q ∧ r.q ≤ 1
/-- worse off -/
def wor (x : Vt) (t r : Tri) : Prop := r.q < x.ask.q ∧ x.am.q * r.q < t.q
section
variable {B0 : Nat} {Q : Value → AH → Prop} {h : AH}
theorem le1 {K : Nat} (hK : 0 < K) : (triT ((1 : Int) : Rat)).Le K := triT_le (Bd.int hK (by have := Nat.one_lt_pow (a := 256) (n := K) (by omega) (by decide); simpa using this))
theorem k41 {r : Tri} (hr : r.Le 68719476736) (hq : ∀ (b : Bool) h', Ext h h' → (b = true ↔ inR r) → Q (.bool b) h') : YC Tryz.prog B0 41 [r.v] Q h := by
  refine enterF mix Tryz.func41 ok41 rfl (tm := [(0, _)]) (bx := [_]) rfl rfl fun hp => ?_
  repeat' first | (with_reducible first | exact SetAt.z | apply SetAt.s | apply s_end | exact Kept.nil) | refine qq (hk := ?_) | ((with_reducible first | apply Kept.cons | apply q_blky); rfl) | ((with_reducible apply Kept.skip); rfl) | refine wq (hk := ?_) | (apply c_condP; rfl; exact bpx; all_goals intro hc) | ((first | apply s_gTP | apply s_gFP); rfl; exact bpx; all_goals intro hg) | (apply s_lalloc; rfl) | ((first | apply s_lbox | apply s_lstoreR); rfl; rfl; rfl) | (apply s_lstore; rfl; rfl; rfl; rfl; rfl) | (apply s_callB (hm := YC.m _ _); rfl; intro h3 o3 b3)
  refine k60' (t := r) hr fun h1 e1 => ?_
  intro h2 o2 b2
  have hn := sgn_neg (q := r.q)
  by_cases h0 : r.q < 0
  · have hs := hn.mpr h0
    repeat' first | (with_reducible first | exact SetAt.z | apply SetAt.s | apply s_end | exact Kept.nil) | refine qq (hk := ?_) | ((with_reducible first | apply Kept.cons | apply q_blky); rfl) | ((with_reducible apply Kept.skip); rfl) | refine wq (hk := ?_) | (apply c_condP; rfl; exact bpx; all_goals intro hc) | ((first | apply s_gTP | apply s_gFP); rfl; exact bpx; all_goals intro hg) | (apply s_lalloc; rfl) | ((first | apply s_lbox | apply s_lstoreR); rfl; rfl; rfl) | (apply s_lstore; rfl; rfl; rfl; rfl; rfl) | (apply s_callB (hm := YC.m _ _); rfl; intro h3 o3 b3)
    exact hq _ _ exty (by simp only [Bool.false_eq_true, false_iff, inR]; exact fun hh => absurd h0 (Rat.not_lt.mpr hh.1))
  · have hs : ¬ sgn r.q < 0 := fun hh => h0 (hn.mp hh)
    repeat' first | (with_reducible first | exact SetAt.z | apply SetAt.s | apply s_end | exact Kept.nil) | refine qq (hk := ?_) | ((with_reducible first | apply Kept.cons | apply q_blky); rfl) | ((with_reducible apply Kept.skip); rfl) | refine wq (hk := ?_) | (apply c_condP; rfl; exact bpx; all_goals intro hc) | ((first | apply s_gTP | apply s_gFP); rfl; exact bpx; all_goals intro hg) | (apply s_lalloc; rfl) | ((first | apply s_lbox | apply s_lstoreR); rfl; rfl; rfl) | (apply s_lstore; rfl; rfl; rfl; rfl; rfl) | (apply s_callB (hm := YC.m _ _); rfl; intro h3 o3 b3)
    refine k32 (by omega) fun h4 e4 => ?_
    intro h5 o5 b5
    repeat' first | (with_reducible first | exact SetAt.z | apply SetAt.s | apply s_end | exact Kept.nil) | refine qq (hk := ?_) | ((with_reducible first | apply Kept.cons | apply q_blky); rfl) | ((with_reducible apply Kept.skip); rfl) | refine wq (hk := ?_) | (apply c_condP; rfl; exact bpx; all_goals intro hc) | ((first | apply s_gTP | apply s_gFP); rfl; exact bpx; all_goals intro hg) | (apply s_lalloc; rfl) | ((first | apply s_lbox | apply s_lstoreR); rfl; rfl; rfl) | (apply s_lstore; rfl; rfl; rfl; rfl; rfl) | (apply s_callB (hm := YC.m _ _); rfl; intro h3 o3 b3)
    refine k64' (s := r) (t := triT ((1 : Int) : Rat)) hr (le1 (by omega)) fun h6 e6 => ?_
    intro h7 o7 b7
    repeat' first | (with_reducible first | exact SetAt.z | apply SetAt.s | apply s_end | exact Kept.nil) | refine qq (hk := ?_) | ((with_reducible first | apply Kept.cons | apply q_blky); rfl) | ((with_reducible apply Kept.skip); rfl) | refine wq (hk := ?_) | (apply c_condP; rfl; exact bpx; all_goals intro hc) | ((first | apply s_gTP | apply s_gFP); rfl; exact bpx; all_goals intro hg) | (apply s_lalloc; rfl) | ((first | apply s_lbox | apply s_lstoreR); rfl; rfl; rfl) | (apply s_lstore; rfl; rfl; rfl; rfl; rfl) | (apply s_callB (hm := YC.m _ _); rfl; intro h3 o3 b3)
    refine hq _ _ exty ?_
    have h2 := cmpq_gt (p := r.q) (q := 1)
    rw [triT_q, int_one, decide_eq_true_eq]
    constructor
    · intro hh
      exact ⟨Rat.not_lt.mp h0, Rat.not_lt.mp fun h3 => by have := h2.mpr h3; omega⟩
    · intro hh
      have : ¬ cmpq r.q 1 > 0 := fun h3 => absurd (h2.mp h3) (Rat.not_lt.mpr hh.2)
      omega
theorem k44 {r : Tri} {K : Nat} (hK0 : 0 < K) (hK : K ≤ 34359738368) (hr : r.Le K) (hq : ∀ (b : Bool) h', Ext h h' → (b = true ↔ inR r) → Q (.bool b) h') : YC Tryz.prog B0 44 [r.v] Q h := by
  refine enterF mix Tryz.func44 ok44 rfl (tm := [(0, _)]) (bx := [_]) rfl rfl fun hp => ?_
  repeat' first | (with_reducible first | exact SetAt.z | apply SetAt.s | apply s_end | exact Kept.nil) | refine qq (hk := ?_) | ((with_reducible first | apply Kept.cons | apply q_blky); rfl) | ((with_reducible apply Kept.skip); rfl) | refine wq (hk := ?_) | (apply c_condP; rfl; exact bpx; all_goals intro hc) | ((first | apply s_gTP | apply s_gFP); rfl; exact bpx; all_goals intro hg) | (apply s_lalloc; rfl) | ((first | apply s_lbox | apply s_lstoreR); rfl; rfl; rfl) | (apply s_lstore; rfl; rfl; rfl; rfl; rfl) | (apply s_callB (hm := YC.m _ _); rfl; intro h3 o3 b3)
  refine k38' (t := r) (hr.mono (by omega)) fun h1 e1 => ?_
  intro h2 o2 b2
  have hn := sgn_neg (q := r.q)
  by_cases h0 : r.q < 0
  · have hs := hn.mpr h0
    repeat' first | (with_reducible first | exact SetAt.z | apply SetAt.s | apply s_end | exact Kept.nil) | refine qq (hk := ?_) | ((with_reducible first | apply Kept.cons | apply q_blky); rfl) | ((with_reducible apply Kept.skip); rfl) | refine wq (hk := ?_) | (apply c_condP; rfl; exact bpx; all_goals intro hc) | ((first | apply s_gTP | apply s_gFP); rfl; exact bpx; all_goals intro hg) | (apply s_lalloc; rfl) | ((first | apply s_lbox | apply s_lstoreR); rfl; rfl; rfl) | (apply s_lstore; rfl; rfl; rfl; rfl; rfl) | (apply s_callB (hm := YC.m _ _); rfl; intro h3 o3 b3)
    exact hq _ _ exty (by simp only [Bool.false_eq_true, false_iff, inR]; exact fun hh => absurd h0 (Rat.not_lt.mpr hh.1))
  · have hs : ¬ sgn r.q < 0 := fun hh => h0 (hn.mp hh)
    repeat' first | (with_reducible first | exact SetAt.z | apply SetAt.s | apply s_end | exact Kept.nil) | refine qq (hk := ?_) | ((with_reducible first | apply Kept.cons | apply q_blky); rfl) | ((with_reducible apply Kept.skip); rfl) | refine wq (hk := ?_) | (apply c_condP; rfl; exact bpx; all_goals intro hc) | ((first | apply s_gTP | apply s_gFP); rfl; exact bpx; all_goals intro hg) | (apply s_lalloc; rfl) | ((first | apply s_lbox | apply s_lstoreR); rfl; rfl; rfl) | (apply s_lstore; rfl; rfl; rfl; rfl; rfl) | (apply s_callB (hm := YC.m _ _); rfl; intro h3 o3 b3)
    refine k40' ?_
    intro h5 o5 b5
    repeat' first | (with_reducible first | exact SetAt.z | apply SetAt.s | apply s_end | exact Kept.nil) | refine qq (hk := ?_) | ((with_reducible first | apply Kept.cons | apply q_blky); rfl) | ((with_reducible apply Kept.skip); rfl) | refine wq (hk := ?_) | (apply c_condP; rfl; exact bpx; all_goals intro hc) | ((first | apply s_gTP | apply s_gFP); rfl; exact bpx; all_goals intro hg) | (apply s_lalloc; rfl) | ((first | apply s_lbox | apply s_lstoreR); rfl; rfl; rfl) | (apply s_lstore; rfl; rfl; rfl; rfl; rfl) | (apply s_callB (hm := YC.m _ _); rfl; intro h3 o3 b3)
    refine k20 (s := r) (t := triT 1) (K := K) hK0 hK hr (le1 hK0) fun h6 e6 => ?_
    intro h7 o7 b7
    repeat' first | (with_reducible first | exact SetAt.z | apply SetAt.s | apply s_end | exact Kept.nil) | refine qq (hk := ?_) | ((with_reducible first | apply Kept.cons | apply q_blky); rfl) | ((with_reducible apply Kept.skip); rfl) | refine wq (hk := ?_) | (apply c_condP; rfl; exact bpx; all_goals intro hc) | ((first | apply s_gTP | apply s_gFP); rfl; exact bpx; all_goals intro hg) | (apply s_lalloc; rfl) | ((first | apply s_lbox | apply s_lstoreR); rfl; rfl; rfl) | (apply s_lstore; rfl; rfl; rfl; rfl; rfl) | (apply s_callB (hm := YC.m _ _); rfl; intro h3 o3 b3)
    refine hq _ _ exty ?_
    have h2 := ssub_gt (p := r.q) (q := 1)
    rw [triT_q, decide_eq_true_eq]
    constructor
    · intro hh
      exact ⟨Rat.not_lt.mp h0, Rat.not_lt.mp fun h3 => by have := h2.mpr h3; omega⟩
    · intro hh
      have : ¬ sgn (r.q - 1) > 0 := fun h3 => absurd (h2.mp h3) (Rat.not_lt.mpr hh.2)
      omega
theorem k42 {x : Vt} {t r : Tri} (hx : x.Le 24) (ht : t.Le 24) (hr : r.Le 24) (hq : ∀ (b : Bool) h', Ext h h' → (b = true ↔ wor x t r) → Q (.bool b) h') : YC Tryz.prog B0 42 [x.v, t.v, r.v] Q h := by
  refine enterF mix Tryz.func42 ok42 rfl (tm := [(0, _), (1, _), (2, _)]) (bx := [_, _, _]) rfl rfl fun hp => ?_
  obtain ⟨x1, x2⟩ := hx
  repeat' first | (with_reducible first | exact SetAt.z | apply SetAt.s | apply s_end | exact Kept.nil) | refine qq (hk := ?_) | ((with_reducible first | apply Kept.cons | apply q_blky); rfl) | ((with_reducible apply Kept.skip); rfl) | (apply s_q; rfl; (first | ((with_reducible apply q_llAm (y := x)); rfl; rfl) | ((with_reducible apply q_llAsk (y := x)); rfl; rfl))) | refine wq (hk := ?_) | (apply c_condP; rfl; exact bpx; all_goals intro hc) | ((first | apply s_gTP | apply s_gFP); rfl; exact bpx; all_goals intro hg) | (apply s_lalloc; rfl) | ((first | apply s_lbox | apply s_lstoreR); rfl; rfl; rfl) | (apply s_lstore; rfl; rfl; rfl; rfl; rfl) | (apply s_callB (hm := YC.m _ _); rfl; intro h3 o3 b3)
  refine k64' (s := x.ask) (t := r) (x2.mono (by omega)) (hr.mono (by omega)) fun h1 e1 => ?_
  intro h2 o2 b2
  have hc1 := cmpq_gt (p := x.ask.q) (q := r.q)
  by_cases h0 : r.q < x.ask.q
  · have hs := hc1.mpr h0
    repeat' first | (with_reducible first | exact SetAt.z | apply SetAt.s | apply s_end | exact Kept.nil) | refine qq (hk := ?_) | ((with_reducible first | apply Kept.cons | apply q_blky); rfl) | ((with_reducible apply Kept.skip); rfl) | (apply s_q; rfl; (first | ((with_reducible apply q_llAm (y := x)); rfl; rfl) | ((with_reducible apply q_llAsk (y := x)); rfl; rfl))) | refine wq (hk := ?_) | (apply c_condP; rfl; exact bpx; all_goals intro hc) | ((first | apply s_gTP | apply s_gFP); rfl; exact bpx; all_goals intro hg) | (apply s_lalloc; rfl) | ((first | apply s_lbox | apply s_lstoreR); rfl; rfl; rfl) | (apply s_lstore; rfl; rfl; rfl; rfl; rfl) | (apply s_callB (hm := YC.m _ _); rfl; intro h3 o3 b3)
    refine k53 (s := x.am) (t := r) (x1.mono (by omega)) (hr.mono (by omega)) fun h4 e4 => ?_
    intro h5 o5 b5
    repeat' first | (with_reducible first | exact SetAt.z | apply SetAt.s | apply s_end | exact Kept.nil) | refine qq (hk := ?_) | ((with_reducible first | apply Kept.cons | apply q_blky); rfl) | ((with_reducible apply Kept.skip); rfl) | refine wq (hk := ?_) | (apply c_condP; rfl; exact bpx; all_goals intro hc) | ((first | apply s_gTP | apply s_gFP); rfl; exact bpx; all_goals intro hg) | (apply s_lalloc; rfl) | ((first | apply s_lbox | apply s_lstoreR); rfl; rfl; rfl) | (apply s_lstore; rfl; rfl; rfl; rfl; rfl) | (apply s_callB (hm := YC.m _ _); rfl; intro h3 o3 b3)
    have hb : Bd 48 (x.am.q * r.q) := (x1.bd (by omega)).mul (hr.bd (by omega))
    refine k64' (s := t) (t := triT (x.am.q * r.q)) (ht.mono (by omega)) (Tri.Le.mono (triT_le hb) (by omega)) fun h6 e6 => ?_
    intro h7 o7 b7
    repeat' first | (with_reducible first | exact SetAt.z | apply SetAt.s | apply s_end | exact Kept.nil) | refine qq (hk := ?_) | ((with_reducible first | apply Kept.cons | apply q_blky); rfl) | ((with_reducible apply Kept.skip); rfl) | refine wq (hk := ?_) | (apply c_condP; rfl; exact bpx; all_goals intro hc) | ((first | apply s_gTP | apply s_gFP); rfl; exact bpx; all_goals intro hg) | (apply s_lalloc; rfl) | ((first | apply s_lbox | apply s_lstoreR); rfl; rfl; rfl) | (apply s_lstore; rfl; rfl; rfl; rfl; rfl) | (apply s_callB (hm := YC.m _ _); rfl; intro h3 o3 b3)
    refine hq _ _ exty ?_
    rw [triT_q, decide_eq_true_eq, cmpq_gt]
    exact ⟨fun hh => ⟨h0, hh⟩, fun hh => hh.2⟩
  · have hs : ¬ cmpq x.ask.q r.q > 0 := fun hh => h0 (hc1.mp hh)
    repeat' first | (with_reducible first | exact SetAt.z | apply SetAt.s | apply s_end | exact Kept.nil) | refine qq (hk := ?_) | ((with_reducible first | apply Kept.cons | apply q_blky); rfl) | ((with_reducible apply Kept.skip); rfl) | refine wq (hk := ?_) | (apply c_condP; rfl; exact bpx; all_goals intro hc) | ((first | apply s_gTP | apply s_gFP); rfl; exact bpx; all_goals intro hg) | (apply s_lalloc; rfl) | ((first | apply s_lbox | apply s_lstoreR); rfl; rfl; rfl) | (apply s_lstore; rfl; rfl; rfl; rfl; rfl) | (apply s_callB (hm := YC.m _ _); rfl; intro h3 o3 b3)
    exact hq _ _ exty (by simp only [Bool.false_eq_true, false_iff]; exact fun hh => h0 hh.1)
theorem k45 {x : Vt} {t r : Tri} (hx : x.Le 24) (ht : t.Le 24) (hr : r.Le 24) (hq : ∀ (b : Bool) h', Ext h h' → (b = true ↔ wor x t r) → Q (.bool b) h') : YC Tryz.prog B0 45 [x.v, t.v, r.v] Q h := by
  refine enterF mix Tryz.func45 ok45 rfl (tm := [(0, _), (1, _), (2, _)]) (bx := [_, _, _]) rfl rfl fun hp => ?_
  obtain ⟨x1, x2⟩ := hx
  repeat' first | (with_reducible first | exact SetAt.z | apply SetAt.s | apply s_end | exact Kept.nil) | refine qq (hk := ?_) | ((with_reducible first | apply Kept.cons | apply q_blky); rfl) | ((with_reducible apply Kept.skip); rfl) | (apply s_q; rfl; (first | ((with_reducible apply q_llAm (y := x)); rfl; rfl) | ((with_reducible apply q_llAsk (y := x)); rfl; rfl))) | refine wq (hk := ?_) | (apply c_condP; rfl; exact bpx; all_goals intro hc) | ((first | apply s_gTP | apply s_gFP); rfl; exact bpx; all_goals intro hg) | (apply s_lalloc; rfl) | ((first | apply s_lbox | apply s_lstoreR); rfl; rfl; rfl) | (apply s_lstore; rfl; rfl; rfl; rfl; rfl) | (apply s_callB (hm := YC.m _ _); rfl; intro h3 o3 b3)
  refine k20 (s := x.ask) (t := r) (K := 24) (by omega) (by omega) x2 hr fun h1 e1 => ?_
  intro h2 o2 b2
  have hc1 := ssub_gt (p := x.ask.q) (q := r.q)
  by_cases h0 : r.q < x.ask.q
  · have hs := hc1.mpr h0
    repeat' first | (with_reducible first | exact SetAt.z | apply SetAt.s | apply s_end | exact Kept.nil) | refine qq (hk := ?_) | ((with_reducible first | apply Kept.cons | apply q_blky); rfl) | ((with_reducible apply Kept.skip); rfl) | (apply s_q; rfl; (first | ((with_reducible apply q_llAm (y := x)); rfl; rfl) | ((with_reducible apply q_llAsk (y := x)); rfl; rfl))) | refine wq (hk := ?_) | (apply c_condP; rfl; exact bpx; all_goals intro hc) | ((first | apply s_gTP | apply s_gFP); rfl; exact bpx; all_goals intro hg) | (apply s_lalloc; rfl) | ((first | apply s_lbox | apply s_lstoreR); rfl; rfl; rfl) | (apply s_lstore; rfl; rfl; rfl; rfl; rfl) | (apply s_callB (hm := YC.m _ _); rfl; intro h3 o3 b3)
    refine k56 (s := x.am) (t := r) (K := 24) (by omega) (by omega) x1 hr fun h4 e4 => ?_
    intro h5 o5 b5
    repeat' first | (with_reducible first | exact SetAt.z | apply SetAt.s | apply s_end | exact Kept.nil) | refine qq (hk := ?_) | ((with_reducible first | apply Kept.cons | apply q_blky); rfl) | ((with_reducible apply Kept.skip); rfl) | refine wq (hk := ?_) | (apply c_condP; rfl; exact bpx; all_goals intro hc) | ((first | apply s_gTP | apply s_gFP); rfl; exact bpx; all_goals intro hg) | (apply s_lalloc; rfl) | ((first | apply s_lbox | apply s_lstoreR); rfl; rfl; rfl) | (apply s_lstore; rfl; rfl; rfl; rfl; rfl) | (apply s_callB (hm := YC.m _ _); rfl; intro h3 o3 b3)
    have hb : Bd 48 (x.am.q * r.q) := (x1.bd (by omega)).mul (hr.bd (by omega))
    refine k20 (s := t) (t := triT (x.am.q * r.q)) (K := 48) (by omega) (by omega) (ht.mono (by omega)) (triT_le hb) fun h6 e6 => ?_
    intro h7 o7 b7
    repeat' first | (with_reducible first | exact SetAt.z | apply SetAt.s | apply s_end | exact Kept.nil) | refine qq (hk := ?_) | ((with_reducible first | apply Kept.cons | apply q_blky); rfl) | ((with_reducible apply Kept.skip); rfl) | refine wq (hk := ?_) | (apply c_condP; rfl; exact bpx; all_goals intro hc) | ((first | apply s_gTP | apply s_gFP); rfl; exact bpx; all_goals intro hg) | (apply s_lalloc; rfl) | ((first | apply s_lbox | apply s_lstoreR); rfl; rfl; rfl) | (apply s_lstore; rfl; rfl; rfl; rfl; rfl) | (apply s_callB (hm := YC.m _ _); rfl; intro h3 o3 b3)
    refine hq _ _ exty ?_
    rw [triT_q, decide_eq_true_eq, ssub_gt]
    exact ⟨fun hh => ⟨h0, hh⟩, fun hh => hh.2⟩
  · have hs : ¬ sgn (x.ask.q - r.q) > 0 := fun hh => h0 (hc1.mp hh)
    repeat' first | (with_reducible first | exact SetAt.z | apply SetAt.s | apply s_end | exact Kept.nil) | refine qq (hk := ?_) | ((with_reducible first | apply Kept.cons | apply q_blky); rfl) | ((with_reducible apply Kept.skip); rfl) | refine wq (hk := ?_) | (apply c_condP; rfl; exact bpx; all_goals intro hc) | ((first | apply s_gTP | apply s_gFP); rfl; exact bpx; all_goals intro hg) | (apply s_lalloc; rfl) | ((first | apply s_lbox | apply s_lstoreR); rfl; rfl; rfl) | (apply s_lstore; rfl; rfl; rfl; rfl; rfl) | (apply s_callB (hm := YC.m _ _); rfl; intro h3 o3 b3)
    exact hq _ _ exty (by simp only [Bool.false_eq_true, false_iff]; exact fun hh => h0 hh.1)
end
end Am
end Go.Proofs.YtfhlblclcdhbiaaGreatDoor
