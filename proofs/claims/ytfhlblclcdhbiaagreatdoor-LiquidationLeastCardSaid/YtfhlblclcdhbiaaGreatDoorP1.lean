/- The plain law: who is worse off, and the floor. -/
import Derived.Test.YtfhlblclcdhbiaaGreatDoorW4
namespace Go.Proofs.YtfhlblclcdhbiaaGreatDoor
open Go
set_option linter.unusedVariables false
set_option linter.unusedSimpArgs false
namespace Am
theorem pos_of {q : Rat} (h : 0 ≤ q) (h0 : q ≠ 0) : 0 < q := Rat.not_le.mp fun hh => h0 (Rat.le_antisymm hh h)
theorem wor_iff {x : Vt} {t r : Tri} (ha : 0 ≤ x.am.q) (hk : 0 ≤ x.ask.q) (ht : 0 ≤ t.q) (hr : 0 ≤ r.q) : wor x t r ↔ r.q < leastq x t := by
  unfold wor leastq
  by_cases h0 : t.q = 0
  · rw [if_pos h0, h0]
    have := Rat.mul_nonneg ha hr
    constructor
    · intro hh; exact absurd hh.2 (Rat.not_lt.mpr this)
    · intro hh; exact absurd hh (Rat.not_lt.mpr hr)
  · rw [if_neg h0]
    by_cases h1 : x.am.q = 0
    · rw [if_pos h1, h1, Rat.zero_mul]
      exact ⟨fun hh => hh.1, fun hh => ⟨hh, pos_of ht h0⟩⟩
    · rw [if_neg h1]
      have hd : r.q < t.q / x.am.q ↔ r.q * x.am.q < t.q := Rat.lt_div_iff (pos_of ha h1)
      rw [Rat.mul_comm, ← hd]
      split
      · constructor
        · exact fun hh => hh.1
        · intro hh; exact ⟨hh, by grind⟩
      · constructor
        · exact fun hh => hh.2
        · intro hh; exact ⟨by grind, hh⟩
theorem lt_maxq {r p q : Rat} : r < maxq p q ↔ r < p ∨ r < q := by
  unfold maxq
  split
  · constructor
    · exact .inr
    · rintro (h | h)
      · grind
      · exact h
  · constructor
    · exact .inl
    · rintro (h | h)
      · exact h
      · grind
theorem lt_fold {r : Rat} : ∀ (zs : List (Vt × Tri)) (o : Rat), r < zs.foldl (fun o p => maxq o (leastq p.1 p.2)) o ↔ r < o ∨ ∃ p ∈ zs, r < leastq p.1 p.2
  | [], o => by simp
  | p :: zs, o => by
    rw [List.foldl_cons, lt_fold zs, lt_maxq]
    simp only [List.mem_cons, exists_eq_or_imp]
    constructor
    · rintro ((h | h) | h)
      · exact .inl h
      · exact .inr (.inl h)
      · exact .inr (.inr h)
    · rintro (h | h | h)
      · exact .inl (.inl h)
      · exact .inl (.inr h)
      · exact .inr h
theorem lt_floorq {r : Rat} {zs : List (Vt × Tri)} (hr : 0 ≤ r) : r < floorq zs ↔ ∃ p ∈ zs, r < leastq p.1 p.2 := by
  unfold floorq
  rw [lt_fold]
  constructor
  · rintro (h | h)
    · exact absurd h (Rat.not_lt.mpr hr)
    · exact h
  · exact .inr
open Classical in
theorem wlist_pos {zs : List (Vt × Tri)} {r : Tri} {n : Nat} (hn : n = zs.length) : 0 < (wlist zs r n).length ↔ ∃ p ∈ zs, wor p.1 p.2 r := by
  unfold wlist
  rw [List.length_map, List.length_pos_iff_exists_mem]
  constructor
  · rintro ⟨k, hk⟩
    have := (List.mem_filter.mp hk).2
    unfold worB at this
    obtain ⟨x, t, h1, h2⟩ := of_decide_eq_true this
    exact ⟨(x, t), List.mem_of_getElem? h1, h2⟩
  · rintro ⟨⟨x, t⟩, hp, hw⟩
    obtain ⟨k, hk⟩ := List.getElem?_of_mem hp
    refine ⟨k, List.mem_filter.mpr ⟨List.mem_range.mpr ?_, ?_⟩⟩
    · have := (List.getElem?_eq_some_iff.mp hk).1; omega
    · unfold worB; exact decide_eq_true ⟨x, t, hk, hw⟩
theorem nn_of {l : List Vt} {vs : List Tri} (h : chk l vs = 0) : ∀ p ∈ l.zip vs, 0 ≤ p.1.am.q ∧ 0 ≤ p.1.ask.q ∧ 0 ≤ p.2.q := by
  obtain ⟨_, _, c3, c4⟩ := chk_len h
  rintro ⟨x, t⟩ hp
  have h1 := c3 x (List.of_mem_zip hp).1
  have h2 := c4 t (List.of_mem_zip hp).2
  refine ⟨Rat.not_lt.mp fun hh => h1 (.inl (sgn_neg.mpr hh)), Rat.not_lt.mp fun hh => h1 (.inr (sgn_neg.mpr hh)), Rat.not_lt.mp fun hh => h2 (sgn_neg.mpr hh)⟩
/-- somebody is worse off just where the rate is below the floor -/
theorem wres_pos {l : List Vt} {vs : List Tri} {r : Tri} (h : chk l vs = 0) (hr : inR r) : 0 < (wres l vs r).length ↔ r.q < floorq (l.zip vs) := by
  unfold wres
  rw [if_pos ⟨h, hr⟩, wlist_pos (by rw [List.length_zip]; have := (chk_len h).2.1; omega), lt_floorq hr.1]
  have hn := nn_of h
  constructor
  · rintro ⟨p, hp, hw⟩
    obtain ⟨a, b, c⟩ := hn p hp
    exact ⟨p, hp, (wor_iff a b c hr.1).mp hw⟩
  · rintro ⟨p, hp, hw⟩
    obtain ⟨a, b, c⟩ := hn p hp
    exact ⟨p, hp, (wor_iff a b c hr.1).mpr hw⟩
theorem fr_nonneg {a b : Int} (ha : 0 ≤ a) (hb : 0 < b) : 0 ≤ fr a b := by
  unfold fr
  have : (!(decide (a < 0) == decide (b < 0))) = false := by simp; omega
  rw [this, ← Rat.num_nonneg, rq_num (by omega), if_neg (by simp)]
  exact Int.natCast_nonneg _
theorem fr_le {a b : Int} (ha : 0 ≤ a) (hb : 0 < b) (hab : a ≤ b) : fr a b ≤ 1 := by
  have e : fr a b = (a : Rat) / (b : Rat) := by
    unfold fr rq
    have : (!(decide (a < 0) == decide (b < 0))) = false := by simp; omega
    rw [this, if_neg (by simp), Rat.mkRat_eq_div]
    have h1 : ((a.natAbs : Nat) : Int) = a := by omega
    have h2 : ((b.natAbs : Nat) : Int) = b := by omega
    rw [h1]
    congr 1
    rw [← Rat.intCast_natCast, h2]
  rw [e]
  refine Rat.not_lt.mp fun hh => ?_
  have hb' : (0 : Rat) < (b : Rat) := by
    have := Rat.intCast_lt_intCast (a := 0) (b := b)
    exact this.mpr hb
  rw [Rat.lt_div_iff hb', Rat.one_mul] at hh
  have := Rat.intCast_lt_intCast.mp hh
  omega
theorem amt_nonneg {x : Int} (hx : 0 ≤ x ∧ x < 65536) : 0 ≤ amt x := by
  unfold amt
  split
  · exact fr_nonneg (by omega) (by omega)
  · split
    · exact Rat.intCast_nonneg.mpr (by omega)
    · exact Rat.intCast_nonneg.mpr (by omega)
/-- the numbers that a law draws are such as the check lets by -/
theorem chk_drawn {U : List Qd} {W : List Int} (hU : ∀ x ∈ U, x.Ok) (hW : ∀ x ∈ W, 0 ≤ x ∧ x < 65536) : chk ((U.take 7).map voterT) (valsT W ((U.take 7).map voterT).length) = 0 := by
  unfold chk
  rw [if_neg (by have := voters_len U; omega), if_neg (by rw [vals_len]; simp), if_neg]
  rintro (⟨x, hx, hb⟩ | ⟨t, ht, hb⟩)
  · obtain ⟨y, hy, rfl⟩ := List.mem_map.mp hx
    obtain ⟨h1, h2, h3, h4⟩ := hU y (List.mem_of_mem_take hy)
    rcases hb with hb | hb
    · have := sgn_neg.mp hb
      have e : (voterT y).am.q = amt y.b := triT_q _
      rw [e] at this
      exact absurd this (Rat.not_lt.mpr (amt_nonneg h2))
    · have := sgn_neg.mp hb
      have e : (voterT y).ask.q = fr (y.c % 14) 12 := triT_q _
      rw [e] at this
      exact absurd this (Rat.not_lt.mpr (fr_nonneg (by omega) (by omega)))
  · have hb' := sgn_neg.mp hb
    unfold valsT at ht
    rcases List.mem_append.mp ht with ht | ht
    · obtain ⟨x, hx, rfl⟩ := List.mem_map.mp ht
      have e : (amtT x).q = amt x := triT_q _
      rw [e] at hb'
      exact absurd hb' (Rat.not_lt.mpr (amt_nonneg (hW x (List.mem_of_mem_take hx))))
    · rw [(List.mem_replicate.mp ht).2] at hb'
      have e : zeroT.q = 0 := zeroQ_q
      rw [e] at hb'
      exact absurd hb' Rat.lt_irrefl
theorem inR_fr {a b : Int} (ha : 0 ≤ a) (hb : 0 < b) (hab : a ≤ b) : inR (triT (fr a b)) := by
  unfold inR
  rw [triT_q]
  exact ⟨fr_nonneg ha hb, fr_le ha hb hab⟩
theorem inR_one : inR (triT ((1 : Int) : Rat)) := by
  unfold inR
  rw [triT_q, int_one]
  exact ⟨by decide +kernel, Rat.le_refl⟩
end Am
end Go.Proofs.YtfhlblclcdhbiaaGreatDoor
