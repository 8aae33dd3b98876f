/- The least rate of one voter, the floor. -/
import Derived.Test.YtfhlblclcdhbiaaGreatDoorK21
namespace Go.Proofs.YtfhlblclcdhbiaaGreatDoor
open Go
set_option linter.unusedVariables false
set_option linter.unusedSimpArgs false
namespace Am
theorem sgn_zero {q : Rat} : sgn q = 0 ↔ q = 0 := by
  unfold sgn
  constructor
  · intro h
    split at h
    · exact Rat.num_eq_zero.mp (by assumption)
    · split at h <;> omega
  · intro h
    rw [h]; rfl
theorem Tri.Le.bd {t : Tri} {K : Nat} (h : t.Le K) (h0 : 0 < K) : Bd K t.q := Bd.dec h0 h.1 h.2
theorem Tri.Le.mono {t : Tri} {K L : Nat} (h : t.Le K) (hk : K ≤ L) : t.Le L := ⟨Nat.le_trans h.1 hk, Nat.le_trans h.2 hk⟩
theorem Bd.div {p q : Rat} {K : Nat} (hp : Bd K p) (hq : Bd K q) (h0 : q ≠ 0) : Bd (K + K) (p / q) := by
  rw [← div_rq h0]
  have hn : q.num.natAbs ≠ 0 := by
    intro hh
    exact h0 (Rat.num_eq_zero.mp (by omega))
  refine Bd.rq (Nat.mul_ne_zero p.den_nz hn) ?_ ?_
  · rw [Nat.pow_add]; exact Nat.mul_lt_mul'' hp.1 hq.2
  · rw [Nat.pow_add]; exact Nat.mul_lt_mul'' hp.2 hq.1
def leastq (x : Vt) (t : Tri) : Rat := if t.q = 0 then 0 else if x.am.q = 0 then x.ask.q else if x.ask.q < t.q / x.am.q then x.ask.q else t.q / x.am.q
def maxq (p q : Rat) : Rat := if p < q then q else p
def floorq (l : List (Vt × Tri)) : Rat := l.foldl (fun o p => maxq o (leastq p.1 p.2)) 0
def zeroQ : Tri := ⟨false, [], []⟩
theorem zeroQ_eq : zeroQ = triT 0 := by
  have h1 : sb (0 : Rat).num.natAbs = [] := by rw [sb_nil]; rfl
  have h2 : strD (0 : Rat).den = [] := by unfold strD; rw [if_pos (show (0 : Rat).den = 1 from rfl)]
  unfold triT zeroQ
  rw [h1, h2]
  rfl
theorem zeroQ_q : zeroQ.q = 0 := by rw [zeroQ_eq, triT_q]
section
variable {B0 : Nat} {Q : Value → AH → Prop} {h : AH}
theorem k66' {s t : Tri} (hs : s.Le 68719476736) (ht : t.Le 68719476736) (hq : ∀ h', Ext h h' → Q (.tuple #[(triT (s.q / t.q)).v, .bool (!decide (t.q = 0))]) h') : YC Tryz.prog B0 66 [s.v, t.v] Q h := k66 hs.1 hs.2 ht.1 ht.2 hq
theorem k31' {s t : Tri} (hs : s.Le 68719476736) (ht : t.Le 68719476736) (hq : ∀ h', Ext h h' → Q (triT (if t.q < s.q then t.q else s.q)).v h') : YC Tryz.prog B0 31 [s.v, t.v] Q h := k31 hs.1 hs.2 ht.1 ht.2 hq
theorem k29' {s t : Tri} (hs : s.Le 68719476736) (ht : t.Le 68719476736) (hq : ∀ h', Ext h h' → Q (triT (if s.q < t.q then t.q else s.q)).v h') : YC Tryz.prog B0 29 [s.v, t.v] Q h := k29 hs.1 hs.2 ht.1 ht.2 hq
theorem k30 {x : Vt} {t : Tri} (hx : x.Le 24) (ht : t.Le 24) (hq : ∀ (s : Tri) h', Ext h h' → s.q = leastq x t → s.Le 48 → Q s.v h') : YC Tryz.prog B0 30 [x.v, t.v] Q h := by
  refine enterF mix Tryz.func30 ok30 rfl (tm := [(0, _), (1, _)]) (bx := [_, _, _, _]) rfl rfl fun hp => ?_
  obtain ⟨x1, x2⟩ := hx
  have ht' : t.Le 68719476736 := ht.mono (by omega)
  have x1' : x.am.Le 68719476736 := x1.mono (by omega)
  have x2' : x.ask.Le 68719476736 := x2.mono (by omega)
  unfold leastq at hq
  by_cases h0 : t.q = 0
  · rw [if_pos h0] at hq
    have hs := sgn_zero.mpr h0
    repeat' first | (with_reducible first | exact SetAt.z | apply SetAt.s | apply s_end | exact Kept.nil) | refine qq (hk := ?_) | ((with_reducible first | apply Kept.cons | apply q_blky); rfl) | ((with_reducible apply Kept.skip); rfl) | refine wq (hk := ?_) | (apply c_condP; rfl; exact bpx; all_goals intro hc) | ((first | apply s_gTP | apply s_gFP); rfl; exact bpx; all_goals intro hg) | (apply s_lalloc; rfl) | ((first | apply s_lbox | apply s_lstoreR); rfl; rfl; rfl) | (apply s_lstore; rfl; rfl; rfl; rfl; rfl) | (apply s_callB (hm := YC.m _ _); rfl; intro h3 o3 b3) | ((with_reducible refine YCi (f := 60) ?_); (refine k60' (t := t) ht' fun h1 e1 => ?_))
    exact hq zeroQ _ exty zeroQ_q (by decide)
  · rw [if_neg h0] at hq
    have hs : ¬ sgn t.q = 0 := fun hh => h0 (sgn_zero.mp hh)
    repeat' first | (with_reducible first | exact SetAt.z | apply SetAt.s | apply s_end | exact Kept.nil) | refine qq (hk := ?_) | ((with_reducible first | apply Kept.cons | apply q_blky); rfl) | ((with_reducible apply Kept.skip); rfl) | (apply s_q; rfl; (first | ((with_reducible apply q_llAm (y := x)); rfl; rfl) | ((with_reducible apply q_llAsk (y := x)); rfl; rfl))) | refine wq (hk := ?_) | (apply c_condP; rfl; exact bpx; all_goals intro hc) | ((first | apply s_gTP | apply s_gFP); rfl; exact bpx; all_goals intro hg) | (apply s_lalloc; rfl) | ((first | apply s_lbox | apply s_lstoreR); rfl; rfl; rfl) | (apply s_lstore; rfl; rfl; rfl; rfl; rfl) | (apply s_callB (hm := YC.m _ _); rfl; intro h3 o3 b3) | ((with_reducible refine YCi (f := 60) ?_); (refine k60' (t := t) ht' fun h1 e1 => ?_))
    refine k66' (s := t) (t := x.am) ht' x1' fun h2 e2 => ?_
    by_cases h1 : x.am.q = 0
    · rw [if_pos h1] at hq
      rw [show (!decide (x.am.q = 0)) = false by simp [h1]]
      repeat' first | (with_reducible first | exact SetAt.z | apply SetAt.s | apply s_end | exact Kept.nil) | refine qq (hk := ?_) | ((with_reducible first | apply Kept.cons | apply q_blky); rfl) | ((with_reducible apply Kept.skip); rfl) | (apply s_q; rfl; (first | ((with_reducible apply q_llAsk (y := x)); rfl; rfl))) | refine wq (hk := ?_) | (apply c_condP; rfl; exact bpx; all_goals intro hc) | ((first | apply s_gTP | apply s_gFP); rfl; exact bpx; all_goals intro hg) | (apply s_lalloc; rfl) | ((first | apply s_lbox | apply s_lstoreR); rfl; rfl; rfl) | (apply s_lstore; rfl; rfl; rfl; rfl; rfl) | (apply s_callB (hm := YC.m _ _); rfl; intro h3 o3 b3)
      · exact hq x.ask _ exty rfl (x2.mono (by omega))
      · exact absurd rfl hc
    · rw [if_neg h1] at hq
      rw [show (!decide (x.am.q = 0)) = true by simp [h1]]
      have hb : Bd 48 (t.q / x.am.q) := (ht.bd (by omega)).div (x1.bd (by omega)) h1
      repeat' first | (with_reducible first | exact SetAt.z | apply SetAt.s | apply s_end | exact Kept.nil) | refine qq (hk := ?_) | ((with_reducible first | apply Kept.cons | apply q_blky); rfl) | ((with_reducible apply Kept.skip); rfl) | (apply s_q; rfl; (first | ((with_reducible apply q_llAsk (y := x)); rfl; rfl))) | refine wq (hk := ?_) | (apply c_condP; rfl; exact bpx; all_goals intro hc) | ((first | apply s_gTP | apply s_gFP); rfl; exact bpx; all_goals intro hg) | (apply s_lalloc; rfl) | ((first | apply s_lbox | apply s_lstoreR); rfl; rfl; rfl) | (apply s_lstore; rfl; rfl; rfl; rfl; rfl) | (apply s_callB (hm := YC.m _ _); rfl; intro h3 o3 b3)
      · exact absurd hc (by simp)
      refine k31' (s := triT (t.q / x.am.q)) (t := x.ask) (Tri.Le.mono (triT_le hb) (by omega)) x2' fun h3 e3 => ?_
      rw [triT_q]
      repeat' first | (with_reducible first | exact SetAt.z | apply SetAt.s | apply s_end | exact Kept.nil) | refine qq (hk := ?_) | ((with_reducible first | apply Kept.cons | apply q_blky); rfl) | ((with_reducible apply Kept.skip); rfl) | refine wq (hk := ?_) | (apply c_condP; rfl; exact bpx; all_goals intro hc) | ((first | apply s_gTP | apply s_gFP); rfl; exact bpx; all_goals intro hg) | (apply s_lalloc; rfl) | ((first | apply s_lbox | apply s_lstoreR); rfl; rfl; rfl) | (apply s_lstore; rfl; rfl; rfl; rfl; rfl) | (apply s_callB (hm := YC.m _ _); rfl; intro h3 o3 b3)
      refine hq _ _ exty (triT_q _) (triT_le ?_)
      split
      · exact (x2.bd (by omega)).mono (by omega)
      · exact hb
end
end Am
end Go.Proofs.YtfhlblclcdhbiaaGreatDoor
