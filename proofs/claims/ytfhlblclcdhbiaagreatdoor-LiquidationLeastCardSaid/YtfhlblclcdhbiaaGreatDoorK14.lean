/- The program's rational numbers: Make, Compare, Divide, Min, Max, Int. -/
import Derived.Test.YtfhlblclcdhbiaaGreatDoorK13
namespace Go.Proofs.YtfhlblclcdhbiaaGreatDoor
open Go
set_option linter.unusedVariables false
set_option linter.unusedSimpArgs false
namespace Am
section
variable {B0 : Nat} {Q : Value → AH → Prop} {h : AH}
theorem q_negI {x : X} {fr : Fr} {a : Int} (hx : vl fr x = some (.int .i64 a)) (hr : -9223372036854775808 ≤ 0 - a ∧ 0 - a ≤ 9223372036854775807) : qO (.un .neg x) fr h = some (.v (.int .i64 (0 - a))) := by
  simp only [qO, hx, unV, wI64 hr]
theorem k96 {neg : Bool} {a b : List UInt8} (ha : a.length ≤ 274877906944) (hb : b.length ≤ 274877906944) (hq : ∀ h', Ext h h' → Q (.tuple #[er (if bv b = 0 then 0 else rq neg (bv a) (bv b)), .bool (!decide (bv b = 0))]) h') : YC Tryz.prog B0 96 [.bool neg, .string (bs a), .string (bs b)] Q h := by
  refine enterF mix Tryz.func96 ok96 rfl (tm := [(0, _), (1, _), (2, _)]) (bx := [_]) rfl rfl fun hp => ?_
  by_cases h0 : bv b = 0
  · have hs : sb (bv b) = [] := by rw [sb_nil]; exact h0
    rw [if_pos h0, er_zero] at hq
    simp only [h0, decide_true, Bool.not_true] at hq
    repeat' first | (with_reducible first | exact SetAt.z | apply SetAt.s | apply s_end | exact Kept.nil) | refine qq (hk := ?_) | ((with_reducible first | apply Kept.cons | apply q_blky); rfl) | ((with_reducible apply Kept.skip); rfl) | refine wq (hk := ?_) | (apply c_condP; rfl; exact bpx; all_goals intro hc) | ((first | apply s_gTP | apply s_gFP); rfl; exact bpx; all_goals intro hg) | (apply s_lalloc; rfl) | ((first | apply s_lbox | apply s_lstoreR); rfl; rfl; rfl) | (apply s_lstore; rfl; rfl; rfl; rfl; rfl) | (apply s_callB (hm := YC.m _ _); rfl; intro h3 o3 b3) | ((with_reducible refine YCi (f := 97) ?_); (refine k97 ?_))
    exact hq _ exty
  · have hs : ¬ sb (bv b) = [] := by rw [sb_nil]; exact h0
    rw [if_neg h0] at hq
    simp only [h0, decide_false, Bool.not_false] at hq
    repeat' first | (with_reducible first | exact SetAt.z | apply SetAt.s | apply s_end | exact Kept.nil) | refine qq (hk := ?_) | ((with_reducible first | apply Kept.cons | apply q_blky); rfl) | ((with_reducible apply Kept.skip); rfl) | refine wq (hk := ?_) | (apply c_condP; rfl; exact bpx; all_goals intro hc) | ((first | apply s_gTP | apply s_gFP); rfl; exact bpx; all_goals intro hg) | (apply s_lalloc; rfl) | ((first | apply s_lbox | apply s_lstoreR); rfl; rfl; rfl) | (apply s_lstore; rfl; rfl; rfl; rfl; rfl) | (apply s_callB (hm := YC.m _ _); rfl; intro h3 o3 b3) | ((with_reducible refine YCi (f := 97) ?_); (refine k97 ?_)) | ((with_reducible refine YCi (f := 67) ?_); (refine k67 ha hb h0 fun h1 e1 => ?_))
    exact hq _ exty
theorem sgn_lt {p : Rat} (h : p.num < 0) : sgn p = -1 := by unfold sgn; rw [if_neg (by omega), if_pos h]
theorem sgn_eq {p : Rat} (h : p.num = 0) : sgn p = 0 := by unfold sgn; rw [if_pos h]
theorem sgn_gt {p : Rat} (h : 0 < p.num) : sgn p = 1 := by unfold sgn; rw [if_neg (by omega), if_neg (by omega)]
/-- the order of two numbers -/
def cmpq (p q : Rat) : Int := if p < q then -1 else if q < p then 1 else 0
theorem sgn_cmp {p q : Rat} (h : sgn p ≠ sgn q) : cmpq p q = if sgn p < sgn q then -1 else 1 := by
  have hp := p.den_nz
  have hq := q.den_nz
  have key : ∀ {p q : Rat}, sgn p < sgn q → p < q := by
    intro p q h
    rw [Rat.lt_iff]
    have hp := p.den_nz
    have hq := q.den_nz
    unfold sgn at h
    by_cases p0 : p.num = 0
    · by_cases q0 : q.num = 0
      · simp [p0, q0] at h
      · by_cases q1 : q.num < 0
        · simp [p0, q0, q1] at h
        · rw [p0, Int.zero_mul]
          exact Int.mul_pos (by omega) (by omega)
    · by_cases p1 : p.num < 0
      · have h1 : p.num * q.den < 0 := Int.mul_neg_of_neg_of_pos p1 (by omega)
        by_cases q1 : q.num < 0
        · have q0 : q.num ≠ 0 := by omega
          simp [p0, q0, p1, q1] at h
        · have : 0 ≤ q.num * p.den := Int.mul_nonneg (by omega) (by omega)
          omega
      · by_cases q0 : q.num = 0
        · simp [p0, q0, p1] at h
        · by_cases q1 : q.num < 0
          · simp [p0, q0, p1, q1] at h
          · simp [p0, q0, p1, q1] at h
  unfold cmpq
  by_cases h1 : sgn p < sgn q
  · rw [if_pos h1, if_pos (key h1)]
  · have h2 : q < p := key (by omega)
    rw [if_neg h1, if_neg (by grind), if_pos h2]
theorem cmp_same {p q : Rat} (h : sgn p = sgn q) : cmpq p q = if p.num < 0 then 0 - cmpv (p.num.natAbs * q.den) (q.num.natAbs * p.den) else cmpv (p.num.natAbs * q.den) (q.num.natAbs * p.den) := by
  have hp := p.den_nz
  have hq := q.den_nz
  have e1 : ((p.num.natAbs * q.den : Nat) : Int) = (p.num.natAbs : Int) * q.den := Int.natCast_mul _ _
  have e2 : ((q.num.natAbs * p.den : Nat) : Int) = (q.num.natAbs : Int) * p.den := Int.natCast_mul _ _
  unfold cmpq cmpv
  simp only [Rat.lt_iff]
  by_cases p1 : p.num < 0
  · have q1 : q.num < 0 := by
      rw [sgn_lt p1] at h
      apply Classical.byContradiction
      intro hn
      by_cases q0 : q.num = 0
      · rw [sgn_eq q0] at h; omega
      · rw [sgn_gt (by omega)] at h; omega
    have f1 : p.num * q.den = -((p.num.natAbs : Int) * q.den) := by
      conv => lhs; rw [show p.num = -(p.num.natAbs : Int) by omega]
      rw [Int.neg_mul]
    have f2 : q.num * p.den = -((q.num.natAbs : Int) * p.den) := by
      conv => lhs; rw [show q.num = -(q.num.natAbs : Int) by omega]
      rw [Int.neg_mul]
    rw [if_pos p1, f1, f2, ← e1, ← e2]
    generalize p.num.natAbs * q.den = x, q.num.natAbs * p.den = y
    split <;> split <;> (try split) <;> (try split) <;> omega
  · have q1 : ¬ q.num < 0 := by
      intro q1
      rw [sgn_lt q1] at h
      by_cases p0 : p.num = 0
      · rw [sgn_eq p0] at h; omega
      · rw [sgn_gt (by omega)] at h; omega
    have f1 : p.num * q.den = (p.num.natAbs : Int) * q.den := by conv => lhs; rw [show p.num = (p.num.natAbs : Int) by omega]
    have f2 : q.num * p.den = (q.num.natAbs : Int) * p.den := by conv => lhs; rw [show q.num = (q.num.natAbs : Int) by omega]
    rw [if_neg p1, f1, f2, ← e1, ← e2]
    generalize p.num.natAbs * q.den = x, q.num.natAbs * p.den = y
    split <;> split <;> (try split) <;> (try split) <;> omega
theorem cmpv_rng (a b : Nat) : -1 ≤ cmpv a b ∧ cmpv a b ≤ 1 := by unfold cmpv; split <;> (try split) <;> omega
theorem cmpq_rng (a b : Rat) : -1 ≤ cmpq a b ∧ cmpq a b ≤ 1 := by unfold cmpq; split <;> (try split) <;> omega
theorem k64 {n1 n2 : Bool} {u1 w1 u2 w2 : List UInt8} (la1 : u1.length ≤ 68719476736) (lb1 : w1.length ≤ 68719476736) (la2 : u2.length ≤ 68719476736) (lb2 : w2.length ≤ 68719476736)
    (hq : ∀ h', Ext h h' → Q (.int .i64 (cmpq (dec n1 u1 w1) (dec n2 u2 w2))) h') : YC Tryz.prog B0 64 [rat n1 (bs u1) (bs w1), rat n2 (bs u2) (bs w2)] Q h := by
  refine enterF mix Tryz.func64 ok64 rfl (tm := [(0, _), (1, _)]) (bx := [_, _]) rfl rfl fun hp => ?_
  have hb1 := Bd.sb (Bd.dec (neg := n1) (K := 68719476736) (by decide) la1 lb1)
  have hb2 := Bd.sb (Bd.dec (neg := n2) (K := 68719476736) (by decide) la2 lb2)
  have hd1 := sb_len (Bd.dec (neg := n1) (K := 68719476736) (by decide) la1 lb1).2
  have hd2 := sb_len (Bd.dec (neg := n2) (K := 68719476736) (by decide) la2 lb2).2
  repeat' first | (with_reducible first | exact SetAt.z | apply SetAt.s | apply s_end | exact Kept.nil) | refine qq (hk := ?_) | ((with_reducible first | apply Kept.cons | apply q_blky); rfl) | ((with_reducible apply Kept.skip); rfl) | refine wq (hk := ?_) | (apply c_condP; rfl; exact bpx; all_goals intro hc) | ((first | apply s_gTP | apply s_gFP); rfl; exact bpx; all_goals intro hg) | (apply s_lalloc; rfl) | ((first | apply s_lbox | apply s_lstoreR); rfl; rfl; rfl) | (apply s_lstore; rfl; rfl; rfl; rfl; rfl) | (apply s_callB (hm := YC.m _ _); rfl; intro h3 o3 b3) | ((with_reducible refine YCi (f := 65) ?_); (refine k65 la1 lb1 fun h1 e1 => ?_; try intro h2 o2 b2)) | ((with_reducible refine YCi (f := 65) ?_); (refine k65 la2 lb2 fun h1 e1 => ?_; try intro h2 o2 b2))
  generalize dec n1 u1 w1 = p at *
  generalize dec n2 u2 w2 = q at *
  refine k91 ?_
  intro h4 o4 b4
  repeat' first | (with_reducible first | exact SetAt.z | apply SetAt.s | apply s_end | exact Kept.nil) | refine qq (hk := ?_) | ((with_reducible first | apply Kept.cons | apply q_blky); rfl) | ((with_reducible apply Kept.skip); rfl) | refine wq (hk := ?_) | (apply c_condP; rfl; exact bpx; all_goals intro hc) | ((first | apply s_gTP | apply s_gFP); rfl; exact bpx; all_goals intro hg) | (apply s_lalloc; rfl) | ((first | apply s_lbox | apply s_lstoreR); rfl; rfl; rfl) | (apply s_lstore; rfl; rfl; rfl; rfl; rfl) | (apply s_callB (hm := YC.m _ _); rfl; intro h3 o3 b3)
  refine k91 ?_
  intro h5 o5 b5
  have hm1 : (sb (bv (sb p.num.natAbs) * bv (sb q.den))).length ≤ 1099511627776 := by
    have h1 := bv_lt (sb p.num.natAbs)
    have h2 := bv_lt (sb q.den)
    have h3 : bv (sb p.num.natAbs) * bv (sb q.den) < 256 ^ ((sb p.num.natAbs).length + (sb q.den).length) := by
      rw [Nat.pow_add]; exact Nat.mul_lt_mul'' h1 h2
    have := sb_len h3
    omega
  have hm2 : (sb (bv (sb q.num.natAbs) * bv (sb p.den))).length ≤ 1099511627776 := by
    have h1 := bv_lt (sb q.num.natAbs)
    have h2 := bv_lt (sb p.den)
    have h3 : bv (sb q.num.natAbs) * bv (sb p.den) < 256 ^ ((sb q.num.natAbs).length + (sb p.den).length) := by
      rw [Nat.pow_add]; exact Nat.mul_lt_mul'' h1 h2
    have := sb_len h3
    omega
  by_cases hs : sgn p = sgn q
  · have hcm := cmp_same hs
    have hrng := cmpv_rng (bv (sb (bv (sb p.num.natAbs) * bv (sb q.den)))) (bv (sb (bv (sb q.num.natAbs) * bv (sb p.den))))
    repeat' first | (with_reducible first | exact SetAt.z | apply SetAt.s | apply s_end | exact Kept.nil) | refine qq (hk := ?_) | ((with_reducible first | apply Kept.cons | apply q_blky); rfl) | ((with_reducible apply Kept.skip); rfl) | (apply s_q; rfl; (first | ((with_reducible apply q_negI); rfl; omega))) | refine wq (hk := ?_) | (apply c_condP; rfl; exact bpx; all_goals intro hc) | ((first | apply s_gTP | apply s_gFP); rfl; exact bpx; all_goals intro hg) | (apply s_lalloc; rfl) | ((first | apply s_lbox | apply s_lstoreR); rfl; rfl; rfl) | (apply s_lstore; rfl; rfl; rfl; rfl; rfl) | (apply s_callB (hm := YC.m _ _); rfl; intro h3 o3 b3) | ((with_reducible refine YCi (f := 85) ?_); (refine k85 (q := q) ?_; intro h2 o2 b2)) | ((with_reducible refine YCi (f := 85) ?_); (refine k85 (q := p) ?_; intro h2 o2 b2)) | ((with_reducible refine YCi (f := 84) ?_); (refine k84 (by omega) (by omega) fun h1 e1 => ?_; intro h2 o2 b2)) | ((with_reducible refine YCi (f := 94) ?_); (refine k94 (by omega) (by omega) ?_; intro h2 o2 b2))
    all_goals refine cast (congrArg (fun v => Q v _) ?_) (hq _ exty)
    all_goals simp only [bv_sb] at *
    · rw [hcm, if_pos (by simpa using hc)]; rfl
    · rw [hcm, if_neg (by simpa using hc)]; rfl
  · have hcm := sgn_cmp hs
    repeat' first | (with_reducible first | exact SetAt.z | apply SetAt.s | apply s_end | exact Kept.nil) | refine qq (hk := ?_) | ((with_reducible first | apply Kept.cons | apply q_blky); rfl) | ((with_reducible apply Kept.skip); rfl) | refine wq (hk := ?_) | (apply c_condP; rfl; exact bpx; all_goals intro hc) | ((first | apply s_gTP | apply s_gFP); rfl; exact bpx; all_goals intro hg) | (apply s_lalloc; rfl) | ((first | apply s_lbox | apply s_lstoreR); rfl; rfl; rfl) | (apply s_lstore; rfl; rfl; rfl; rfl; rfl) | (apply s_callB (hm := YC.m _ _); rfl; intro h3 o3 b3)
    all_goals refine cast (congrArg (fun v => Q v _) ?_) (hq _ exty)
    · rw [hcm, if_pos hc]; rfl
    · rw [hcm, if_neg hc]; rfl
theorem k29 {n1 n2 : Bool} {u1 w1 u2 w2 : List UInt8} (la1 : u1.length ≤ 68719476736) (lb1 : w1.length ≤ 68719476736) (la2 : u2.length ≤ 68719476736) (lb2 : w2.length ≤ 68719476736)
    (hq : ∀ h', Ext h h' → Q (er (if dec n1 u1 w1 < dec n2 u2 w2 then dec n2 u2 w2 else dec n1 u1 w1)) h') : YC Tryz.prog B0 29 [rat n1 (bs u1) (bs w1), rat n2 (bs u2) (bs w2)] Q h := by
  refine enterF mix Tryz.func29 ok29 rfl (tm := [(0, _), (1, _)]) (bx := [_, _, _]) rfl rfl fun hp => ?_
  by_cases hlt : dec n1 u1 w1 < dec n2 u2 w2
  · have hc : ¬ cmpq (dec n1 u1 w1) (dec n2 u2 w2) ≥ 0 := by unfold cmpq; rw [if_pos hlt]; omega
    rw [if_pos hlt] at hq
    repeat' first | (with_reducible first | exact SetAt.z | apply SetAt.s | apply s_end | exact Kept.nil) | refine qq (hk := ?_) | ((with_reducible first | apply Kept.cons | apply q_blky); rfl) | ((with_reducible apply Kept.skip); rfl) | refine wq (hk := ?_) | (apply c_condP; rfl; exact bpx; all_goals intro hc) | ((first | apply s_gTP | apply s_gFP); rfl; exact bpx; all_goals intro hg) | (apply s_lalloc; rfl) | ((first | apply s_lbox | apply s_lstoreR); rfl; rfl; rfl) | (apply s_lstore; rfl; rfl; rfl; rfl; rfl) | (apply s_callB (hm := YC.m _ _); rfl; intro h3 o3 b3) | ((with_reducible refine YCi (f := 64) ?_); (refine k64 la1 lb1 la2 lb2 fun h1 e1 => ?_)) | ((with_reducible refine YCi (f := 65) ?_); (refine k65 la2 lb2 fun h1 e1 => ?_))
    exact hq _ exty
  · have hc : cmpq (dec n1 u1 w1) (dec n2 u2 w2) ≥ 0 := by unfold cmpq; rw [if_neg hlt]; split <;> omega
    rw [if_neg hlt] at hq
    repeat' first | (with_reducible first | exact SetAt.z | apply SetAt.s | apply s_end | exact Kept.nil) | refine qq (hk := ?_) | ((with_reducible first | apply Kept.cons | apply q_blky); rfl) | ((with_reducible apply Kept.skip); rfl) | refine wq (hk := ?_) | (apply c_condP; rfl; exact bpx; all_goals intro hc) | ((first | apply s_gTP | apply s_gFP); rfl; exact bpx; all_goals intro hg) | (apply s_lalloc; rfl) | ((first | apply s_lbox | apply s_lstoreR); rfl; rfl; rfl) | (apply s_lstore; rfl; rfl; rfl; rfl; rfl) | (apply s_callB (hm := YC.m _ _); rfl; intro h3 o3 b3) | ((with_reducible refine YCi (f := 64) ?_); (refine k64 la1 lb1 la2 lb2 fun h1 e1 => ?_)) | ((with_reducible refine YCi (f := 65) ?_); (refine k65 la1 lb1 fun h1 e1 => ?_))
    exact hq _ exty
theorem k31 {n1 n2 : Bool} {u1 w1 u2 w2 : List UInt8} (la1 : u1.length ≤ 68719476736) (lb1 : w1.length ≤ 68719476736) (la2 : u2.length ≤ 68719476736) (lb2 : w2.length ≤ 68719476736)
    (hq : ∀ h', Ext h h' → Q (er (if dec n2 u2 w2 < dec n1 u1 w1 then dec n2 u2 w2 else dec n1 u1 w1)) h') : YC Tryz.prog B0 31 [rat n1 (bs u1) (bs w1), rat n2 (bs u2) (bs w2)] Q h := by
  refine enterF mix Tryz.func31 ok31 rfl (tm := [(0, _), (1, _)]) (bx := [_, _, _]) rfl rfl fun hp => ?_
  by_cases hlt : dec n2 u2 w2 < dec n1 u1 w1
  · have hc : ¬ cmpq (dec n1 u1 w1) (dec n2 u2 w2) ≤ 0 := by unfold cmpq; rw [if_neg (by grind), if_pos hlt]; omega
    rw [if_pos hlt] at hq
    repeat' first | (with_reducible first | exact SetAt.z | apply SetAt.s | apply s_end | exact Kept.nil) | refine qq (hk := ?_) | ((with_reducible first | apply Kept.cons | apply q_blky); rfl) | ((with_reducible apply Kept.skip); rfl) | refine wq (hk := ?_) | (apply c_condP; rfl; exact bpx; all_goals intro hc) | ((first | apply s_gTP | apply s_gFP); rfl; exact bpx; all_goals intro hg) | (apply s_lalloc; rfl) | ((first | apply s_lbox | apply s_lstoreR); rfl; rfl; rfl) | (apply s_lstore; rfl; rfl; rfl; rfl; rfl) | (apply s_callB (hm := YC.m _ _); rfl; intro h3 o3 b3) | ((with_reducible refine YCi (f := 64) ?_); (refine k64 la1 lb1 la2 lb2 fun h1 e1 => ?_)) | ((with_reducible refine YCi (f := 65) ?_); (refine k65 la2 lb2 fun h1 e1 => ?_))
    exact hq _ exty
  · have hc : cmpq (dec n1 u1 w1) (dec n2 u2 w2) ≤ 0 := by unfold cmpq; split <;> (try split) <;> omega
    rw [if_neg hlt] at hq
    repeat' first | (with_reducible first | exact SetAt.z | apply SetAt.s | apply s_end | exact Kept.nil) | refine qq (hk := ?_) | ((with_reducible first | apply Kept.cons | apply q_blky); rfl) | ((with_reducible apply Kept.skip); rfl) | refine wq (hk := ?_) | (apply c_condP; rfl; exact bpx; all_goals intro hc) | ((first | apply s_gTP | apply s_gFP); rfl; exact bpx; all_goals intro hg) | (apply s_lalloc; rfl) | ((first | apply s_lbox | apply s_lstoreR); rfl; rfl; rfl) | (apply s_lstore; rfl; rfl; rfl; rfl; rfl) | (apply s_callB (hm := YC.m _ _); rfl; intro h3 o3 b3) | ((with_reducible refine YCi (f := 64) ?_); (refine k64 la1 lb1 la2 lb2 fun h1 e1 => ?_)) | ((with_reducible refine YCi (f := 65) ?_); (refine k65 la1 lb1 fun h1 e1 => ?_))
    exact hq _ exty
theorem q_beqT {x y : X} {fr : Fr} {s t : Bool} (hx : vl fr x = some (.bool s)) (hy : vl fr y = some (.bool t)) : qO (.beq true x y) fr h = some (.v (.bool (!(s == t)))) := by
  simp [qO, hx, hy, beqV]
theorem div_rq {p q : Rat} (hq : q ≠ 0) : rq (!(decide (p.num < 0) == decide (q.num < 0))) (p.num.natAbs * q.den) (p.den * q.num.natAbs) = p / q := by
  have hqn : q.num ≠ 0 := fun e => hq (Rat.num_eq_zero.mp e)
  have hp := p.den_nz
  have hqd := q.den_nz
  have e : p / q = Rat.divInt (p.num * q.den) (p.den * q.num) := by
    rw [Rat.div_def, Rat.inv_def]
    conv => lhs; lhs; rw [← Rat.num_divInt_den p]
    rw [Rat.divInt_mul_divInt]
  rw [e]
  unfold rq
  by_cases q1 : q.num < 0
  · have e2 : (p.den : Int) * q.num = -((p.den * q.num.natAbs : Nat) : Int) := by
      rw [Int.natCast_mul]
      conv => lhs; rw [show q.num = -(q.num.natAbs : Int) by omega]
      rw [Int.mul_neg]
    rw [e2, Rat.divInt_neg', Rat.divInt_ofNat]
    congr 1
    by_cases p1 : p.num < 0
    · simp only [p1, q1, decide_true, beq_self_eq_true, Bool.not_true, Bool.false_eq_true, if_false]
      rw [Int.natCast_mul]
      conv => rhs; rw [show p.num = -(p.num.natAbs : Int) by omega]
      rw [Int.neg_mul, Int.neg_neg]
    · have : (!(decide (p.num < 0) == decide (q.num < 0))) = true := by simp [p1, q1]
      rw [this, if_pos rfl, Int.natCast_mul]
      conv => rhs; rw [show p.num = (p.num.natAbs : Int) by omega]
  · have e2 : (p.den : Int) * q.num = ((p.den * q.num.natAbs : Nat) : Int) := by
      rw [Int.natCast_mul]
      conv => lhs; rw [show q.num = (q.num.natAbs : Int) by omega]
    rw [e2, Rat.divInt_ofNat]
    congr 1
    by_cases p1 : p.num < 0
    · have : (!(decide (p.num < 0) == decide (q.num < 0))) = true := by simp [p1, q1]
      rw [this, if_pos rfl, Int.natCast_mul]
      conv => rhs; rw [show p.num = -(p.num.natAbs : Int) by omega]
      rw [Int.neg_mul]
    · have : (!(decide (p.num < 0) == decide (q.num < 0))) = false := by simp [p1, q1]
      rw [this, if_neg (by simp), Int.natCast_mul]
      conv => rhs; rw [show p.num = (p.num.natAbs : Int) by omega]
theorem k66 {n1 n2 : Bool} {u1 w1 u2 w2 : List UInt8} (la1 : u1.length ≤ 68719476736) (lb1 : w1.length ≤ 68719476736) (la2 : u2.length ≤ 68719476736) (lb2 : w2.length ≤ 68719476736)
    (hq : ∀ h', Ext h h' → Q (.tuple #[er (dec n1 u1 w1 / dec n2 u2 w2), .bool (!decide (dec n2 u2 w2 = 0))]) h') : YC Tryz.prog B0 66 [rat n1 (bs u1) (bs w1), rat n2 (bs u2) (bs w2)] Q h := by
  refine enterF mix Tryz.func66 ok66 rfl (tm := [(0, _), (1, _)]) (bx := [_, _, _]) rfl rfl fun hp => ?_
  have hb1 := Bd.sb (Bd.dec (neg := n1) (K := 68719476736) (by decide) la1 lb1)
  have hb2 := Bd.sb (Bd.dec (neg := n2) (K := 68719476736) (by decide) la2 lb2)
  have hd1 := sb_len (Bd.dec (neg := n1) (K := 68719476736) (by decide) la1 lb1).2
  have hd2 := sb_len (Bd.dec (neg := n2) (K := 68719476736) (by decide) la2 lb2).2
  repeat' first | (with_reducible first | exact SetAt.z | apply SetAt.s | apply s_end | exact Kept.nil) | refine qq (hk := ?_) | ((with_reducible first | apply Kept.cons | apply q_blky); rfl) | ((with_reducible apply Kept.skip); rfl) | refine wq (hk := ?_) | (apply c_condP; rfl; exact bpx; all_goals intro hc) | ((first | apply s_gTP | apply s_gFP); rfl; exact bpx; all_goals intro hg) | (apply s_lalloc; rfl) | ((first | apply s_lbox | apply s_lstoreR); rfl; rfl; rfl) | (apply s_lstore; rfl; rfl; rfl; rfl; rfl) | (apply s_callB (hm := YC.m _ _); rfl; intro h3 o3 b3) | ((with_reducible refine YCi (f := 65) ?_); (refine k65 la1 lb1 fun h1 e1 => ?_; try intro h2 o2 b2)) | ((with_reducible refine YCi (f := 65) ?_); (refine k65 la2 lb2 fun h1 e1 => ?_; try intro h2 o2 b2))
  generalize dec n1 u1 w1 = p at *
  generalize dec n2 u2 w2 = q at *
  have ml : ∀ s t : List UInt8, (sb (bv s * bv t)).length ≤ s.length + t.length := by
    intro s t
    refine sb_len ?_
    rw [Nat.pow_add]; exact Nat.mul_lt_mul'' (bv_lt s) (bv_lt t)
  have m1 := ml (sb p.num.natAbs) (sb q.den)
  have m2 := ml (sb p.den) (sb q.num.natAbs)
  refine k85 ?_
  intro h4 o4 b4
  repeat' first | (with_reducible first | exact SetAt.z | apply SetAt.s | apply s_end | exact Kept.nil) | refine qq (hk := ?_) | ((with_reducible first | apply Kept.cons | apply q_blky); rfl) | ((with_reducible apply Kept.skip); rfl) | (apply s_q; rfl; (first | ((with_reducible apply q_beqT); rfl; rfl))) | refine wq (hk := ?_) | (apply c_condP; rfl; exact bpx; all_goals intro hc) | ((first | apply s_gTP | apply s_gFP); rfl; exact bpx; all_goals intro hg) | (apply s_lalloc; rfl) | ((first | apply s_lbox | apply s_lstoreR); rfl; rfl; rfl) | (apply s_lstore; rfl; rfl; rfl; rfl; rfl) | (apply s_callB (hm := YC.m _ _); rfl; intro h3 o3 b3) | ((with_reducible refine YCi (f := 85) ?_); (refine k85 (q := p) ?_; intro h2 o2 b2)) | ((with_reducible refine YCi (f := 84) ?_); (refine k84 (by omega) (by omega) fun h1 e1 => ?_; intro h2 o2 b2)) | ((with_reducible refine YCi (f := 96) ?_); (refine k96 (by omega) (by omega) fun h1 e1 => ?_; intro h2 o2 b2))
  refine cast (congrArg (fun v => Q v _) ?_) (hq _ exty)
  simp only [bv_sb, if_true]
  have hp := p.den_nz
  by_cases h0 : q = 0
  · subst h0
    have hz : p.den * (0 : Rat).num.natAbs = 0 := by show p.den * 0 = 0; simp
    have e : p / 0 = 0 := by simp [Rat.div_def]
    rw [if_pos hz, hz, e]
    rfl
  · have hqn : q.num.natAbs ≠ 0 := by
      intro e
      exact h0 (Rat.num_eq_zero.mp (by omega))
    have hz : ¬ p.den * q.num.natAbs = 0 := Nat.mul_ne_zero hp hqn
    rw [if_neg hz, div_rq h0]
    simp only [h0, hz]
    rfl
theorem q_cvLm {x : X} {fr : Fr} {k : IntKind} {a : Int} (hx : vl fr x = some (.int k a)) : qO (.conv .u64 x) fr h = some (.v (.int .u64 (a % 18446744073709551616))) := by
  simp [qO, hx, wU64]
theorem q_negL {x : X} {fr : Fr} {n : Int} (hx : vl fr x = some (.int .u64 (n % 18446744073709551616))) (hn : -9223372036854775808 ≤ n ∧ n < 0) : qO (.un .neg x) fr h = some (.v (.int .u64 ((n.natAbs : Nat) : Int))) := by
  simp only [qO, hx, unV, wU64]
  congr 3
  omega
theorem k68 {n : Int} (hn : -9223372036854775808 ≤ n ∧ n ≤ 9223372036854775807) (hq : ∀ h', Ext h h' → Q (.string (bs (sb n.natAbs))) h') : YC Tryz.prog B0 68 [.int .i64 n] Q h := by
  refine enterF mix Tryz.func68 ok68 rfl (tm := [(0, _)]) (bx := []) rfl rfl fun hp => ?_
  by_cases h0 : n < 0
  · have hr : -9223372036854775808 ≤ n ∧ n < 0 := ⟨hn.1, h0⟩
    repeat' first | (with_reducible first | exact SetAt.z | apply SetAt.s | apply s_end | exact Kept.nil) | refine qq (hk := ?_) | ((with_reducible first | apply Kept.cons | apply q_blky); rfl) | ((with_reducible apply Kept.skip); rfl) | (apply s_q; rfl; (first | ((with_reducible apply q_cvLm); rfl) | ((with_reducible apply q_negL); rfl; exact hr))) | refine wq (hk := ?_) | (apply c_condP; rfl; exact bpx; all_goals intro hc) | ((first | apply s_gTP | apply s_gFP); rfl; exact bpx; all_goals intro hg) | (apply s_lalloc; rfl) | ((first | apply s_lbox | apply s_lstoreR); rfl; rfl; rfl) | (apply s_lstore; rfl; rfl; rfl; rfl; rfl) | (apply s_callB (hm := YC.m _ _); rfl; intro h3 o3 b3) | ((with_reducible refine YCi (f := 100) ?_); (refine k100 (by omega) fun h1 e1 => ?_))
    exact hq _ exty
  · obtain ⟨m, rfl⟩ := Int.eq_ofNat_of_zero_le (a := n) (by omega)
    repeat' first | (with_reducible first | exact SetAt.z | apply SetAt.s | apply s_end | exact Kept.nil) | refine qq (hk := ?_) | ((with_reducible first | apply Kept.cons | apply q_blky); rfl) | ((with_reducible apply Kept.skip); rfl) | refine wq (hk := ?_) | (apply c_condP; rfl; exact bpx; all_goals intro hc) | ((first | apply s_gTP | apply s_gFP); rfl; exact bpx; all_goals intro hg) | (apply s_lalloc; rfl) | ((first | apply s_lbox | apply s_lstoreR); rfl; rfl; rfl) | (apply s_lstore; rfl; rfl; rfl; rfl; rfl) | (apply s_callB (hm := YC.m _ _); rfl; intro h3 o3 b3) | ((with_reducible refine YCi (f := 100) ?_); (refine k100 (by omega) fun h1 e1 => ?_))
    exact hq _ exty
theorem int_rq (n : Int) : rq (decide (n < 0)) n.natAbs 1 = (n : Rat) := by
  have := rq_self (n : Rat)
  rwa [Rat.num_intCast, Rat.den_intCast] at this
theorem k32 {n : Int} (hn : -9223372036854775808 ≤ n ∧ n ≤ 9223372036854775807) (hq : ∀ h', Ext h h' → Q (er (n : Rat)) h') : YC Tryz.prog B0 32 [.int .i64 n] Q h := by
  refine enterF mix Tryz.func32 ok32 rfl (tm := [(0, _)]) (bx := [_]) rfl rfl fun hp => ?_
  have hl : (sb n.natAbs).length ≤ 8 := sb_len (by show n.natAbs < 18446744073709551616; omega)
  have h1b : bv [1] = 1 := rfl
  repeat' first | (with_reducible first | exact SetAt.z | apply SetAt.s | apply s_end | exact Kept.nil) | refine qq (hk := ?_) | ((with_reducible first | apply Kept.cons | apply q_blky); rfl) | ((with_reducible apply Kept.skip); rfl) | refine wq (hk := ?_) | (apply c_condP; rfl; exact bpx; all_goals intro hc) | ((first | apply s_gTP | apply s_gFP); rfl; exact bpx; all_goals intro hg) | (apply s_lalloc; rfl) | ((first | apply s_lbox | apply s_lstoreR); rfl; rfl; rfl) | (apply s_lstore; rfl; rfl; rfl; rfl; rfl) | (apply s_callB (hm := YC.m _ _); rfl; intro h3 o3 b3) | ((with_reducible refine YCi (f := 68) ?_); (refine k68 hn fun h1 e1 => ?_)) | ((with_reducible refine YCi (f := 67) ?_); (refine k67 (b := [1]) (by omega) (by decide) (by decide) fun h1 e1 => ?_))
  refine cast (congrArg (fun v => Q v _) ?_) (hq _ exty)
  rw [← int_rq n, bv_sb, h1b]
  rfl
end
end Am
end Go.Proofs.YtfhlblclcdhbiaaGreatDoor
