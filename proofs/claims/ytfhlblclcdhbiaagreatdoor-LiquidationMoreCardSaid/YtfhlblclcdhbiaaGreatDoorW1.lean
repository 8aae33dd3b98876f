/- Products and comparisons of rational numbers. -/
import Derived.Test.YtfhlblclcdhbiaaGreatDoorK26
import Derived.Test.YtfhlblclcdhbiaaGreatDoorT2
namespace Go.Proofs.YtfhlblclcdhbiaaGreatDoor
open Go
set_option linter.unusedVariables false
set_option linter.unusedSimpArgs false
namespace Am
theorem mul_rq {p q : Rat} : rq (!(decide (p.num < 0) == decide (q.num < 0))) (p.num.natAbs * q.num.natAbs) (p.den * q.den) = p * q := by
  rw [Rat.mul_def']
  unfold rq
  congr 1
  by_cases p1 : p.num < 0
  · by_cases q1 : q.num < 0
    · simp only [p1, q1, decide_true, beq_self_eq_true, Bool.not_true, Bool.false_eq_true, if_false]
      rw [Int.natCast_mul]
      conv => rhs; rw [show p.num = -(p.num.natAbs : Int) by omega, show q.num = -(q.num.natAbs : Int) by omega]
      rw [Int.neg_mul_neg]
    · have : (!(decide (p.num < 0) == decide (q.num < 0))) = true := by simp [p1, q1]
      rw [this, if_pos rfl, Int.natCast_mul]
      conv => rhs; rw [show p.num = -(p.num.natAbs : Int) by omega, show q.num = (q.num.natAbs : Int) by omega]
      rw [Int.neg_mul]
  · by_cases q1 : q.num < 0
    · have : (!(decide (p.num < 0) == decide (q.num < 0))) = true := by simp [p1, q1]
      rw [this, if_pos rfl, Int.natCast_mul]
      conv => rhs; rw [show p.num = (p.num.natAbs : Int) by omega, show q.num = -(q.num.natAbs : Int) by omega]
      rw [Int.mul_neg]
    · have : (!(decide (p.num < 0) == decide (q.num < 0))) = false := by simp [p1, q1]
      rw [this, if_neg (by simp), Int.natCast_mul]
      conv => rhs; rw [show p.num = (p.num.natAbs : Int) by omega, show q.num = (q.num.natAbs : Int) by omega]
theorem Bd.mul {p q : Rat} {K : Nat} (hp : Bd K p) (hq : Bd K q) : Bd (K + K) (p * q) := by
  rw [← mul_rq]
  refine Bd.rq (Nat.mul_ne_zero p.den_nz q.den_nz) ?_ ?_
  · rw [Nat.pow_add]; exact Nat.mul_lt_mul'' hp.1 hq.1
  · rw [Nat.pow_add]; exact Nat.mul_lt_mul'' hp.2 hq.2
section
variable {B0 : Nat} {Q : Value → AH → Prop} {h : AH}
theorem k53 {s t : Tri} (hs : s.Le 68719476736) (ht : t.Le 68719476736) (hq : ∀ h', Ext h h' → Q (triT (s.q * t.q)).v h') : YC Tryz.prog B0 53 [s.v, t.v] Q h := by
  obtain ⟨n1, u1, w1⟩ := s
  obtain ⟨n2, u2, w2⟩ := t
  obtain ⟨la1, lb1⟩ := hs
  obtain ⟨la2, lb2⟩ := ht
  simp only at la1 lb1 la2 lb2
  have hq : ∀ h', Ext h h' → Q (er (dec n1 u1 w1 * dec n2 u2 w2)) h' := hq
  show YC Tryz.prog B0 53 [rat n1 (bs u1) (bs w1), rat n2 (bs u2) (bs w2)] Q h
  refine enterF mix Tryz.func53 ok53 rfl (tm := [(0, _), (1, _)]) (bx := [_, _, _]) rfl rfl fun hp => ?_
  have hb1 := Bd.sb (Bd.dec (neg := n1) (K := 68719476736) (by decide) la1 lb1)
  have hb2 := Bd.sb (Bd.dec (neg := n2) (K := 68719476736) (by decide) la2 lb2)
  have hd1 := sb_len (Bd.dec (neg := n1) (K := 68719476736) (by decide) la1 lb1).2
  have hd2 := sb_len (Bd.dec (neg := n2) (K := 68719476736) (by decide) la2 lb2).2
  repeat' first | (with_reducible first | exact SetAt.z | apply SetAt.s | apply s_end | exact Kept.nil) | refine qq (hk := ?_) | ((with_reducible first | apply Kept.cons | apply q_blky); rfl) | ((with_reducible apply Kept.skip); rfl) | (apply s_q; rfl; (first | ((with_reducible apply q_beqT); rfl; rfl))) | refine wq (hk := ?_) | (apply c_condP; rfl; exact bpx; all_goals intro hc) | ((first | apply s_gTP | apply s_gFP); rfl; exact bpx; all_goals intro hg) | (apply s_lalloc; rfl) | ((first | apply s_lbox | apply s_lstoreR); rfl; rfl; rfl) | (apply s_lstore; rfl; rfl; rfl; rfl; rfl) | (apply s_callB (hm := YC.m _ _); rfl; intro h3 o3 b3) | ((with_reducible refine YCi (f := 65) ?_); (refine k65 la1 lb1 fun h1 e1 => ?_; try intro h2 o2 b2)) | ((with_reducible refine YCi (f := 65) ?_); (refine k65 la2 lb2 fun h1 e1 => ?_; try intro h2 o2 b2))
  generalize dec n1 u1 w1 = p at *
  generalize dec n2 u2 w2 = q at *
  have ml : ∀ s t : List UInt8, (sb (bv s * bv t)).length ≤ s.length + t.length := by
    intro s t
    refine sb_len ?_
    rw [Nat.pow_add]; exact Nat.mul_lt_mul'' (bv_lt s) (bv_lt t)
  have m1 := ml (sb p.num.natAbs) (sb q.num.natAbs)
  have m2 := ml (sb p.den) (sb q.den)
  refine k84 (by omega) (by omega) fun h4 e4 => ?_
  intro h5 o5 b5
  repeat' first | (with_reducible first | exact SetAt.z | apply SetAt.s | apply s_end | exact Kept.nil) | refine qq (hk := ?_) | ((with_reducible first | apply Kept.cons | apply q_blky); rfl) | ((with_reducible apply Kept.skip); rfl) | refine wq (hk := ?_) | (apply c_condP; rfl; exact bpx; all_goals intro hc) | ((first | apply s_gTP | apply s_gFP); rfl; exact bpx; all_goals intro hg) | (apply s_lalloc; rfl) | ((first | apply s_lbox | apply s_lstoreR); rfl; rfl; rfl) | (apply s_lstore; rfl; rfl; rfl; rfl; rfl) | (apply s_callB (hm := YC.m _ _); rfl; intro h3 o3 b3)
  refine k85 (q := p) ?_
  intro h6 o6 b6
  repeat' first | (with_reducible first | exact SetAt.z | apply SetAt.s | apply s_end | exact Kept.nil) | refine qq (hk := ?_) | ((with_reducible first | apply Kept.cons | apply q_blky); rfl) | ((with_reducible apply Kept.skip); rfl) | refine wq (hk := ?_) | (apply c_condP; rfl; exact bpx; all_goals intro hc) | ((first | apply s_gTP | apply s_gFP); rfl; exact bpx; all_goals intro hg) | (apply s_lalloc; rfl) | ((first | apply s_lbox | apply s_lstoreR); rfl; rfl; rfl) | (apply s_lstore; rfl; rfl; rfl; rfl; rfl) | (apply s_callB (hm := YC.m _ _); rfl; intro h3 o3 b3)
  refine k85 (q := q) ?_
  intro h7 o7 b7
  repeat' first | (with_reducible first | exact SetAt.z | apply SetAt.s | apply s_end | exact Kept.nil) | refine qq (hk := ?_) | ((with_reducible first | apply Kept.cons | apply q_blky); rfl) | ((with_reducible apply Kept.skip); rfl) | refine wq (hk := ?_) | (apply c_condP; rfl; exact bpx; all_goals intro hc) | ((first | apply s_gTP | apply s_gFP); rfl; exact bpx; all_goals intro hg) | (apply s_lalloc; rfl) | ((first | apply s_lbox | apply s_lstoreR); rfl; rfl; rfl) | (apply s_lstore; rfl; rfl; rfl; rfl; rfl) | (apply s_callB (hm := YC.m _ _); rfl; intro h3 o3 b3)
  refine k84 (by omega) (by omega) fun h8 e8 => ?_
  intro h9 o9 b9
  repeat' first | (with_reducible first | exact SetAt.z | apply SetAt.s | apply s_end | exact Kept.nil) | refine qq (hk := ?_) | ((with_reducible first | apply Kept.cons | apply q_blky); rfl) | ((with_reducible apply Kept.skip); rfl) | refine wq (hk := ?_) | (apply c_condP; rfl; exact bpx; all_goals intro hc) | ((first | apply s_gTP | apply s_gFP); rfl; exact bpx; all_goals intro hg) | (apply s_lalloc; rfl) | ((first | apply s_lbox | apply s_lstoreR); rfl; rfl; rfl) | (apply s_lstore; rfl; rfl; rfl; rfl; rfl) | (apply s_callB (hm := YC.m _ _); rfl; intro h3 o3 b3)
  have hd : bv (sb (bv (sb p.den) * bv (sb q.den))) ≠ 0 := by
    rw [bv_sb, bv_sb, bv_sb]
    exact Nat.mul_ne_zero p.den_nz q.den_nz
  refine k67 (by omega) (by omega) hd fun h10 e10 => ?_
  intro h11 o11 b11
  repeat' first | (with_reducible first | exact SetAt.z | apply SetAt.s | apply s_end | exact Kept.nil) | refine qq (hk := ?_) | ((with_reducible first | apply Kept.cons | apply q_blky); rfl) | ((with_reducible apply Kept.skip); rfl) | refine wq (hk := ?_) | (apply c_condP; rfl; exact bpx; all_goals intro hc) | ((first | apply s_gTP | apply s_gFP); rfl; exact bpx; all_goals intro hg) | (apply s_lalloc; rfl) | ((first | apply s_lbox | apply s_lstoreR); rfl; rfl; rfl) | (apply s_lstore; rfl; rfl; rfl; rfl; rfl) | (apply s_callB (hm := YC.m _ _); rfl; intro h3 o3 b3)
  simp only [bv_sb, mul_rq]
  exact hq _ exty
theorem k89 {p q : Rat} {K : Nat} (hK : K ≤ 34359738368) (hp0 : Bd K p) (hq0 : Bd K q) (hq : ∀ h', Ext h h' → Q (er (p * q)) h') : YC Tryz.prog B0 89 [er p, er q] Q h := by
  refine enterF mix Tryz.func89 ok89 rfl (tm := [(0, _), (1, _)]) (bx := [_, _, _]) rfl rfl fun hp => ?_
  have e0 : er 0 = rat false ⟨#[]⟩ ⟨#[]⟩ := er_zero
  by_cases p0 : sb p.num.natAbs = []
  · have e : p * q = 0 := by
      have : p = 0 := Rat.num_eq_zero.mp (by rw [sb_nil] at p0; omega)
      rw [this, Rat.zero_mul]
    rw [e, e0] at hq
    repeat' first | (with_reducible first | exact SetAt.z | apply SetAt.s | apply s_end | exact Kept.nil) | refine qq (hk := ?_) | ((with_reducible first | apply Kept.cons | apply q_blky); rfl) | ((with_reducible apply Kept.skip); rfl) | refine wq (hk := ?_) | (apply c_condP; rfl; exact bpx; all_goals intro hc) | ((first | apply s_gTP | apply s_gFP); rfl; exact bpx; all_goals intro hg) | (apply s_lalloc; rfl) | ((first | apply s_lbox | apply s_lstoreR); rfl; rfl; rfl) | (apply s_lstore; rfl; rfl; rfl; rfl; rfl) | (apply s_callB (hm := YC.m _ _); rfl; intro h3 o3 b3)
    exact hq _ exty
  by_cases q0 : sb q.num.natAbs = []
  · have e : p * q = 0 := by
      have : q = 0 := Rat.num_eq_zero.mp (by rw [sb_nil] at q0; omega)
      rw [this, Rat.mul_zero]
    rw [e, e0] at hq
    repeat' first | (with_reducible first | exact SetAt.z | apply SetAt.s | apply s_end | exact Kept.nil) | refine qq (hk := ?_) | ((with_reducible first | apply Kept.cons | apply q_blky); rfl) | ((with_reducible apply Kept.skip); rfl) | refine wq (hk := ?_) | (apply c_condP; rfl; exact bpx; all_goals intro hc) | ((first | apply s_gTP | apply s_gFP); rfl; exact bpx; all_goals intro hg) | (apply s_lalloc; rfl) | ((first | apply s_lbox | apply s_lstoreR); rfl; rfl; rfl) | (apply s_lstore; rfl; rfl; rfl; rfl; rfl) | (apply s_callB (hm := YC.m _ _); rfl; intro h3 o3 b3)
    exact hq _ exty
  have lp := hp0.sb
  have lq := hq0.sb
  have lpn := li_le hp0.1
  have lpd := li_le hp0.2
  have lqn := li_le hq0.1
  have lqd := li_le hq0.2
  have lx := li_le (lt_mul hp0.1 hq0.1)
  have ly := li_le (lt_mul hp0.2 hq0.2)
  have lx' : (li (p.num.natAbs * q.num.natAbs)).length ≤ 274877906944 := by omega
  have ly' : (li (p.den * q.den)).length ≤ 274877906944 := by omega
  have hd : p.den * q.den ≠ 0 := Nat.mul_ne_zero p.den_nz q.den_nz
  repeat' first | (with_reducible first | exact SetAt.z | apply SetAt.s | apply s_end | exact Kept.nil) | refine qq (hk := ?_) | ((with_reducible first | apply Kept.cons | apply q_blky); rfl) | ((with_reducible apply Kept.skip); rfl) | (apply s_q; rfl; (first | ((with_reducible apply q_beqT); rfl; rfl))) | refine wq (hk := ?_) | (apply c_condP; rfl; exact bpx; all_goals intro hc) | ((first | apply s_gTP | apply s_gFP); rfl; exact bpx; all_goals intro hg) | (apply s_lalloc; rfl) | ((first | apply s_lbox | apply s_lstoreR); rfl; rfl; rfl) | (apply s_lstore; rfl; rfl; rfl; rfl; rfl) | (apply s_callB (hm := YC.m _ _); rfl; intro h3 o3 b3)
  refine k105 (by omega) fun v1 h1 e1 u1 => ?_
  rw [bv_sb] at u1
  intro h2 o2 b2
  rw [← o2] at u1
  repeat' first | (with_reducible first | exact SetAt.z | apply SetAt.s | apply s_end | exact Kept.nil) | refine qq (hk := ?_) | ((with_reducible first | apply Kept.cons | apply q_blky); rfl) | ((with_reducible apply Kept.skip); rfl) | refine wq (hk := ?_) | (apply c_condP; rfl; exact bpx; all_goals intro hc) | ((first | apply s_gTP | apply s_gFP); rfl; exact bpx; all_goals intro hg) | (apply s_lalloc; rfl) | ((first | apply s_lbox | apply s_lstoreR); rfl; rfl; rfl) | (apply s_lstore; rfl; rfl; rfl; rfl; rfl) | (apply s_callB (hm := YC.m _ _); rfl; intro h3 o3 b3)
  refine k105 (by omega) fun v2 h4 e4 u4 => ?_
  rw [bv_sb] at u4
  rw [← o3] at u1
  have u1 := u1.ext e4
  intro h5 o5 b5
  rw [← o5] at u1 u4
  repeat' first | (with_reducible first | exact SetAt.z | apply SetAt.s | apply s_end | exact Kept.nil) | refine qq (hk := ?_) | ((with_reducible first | apply Kept.cons | apply q_blky); rfl) | ((with_reducible apply Kept.skip); rfl) | refine wq (hk := ?_) | (apply c_condP; rfl; exact bpx; all_goals intro hc) | ((first | apply s_gTP | apply s_gFP); rfl; exact bpx; all_goals intro hg) | (apply s_lalloc; rfl) | ((first | apply s_lbox | apply s_lstoreR); rfl; rfl; rfl) | (apply s_lstore; rfl; rfl; rfl; rfl; rfl) | (apply s_callB (hm := YC.m _ _); rfl; intro h3 o3 b3)
  refine k104 (a := p.num.natAbs) (b := q.num.natAbs) (by omega) (by omega) (by rw [o3]; exact u1) (by rw [o3]; exact u4) fun x h6 e6 ux => ?_
  intro h7 o7 b7
  rw [← o7] at ux
  repeat' first | (with_reducible first | exact SetAt.z | apply SetAt.s | apply s_end | exact Kept.nil) | refine qq (hk := ?_) | ((with_reducible first | apply Kept.cons | apply q_blky); rfl) | ((with_reducible apply Kept.skip); rfl) | refine wq (hk := ?_) | (apply c_condP; rfl; exact bpx; all_goals intro hc) | ((first | apply s_gTP | apply s_gFP); rfl; exact bpx; all_goals intro hg) | (apply s_lalloc; rfl) | ((first | apply s_lbox | apply s_lstoreR); rfl; rfl; rfl) | (apply s_lstore; rfl; rfl; rfl; rfl; rfl) | (apply s_callB (hm := YC.m _ _); rfl; intro h3 o3 b3)
  refine k106 (q := p) (by omega) hp0 fun v3 h8 e8 u8 => ?_
  rw [← o3] at ux
  have ux := ux.ext e8
  intro h9 o9 b9
  rw [← o9] at ux u8
  repeat' first | (with_reducible first | exact SetAt.z | apply SetAt.s | apply s_end | exact Kept.nil) | refine qq (hk := ?_) | ((with_reducible first | apply Kept.cons | apply q_blky); rfl) | ((with_reducible apply Kept.skip); rfl) | refine wq (hk := ?_) | (apply c_condP; rfl; exact bpx; all_goals intro hc) | ((first | apply s_gTP | apply s_gFP); rfl; exact bpx; all_goals intro hg) | (apply s_lalloc; rfl) | ((first | apply s_lbox | apply s_lstoreR); rfl; rfl; rfl) | (apply s_lstore; rfl; rfl; rfl; rfl; rfl) | (apply s_callB (hm := YC.m _ _); rfl; intro h3 o3 b3)
  refine k106 (q := q) (by omega) hq0 fun v4 h10 e10 u10 => ?_
  rw [← o3] at ux u8
  have ux := ux.ext e10
  have u8 := u8.ext e10
  intro h11 o11 b11
  rw [← o11] at ux u8 u10
  repeat' first | (with_reducible first | exact SetAt.z | apply SetAt.s | apply s_end | exact Kept.nil) | refine qq (hk := ?_) | ((with_reducible first | apply Kept.cons | apply q_blky); rfl) | ((with_reducible apply Kept.skip); rfl) | refine wq (hk := ?_) | (apply c_condP; rfl; exact bpx; all_goals intro hc) | ((first | apply s_gTP | apply s_gFP); rfl; exact bpx; all_goals intro hg) | (apply s_lalloc; rfl) | ((first | apply s_lbox | apply s_lstoreR); rfl; rfl; rfl) | (apply s_lstore; rfl; rfl; rfl; rfl; rfl) | (apply s_callB (hm := YC.m _ _); rfl; intro h3 o3 b3)
  refine k104 (a := p.den) (b := q.den) (by omega) (by omega) (by rw [o3]; exact u8) (by rw [o3]; exact u10) fun y h12 e12 uy => ?_
  rw [← o3] at ux
  have ux := ux.ext e12
  intro h13 o13 b13
  rw [← o13] at ux uy
  repeat' first | (with_reducible first | exact SetAt.z | apply SetAt.s | apply s_end | exact Kept.nil) | refine qq (hk := ?_) | ((with_reducible first | apply Kept.cons | apply q_blky); rfl) | ((with_reducible apply Kept.skip); rfl) | refine wq (hk := ?_) | (apply c_condP; rfl; exact bpx; all_goals intro hc) | ((first | apply s_gTP | apply s_gFP); rfl; exact bpx; all_goals intro hg) | (apply s_lalloc; rfl) | ((first | apply s_lbox | apply s_lstoreR); rfl; rfl; rfl) | (apply s_lstore; rfl; rfl; rfl; rfl; rfl) | (apply s_callB (hm := YC.m _ _); rfl; intro h3 o3 b3)
  refine k103 (n := p.num.natAbs * q.num.natAbs) (d := p.den * q.den) lx' ly' hd (by rw [o3]; exact ux) (by rw [o3]; exact uy) fun h14 e14 => ?_
  intro h15 o15 b15
  repeat' first | (with_reducible first | exact SetAt.z | apply SetAt.s | apply s_end | exact Kept.nil) | refine qq (hk := ?_) | ((with_reducible first | apply Kept.cons | apply q_blky); rfl) | ((with_reducible apply Kept.skip); rfl) | refine wq (hk := ?_) | (apply c_condP; rfl; exact bpx; all_goals intro hc) | ((first | apply s_gTP | apply s_gFP); rfl; exact bpx; all_goals intro hg) | (apply s_lalloc; rfl) | ((first | apply s_lbox | apply s_lstoreR); rfl; rfl; rfl) | (apply s_lstore; rfl; rfl; rfl; rfl; rfl) | (apply s_callB (hm := YC.m _ _); rfl; intro h3 o3 b3)
  rw [← mul_rq] at hq
  exact hq _ exty
theorem k56 {s t : Tri} {K : Nat} (hK0 : 0 < K) (hK : K ≤ 34359738368) (hs : s.Le K) (ht : t.Le K) (hq : ∀ h', Ext h h' → Q (triT (s.q * t.q)).v h') : YC Tryz.prog B0 56 [s.v, t.v] Q h := by
  refine enterF mix Tryz.func56 ok56 rfl (tm := [(0, _), (1, _)]) (bx := [_, _, _]) rfl rfl fun hp => ?_
  repeat' first | (with_reducible first | exact SetAt.z | apply SetAt.s | apply s_end | exact Kept.nil) | refine qq (hk := ?_) | ((with_reducible first | apply Kept.cons | apply q_blky); rfl) | ((with_reducible apply Kept.skip); rfl) | refine wq (hk := ?_) | (apply c_condP; rfl; exact bpx; all_goals intro hc) | ((first | apply s_gTP | apply s_gFP); rfl; exact bpx; all_goals intro hg) | (apply s_lalloc; rfl) | ((first | apply s_lbox | apply s_lstoreR); rfl; rfl; rfl) | (apply s_lstore; rfl; rfl; rfl; rfl; rfl) | (apply s_callB (hm := YC.m _ _); rfl; intro h3 o3 b3)
  refine k35' (t := s) (hs.mono (by omega)) fun h1 e1 => ?_
  intro h2 o2 b2
  repeat' first | (with_reducible first | exact SetAt.z | apply SetAt.s | apply s_end | exact Kept.nil) | refine qq (hk := ?_) | ((with_reducible first | apply Kept.cons | apply q_blky); rfl) | ((with_reducible apply Kept.skip); rfl) | refine wq (hk := ?_) | (apply c_condP; rfl; exact bpx; all_goals intro hc) | ((first | apply s_gTP | apply s_gFP); rfl; exact bpx; all_goals intro hg) | (apply s_lalloc; rfl) | ((first | apply s_lbox | apply s_lstoreR); rfl; rfl; rfl) | (apply s_lstore; rfl; rfl; rfl; rfl; rfl) | (apply s_callB (hm := YC.m _ _); rfl; intro h3 o3 b3)
  refine k35' (t := t) (ht.mono (by omega)) fun h4 e4 => ?_
  intro h5 o5 b5
  repeat' first | (with_reducible first | exact SetAt.z | apply SetAt.s | apply s_end | exact Kept.nil) | refine qq (hk := ?_) | ((with_reducible first | apply Kept.cons | apply q_blky); rfl) | ((with_reducible apply Kept.skip); rfl) | refine wq (hk := ?_) | (apply c_condP; rfl; exact bpx; all_goals intro hc) | ((first | apply s_gTP | apply s_gFP); rfl; exact bpx; all_goals intro hg) | (apply s_lalloc; rfl) | ((first | apply s_lbox | apply s_lstoreR); rfl; rfl; rfl) | (apply s_lstore; rfl; rfl; rfl; rfl; rfl) | (apply s_callB (hm := YC.m _ _); rfl; intro h3 o3 b3)
  refine k89 (p := s.q) (q := t.q) hK (hs.bd hK0) (ht.bd hK0) fun h6 e6 => ?_
  intro h7 o7 b7
  repeat' first | (with_reducible first | exact SetAt.z | apply SetAt.s | apply s_end | exact Kept.nil) | refine qq (hk := ?_) | ((with_reducible first | apply Kept.cons | apply q_blky); rfl) | ((with_reducible apply Kept.skip); rfl) | refine wq (hk := ?_) | (apply c_condP; rfl; exact bpx; all_goals intro hc) | ((first | apply s_gTP | apply s_gFP); rfl; exact bpx; all_goals intro hg) | (apply s_lalloc; rfl) | ((first | apply s_lbox | apply s_lstoreR); rfl; rfl; rfl) | (apply s_lstore; rfl; rfl; rfl; rfl; rfl) | (apply s_callB (hm := YC.m _ _); rfl; intro h3 o3 b3)
  exact hq _ exty
theorem k20 {s t : Tri} {K : Nat} (hK0 : 0 < K) (hK : K ≤ 34359738368) (hs : s.Le K) (ht : t.Le K) (hq : ∀ h', Ext h h' → Q (.int .i64 (sgn (s.q - t.q))) h') : YC Tryz.prog B0 20 [s.v, t.v] Q h := by
  refine enterF mix Tryz.func20 ok20 rfl (tm := [(0, _), (1, _)]) (bx := [_, _]) rfl rfl fun hp => ?_
  repeat' first | (with_reducible first | exact SetAt.z | apply SetAt.s | apply s_end | exact Kept.nil) | refine qq (hk := ?_) | ((with_reducible first | apply Kept.cons | apply q_blky); rfl) | ((with_reducible apply Kept.skip); rfl) | refine wq (hk := ?_) | (apply c_condP; rfl; exact bpx; all_goals intro hc) | ((first | apply s_gTP | apply s_gFP); rfl; exact bpx; all_goals intro hg) | (apply s_lalloc; rfl) | ((first | apply s_lbox | apply s_lstoreR); rfl; rfl; rfl) | (apply s_lstore; rfl; rfl; rfl; rfl; rfl) | (apply s_callB (hm := YC.m _ _); rfl; intro h3 o3 b3)
  refine k35' (t := s) (hs.mono (by omega)) fun h1 e1 => ?_
  intro h2 o2 b2
  repeat' first | (with_reducible first | exact SetAt.z | apply SetAt.s | apply s_end | exact Kept.nil) | refine qq (hk := ?_) | ((with_reducible first | apply Kept.cons | apply q_blky); rfl) | ((with_reducible apply Kept.skip); rfl) | refine wq (hk := ?_) | (apply c_condP; rfl; exact bpx; all_goals intro hc) | ((first | apply s_gTP | apply s_gFP); rfl; exact bpx; all_goals intro hg) | (apply s_lalloc; rfl) | ((first | apply s_lbox | apply s_lstoreR); rfl; rfl; rfl) | (apply s_lstore; rfl; rfl; rfl; rfl; rfl) | (apply s_callB (hm := YC.m _ _); rfl; intro h3 o3 b3)
  refine k35' (t := t) (ht.mono (by omega)) fun h4 e4 => ?_
  intro h5 o5 b5
  repeat' first | (with_reducible first | exact SetAt.z | apply SetAt.s | apply s_end | exact Kept.nil) | refine qq (hk := ?_) | ((with_reducible first | apply Kept.cons | apply q_blky); rfl) | ((with_reducible apply Kept.skip); rfl) | refine wq (hk := ?_) | (apply c_condP; rfl; exact bpx; all_goals intro hc) | ((first | apply s_gTP | apply s_gFP); rfl; exact bpx; all_goals intro hg) | (apply s_lalloc; rfl) | ((first | apply s_lbox | apply s_lstoreR); rfl; rfl; rfl) | (apply s_lstore; rfl; rfl; rfl; rfl; rfl) | (apply s_callB (hm := YC.m _ _); rfl; intro h3 o3 b3)
  refine k48 (p := s.q) (q := t.q) hK (hs.bd hK0) (ht.bd hK0) fun h6 e6 => ?_
  intro h7 o7 b7
  repeat' first | (with_reducible first | exact SetAt.z | apply SetAt.s | apply s_end | exact Kept.nil) | refine qq (hk := ?_) | ((with_reducible first | apply Kept.cons | apply q_blky); rfl) | ((with_reducible apply Kept.skip); rfl) | refine wq (hk := ?_) | (apply c_condP; rfl; exact bpx; all_goals intro hc) | ((first | apply s_gTP | apply s_gFP); rfl; exact bpx; all_goals intro hg) | (apply s_lalloc; rfl) | ((first | apply s_lbox | apply s_lstoreR); rfl; rfl; rfl) | (apply s_lstore; rfl; rfl; rfl; rfl; rfl) | (apply s_callB (hm := YC.m _ _); rfl; intro h3 o3 b3)
  refine k47 ?_
  intro h8 o8 b8
  repeat' first | (with_reducible first | exact SetAt.z | apply SetAt.s | apply s_end | exact Kept.nil) | refine qq (hk := ?_) | ((with_reducible first | apply Kept.cons | apply q_blky); rfl) | ((with_reducible apply Kept.skip); rfl) | refine wq (hk := ?_) | (apply c_condP; rfl; exact bpx; all_goals intro hc) | ((first | apply s_gTP | apply s_gFP); rfl; exact bpx; all_goals intro hg) | (apply s_lalloc; rfl) | ((first | apply s_lbox | apply s_lstoreR); rfl; rfl; rfl) | (apply s_lstore; rfl; rfl; rfl; rfl; rfl) | (apply s_callB (hm := YC.m _ _); rfl; intro h3 o3 b3)
  exact hq _ exty
theorem k21 {s t : Tri} {K : Nat} (hK0 : 0 < K) (hK : K ≤ 34359738368) (hs : s.Le K) (ht : t.Le K) (hq : ∀ h', Ext h h' → Q (triT (if t.q < s.q then t.q else s.q)).v h') : YC Tryz.prog B0 21 [s.v, t.v] Q h := by
  refine enterF mix Tryz.func21 ok21 rfl (tm := [(0, _), (1, _)]) (bx := [_, _, _]) rfl rfl fun hp => ?_
  repeat' first | (with_reducible first | exact SetAt.z | apply SetAt.s | apply s_end | exact Kept.nil) | refine qq (hk := ?_) | ((with_reducible first | apply Kept.cons | apply q_blky); rfl) | ((with_reducible apply Kept.skip); rfl) | refine wq (hk := ?_) | (apply c_condP; rfl; exact bpx; all_goals intro hc) | ((first | apply s_gTP | apply s_gFP); rfl; exact bpx; all_goals intro hg) | (apply s_lalloc; rfl) | ((first | apply s_lbox | apply s_lstoreR); rfl; rfl; rfl) | (apply s_lstore; rfl; rfl; rfl; rfl; rfl) | (apply s_callB (hm := YC.m _ _); rfl; intro h3 o3 b3)
  refine k35' (t := s) (hs.mono (by omega)) fun h1 e1 => ?_
  intro h2 o2 b2
  repeat' first | (with_reducible first | exact SetAt.z | apply SetAt.s | apply s_end | exact Kept.nil) | refine qq (hk := ?_) | ((with_reducible first | apply Kept.cons | apply q_blky); rfl) | ((with_reducible apply Kept.skip); rfl) | refine wq (hk := ?_) | (apply c_condP; rfl; exact bpx; all_goals intro hc) | ((first | apply s_gTP | apply s_gFP); rfl; exact bpx; all_goals intro hg) | (apply s_lalloc; rfl) | ((first | apply s_lbox | apply s_lstoreR); rfl; rfl; rfl) | (apply s_lstore; rfl; rfl; rfl; rfl; rfl) | (apply s_callB (hm := YC.m _ _); rfl; intro h3 o3 b3)
  refine k35' (t := t) (ht.mono (by omega)) fun h4 e4 => ?_
  intro h5 o5 b5
  repeat' first | (with_reducible first | exact SetAt.z | apply SetAt.s | apply s_end | exact Kept.nil) | refine qq (hk := ?_) | ((with_reducible first | apply Kept.cons | apply q_blky); rfl) | ((with_reducible apply Kept.skip); rfl) | refine wq (hk := ?_) | (apply c_condP; rfl; exact bpx; all_goals intro hc) | ((first | apply s_gTP | apply s_gFP); rfl; exact bpx; all_goals intro hg) | (apply s_lalloc; rfl) | ((first | apply s_lbox | apply s_lstoreR); rfl; rfl; rfl) | (apply s_lstore; rfl; rfl; rfl; rfl; rfl) | (apply s_callB (hm := YC.m _ _); rfl; intro h3 o3 b3)
  refine k37 (p := s.q) (q := t.q) hK (hs.bd hK0) (ht.bd hK0) fun h6 e6 => ?_
  intro h7 o7 b7
  repeat' first | (with_reducible first | exact SetAt.z | apply SetAt.s | apply s_end | exact Kept.nil) | refine qq (hk := ?_) | ((with_reducible first | apply Kept.cons | apply q_blky); rfl) | ((with_reducible apply Kept.skip); rfl) | refine wq (hk := ?_) | (apply c_condP; rfl; exact bpx; all_goals intro hc) | ((first | apply s_gTP | apply s_gFP); rfl; exact bpx; all_goals intro hg) | (apply s_lalloc; rfl) | ((first | apply s_lbox | apply s_lstoreR); rfl; rfl; rfl) | (apply s_lstore; rfl; rfl; rfl; rfl; rfl) | (apply s_callB (hm := YC.m _ _); rfl; intro h3 o3 b3)
  exact hq _ exty
theorem k64' {s t : Tri} (hs : s.Le 68719476736) (ht : t.Le 68719476736) (hq : ∀ h', Ext h h' → Q (.int .i64 (cmpq s.q t.q)) h') : YC Tryz.prog B0 64 [s.v, t.v] Q h := k64 hs.1 hs.2 ht.1 ht.2 hq
end
end Am
end Go.Proofs.YtfhlblclcdhbiaaGreatDoor
