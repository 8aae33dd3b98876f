/- The reference's rational numbers: sums, quotients, order. -/
import Derived.Test.YtfhlblclcdhbiaaGreatDoorK15
namespace Go.Proofs.YtfhlblclcdhbiaaGreatDoor
open Go
set_option linter.unusedVariables false
set_option linter.unusedSimpArgs false
namespace Am
section
variable {B0 : Nat} {Q : Value → AH → Prop} {h : AH}
theorem q_beqF {x y : X} {fr : Fr} {s t : Bool} (hx : vl fr x = some (.bool s)) (hy : vl fr y = some (.bool t)) : qO (.beq false x y) fr h = some (.v (.bool (s == t))) := by
  simp [qO, hx, hy, beqV]
/-- a number's numerator by its sign and its size -/
theorem num_of (q : Rat) : q.num = if q.num < 0 then -(q.num.natAbs : Int) else q.num.natAbs := by split <;> omega
theorem add_rq {p q : Rat} : p + q = mkRat (p.num * q.den + q.num * p.den) (p.den * q.den) := Rat.add_def' p q
theorem add_same {p q : Rat} (h : decide (p.num < 0) = decide (q.num < 0)) : rq (decide (p.num < 0)) (p.num.natAbs * q.den + q.num.natAbs * p.den) (p.den * q.den) = p + q := by
  rw [add_rq, rq]
  congr 1
  have h1 := num_of p
  have h2 := num_of q
  have e1 : ((p.num.natAbs * q.den + q.num.natAbs * p.den : Nat) : Int) = (p.num.natAbs : Int) * q.den + (q.num.natAbs : Int) * p.den := by rw [Int.natCast_add, Int.natCast_mul, Int.natCast_mul]
  rw [e1]
  by_cases p1 : p.num < 0
  · have q1 : q.num < 0 := by rw [decide_eq_true p1] at h; exact of_decide_eq_true h.symm
    rw [if_pos p1] at h1
    rw [if_pos q1] at h2
    simp only [p1, decide_true, if_true]
    conv => rhs; rw [h1, h2]
    rw [Int.neg_mul, Int.neg_mul]; omega
  · have q1 : ¬ q.num < 0 := by rw [decide_eq_false p1] at h; exact of_decide_eq_false h.symm
    rw [if_neg p1] at h1
    rw [if_neg q1] at h2
    simp only [p1, decide_false, Bool.false_eq_true, if_false]
    conv => rhs; rw [h1, h2]
theorem add_diff {p q : Rat} (h : decide (p.num < 0) ≠ decide (q.num < 0)) (hlt : q.num.natAbs * p.den ≤ p.num.natAbs * q.den) : rq (decide (p.num < 0)) (p.num.natAbs * q.den - q.num.natAbs * p.den) (p.den * q.den) = p + q := by
  rw [add_rq, rq]
  congr 1
  have h1 := num_of p
  have h2 := num_of q
  have e1 : ((p.num.natAbs * q.den - q.num.natAbs * p.den : Nat) : Int) = (p.num.natAbs : Int) * q.den - (q.num.natAbs : Int) * p.den := by rw [Int.ofNat_sub hlt, Int.natCast_mul, Int.natCast_mul]
  rw [e1]
  by_cases p1 : p.num < 0
  · have q1 : ¬ q.num < 0 := by
      intro q1
      rw [decide_eq_true p1, decide_eq_true q1] at h
      exact h rfl
    rw [if_pos p1] at h1
    rw [if_neg q1] at h2
    simp only [p1, decide_true, if_true]
    conv => rhs; rw [h1, h2]
    rw [Int.neg_mul]; omega
  · have q1 : q.num < 0 := by
      apply Classical.byContradiction
      intro q1
      rw [decide_eq_false p1, decide_eq_false q1] at h
      exact h rfl
    rw [if_neg p1] at h1
    rw [if_pos q1] at h2
    simp only [p1, decide_false, Bool.false_eq_true, if_false]
    conv => rhs; rw [h1, h2]
    rw [Int.neg_mul]; omega
set_option maxHeartbeats 1000000 in
theorem k75 {p q : Rat} {K : Nat} (hK : K ≤ 34359738368) (hp0 : Bd K p) (hq0 : Bd K q) (hq : ∀ h', Ext h h' → Q (er (p + q)) h') : YC Tryz.prog B0 75 [er p, er q] Q h := by
  refine enterF mix Tryz.func75 ok75 rfl (tm := [(0, _), (1, _)]) (bx := [_, _, _]) rfl rfl fun hp => ?_
  by_cases p0 : sb p.num.natAbs = []
  · have e : p + q = q := by
      have : p = 0 := Rat.num_eq_zero.mp (by rw [sb_nil] at p0; omega)
      rw [this, Rat.zero_add]
    rw [e] at hq
    repeat' first | (with_reducible first | exact SetAt.z | apply SetAt.s | apply s_end | exact Kept.nil) | refine qq (hk := ?_) | ((with_reducible first | apply Kept.cons | apply q_blky); rfl) | ((with_reducible apply Kept.skip); rfl) | refine wq (hk := ?_) | (apply c_condP; rfl; exact bpx; all_goals intro hc) | ((first | apply s_gTP | apply s_gFP); rfl; exact bpx; all_goals intro hg) | (apply s_lalloc; rfl) | ((first | apply s_lbox | apply s_lstoreR); rfl; rfl; rfl) | (apply s_lstore; rfl; rfl; rfl; rfl; rfl) | (apply s_callB (hm := YC.m _ _); rfl; intro h3 o3 b3)
    exact hq _ exty
  · by_cases q0 : sb q.num.natAbs = []
    · have e : p + q = p := by
        have : q = 0 := Rat.num_eq_zero.mp (by rw [sb_nil] at q0; omega)
        rw [this, Rat.add_zero]
      rw [e] at hq
      repeat' first | (with_reducible first | exact SetAt.z | apply SetAt.s | apply s_end | exact Kept.nil) | refine qq (hk := ?_) | ((with_reducible first | apply Kept.cons | apply q_blky); rfl) | ((with_reducible apply Kept.skip); rfl) | refine wq (hk := ?_) | (apply c_condP; rfl; exact bpx; all_goals intro hc) | ((first | apply s_gTP | apply s_gFP); rfl; exact bpx; all_goals intro hg) | (apply s_lalloc; rfl) | ((first | apply s_lbox | apply s_lstoreR); rfl; rfl; rfl) | (apply s_lstore; rfl; rfl; rfl; rfl; rfl) | (apply s_callB (hm := YC.m _ _); rfl; intro h3 o3 b3)
      exact hq _ exty
    · have lp := hp0.sb
      have lq := hq0.sb
      have lpn := li_le hp0.1
      have lpd := li_le hp0.2
      have lqn := li_le hq0.1
      have lqd := li_le hq0.2
      have bx1 := lt_mul hp0.1 hq0.2
      have by1 := lt_mul hq0.1 hp0.2
      have bd1 := lt_mul hp0.2 hq0.2
      have bs1 := lt_add bx1 by1
      have lx := li_le bx1
      have ly := li_le by1
      have ld := li_le bd1
      have ls := li_le bs1
      have lx' : (li (p.num.natAbs * q.den)).length ≤ 274877906944 := by omega
      have ly' : (li (q.num.natAbs * p.den)).length ≤ 274877906944 := by omega
      have hd : p.den * q.den ≠ 0 := Nat.mul_ne_zero p.den_nz q.den_nz
      repeat' first | (with_reducible first | exact SetAt.z | apply SetAt.s | apply s_end | exact Kept.nil) | refine qq (hk := ?_) | ((with_reducible first | apply Kept.cons | apply q_blky); rfl) | ((with_reducible apply Kept.skip); rfl) | refine wq (hk := ?_) | (apply c_condP; rfl; exact bpx; all_goals intro hc) | ((first | apply s_gTP | apply s_gFP); rfl; exact bpx; all_goals intro hg) | (apply s_lalloc; rfl) | ((first | apply s_lbox | apply s_lstoreR); rfl; rfl; rfl) | (apply s_lstore; rfl; rfl; rfl; rfl; rfl) | (apply s_callB (hm := YC.m _ _); rfl; intro h3 o3 b3)
      refine k106 (by omega) hp0 fun v5 h1 e1 u5 => ?_
      repeat' first | (with_reducible first | exact SetAt.z | apply SetAt.s | apply s_end | exact Kept.nil) | refine qq (hk := ?_) | ((with_reducible first | apply Kept.cons | apply q_blky); rfl) | ((with_reducible apply Kept.skip); rfl) | refine wq (hk := ?_) | (apply c_condP; rfl; exact bpx; all_goals intro hc) | ((first | apply s_gTP | apply s_gFP); rfl; exact bpx; all_goals intro hg) | (apply s_lalloc; rfl) | ((first | apply s_lbox | apply s_lstoreR); rfl; rfl; rfl) | (apply s_lstore; rfl; rfl; rfl; rfl; rfl) | (apply s_callB (hm := YC.m _ _); rfl; intro h3 o3 b3)
      refine k106 (by omega) hq0 fun v6 h2 e2 u6 => ?_
      have u5 := u5.ext e2
      repeat' first | (with_reducible first | exact SetAt.z | apply SetAt.s | apply s_end | exact Kept.nil) | refine qq (hk := ?_) | ((with_reducible first | apply Kept.cons | apply q_blky); rfl) | ((with_reducible apply Kept.skip); rfl) | refine wq (hk := ?_) | (apply c_condP; rfl; exact bpx; all_goals intro hc) | ((first | apply s_gTP | apply s_gFP); rfl; exact bpx; all_goals intro hg) | (apply s_lalloc; rfl) | ((first | apply s_lbox | apply s_lstoreR); rfl; rfl; rfl) | (apply s_lstore; rfl; rfl; rfl; rfl; rfl) | (apply s_callB (hm := YC.m _ _); rfl; intro h3 o3 b3)
      refine k105 (by omega) fun v7 h3 e3 u7 => ?_
      rw [bv_sb] at u7
      have u5 := u5.ext e3
      have u6 := u6.ext e3
      repeat' first | (with_reducible first | exact SetAt.z | apply SetAt.s | apply s_end | exact Kept.nil) | refine qq (hk := ?_) | ((with_reducible first | apply Kept.cons | apply q_blky); rfl) | ((with_reducible apply Kept.skip); rfl) | refine wq (hk := ?_) | (apply c_condP; rfl; exact bpx; all_goals intro hc) | ((first | apply s_gTP | apply s_gFP); rfl; exact bpx; all_goals intro hg) | (apply s_lalloc; rfl) | ((first | apply s_lbox | apply s_lstoreR); rfl; rfl; rfl) | (apply s_lstore; rfl; rfl; rfl; rfl; rfl) | (apply s_callB (hm := YC.m _ _); rfl; intro h3 o3 b3)
      refine k104 (by omega) (by omega) u7 u6 fun x h4 e4 ux => ?_
      have u5 := u5.ext e4
      have u6 := u6.ext e4
      repeat' first | (with_reducible first | exact SetAt.z | apply SetAt.s | apply s_end | exact Kept.nil) | refine qq (hk := ?_) | ((with_reducible first | apply Kept.cons | apply q_blky); rfl) | ((with_reducible apply Kept.skip); rfl) | refine wq (hk := ?_) | (apply c_condP; rfl; exact bpx; all_goals intro hc) | ((first | apply s_gTP | apply s_gFP); rfl; exact bpx; all_goals intro hg) | (apply s_lalloc; rfl) | ((first | apply s_lbox | apply s_lstoreR); rfl; rfl; rfl) | (apply s_lstore; rfl; rfl; rfl; rfl; rfl) | (apply s_callB (hm := YC.m _ _); rfl; intro h3 o3 b3)
      refine k105 (by omega) fun v8 h5 e5 u8 => ?_
      rw [bv_sb] at u8
      have u5 := u5.ext e5
      have u6 := u6.ext e5
      have ux := ux.ext e5
      repeat' first | (with_reducible first | exact SetAt.z | apply SetAt.s | apply s_end | exact Kept.nil) | refine qq (hk := ?_) | ((with_reducible first | apply Kept.cons | apply q_blky); rfl) | ((with_reducible apply Kept.skip); rfl) | refine wq (hk := ?_) | (apply c_condP; rfl; exact bpx; all_goals intro hc) | ((first | apply s_gTP | apply s_gFP); rfl; exact bpx; all_goals intro hg) | (apply s_lalloc; rfl) | ((first | apply s_lbox | apply s_lstoreR); rfl; rfl; rfl) | (apply s_lstore; rfl; rfl; rfl; rfl; rfl) | (apply s_callB (hm := YC.m _ _); rfl; intro h3 o3 b3)
      refine k104 (by omega) (by omega) u8 u5 fun y h6 e6 uy => ?_
      have u5 := u5.ext e6
      have u6 := u6.ext e6
      have ux := ux.ext e6
      repeat' first | (with_reducible first | exact SetAt.z | apply SetAt.s | apply s_end | exact Kept.nil) | refine qq (hk := ?_) | ((with_reducible first | apply Kept.cons | apply q_blky); rfl) | ((with_reducible apply Kept.skip); rfl) | refine wq (hk := ?_) | (apply c_condP; rfl; exact bpx; all_goals intro hc) | ((first | apply s_gTP | apply s_gFP); rfl; exact bpx; all_goals intro hg) | (apply s_lalloc; rfl) | ((first | apply s_lbox | apply s_lstoreR); rfl; rfl; rfl) | (apply s_lstore; rfl; rfl; rfl; rfl; rfl) | (apply s_callB (hm := YC.m _ _); rfl; intro h3 o3 b3)
      refine k104 (by omega) (by omega) u5 u6 fun d h7 e7 ud => ?_
      have ux := ux.ext e7
      have uy := uy.ext e7
      by_cases hs : decide (p.num < 0) = decide (q.num < 0)
      · have hc : (decide (p.num < 0) == decide (q.num < 0)) = true := by simpa using hs
        repeat' first | (with_reducible first | exact SetAt.z | apply SetAt.s | apply s_end | exact Kept.nil) | refine qq (hk := ?_) | ((with_reducible first | apply Kept.cons | apply q_blky); rfl) | ((with_reducible apply Kept.skip); rfl) | (apply s_q; rfl; (first | ((with_reducible apply q_beqF); rfl; rfl))) | refine wq (hk := ?_) | (apply c_condP; rfl; exact bpx; all_goals intro hc) | ((first | apply s_gTP | apply s_gFP); rfl; exact bpx; all_goals intro hg) | (apply s_lalloc; rfl) | ((first | apply s_lbox | apply s_lstoreR); rfl; rfl; rfl) | (apply s_lstore; rfl; rfl; rfl; rfl; rfl) | (apply s_callB (hm := YC.m _ _); rfl; intro h3 o3 b3)
        refine k108 (a := p.num.natAbs * q.den) (b := q.num.natAbs * p.den) (by omega) (by omega) (by rw [o3]; exact ux) (by rw [o3]; exact uy) fun z h8 e8 uz => ?_
        intro h9 o9 b9
        have e9 : Ext h7 h9 := Ext.br o3 e8 o9 b9
        have ud9 := ud.ext e9
        rw [← o9] at uz
        repeat' first | (with_reducible first | exact SetAt.z | apply SetAt.s | apply s_end | exact Kept.nil) | refine qq (hk := ?_) | ((with_reducible first | apply Kept.cons | apply q_blky); rfl) | ((with_reducible apply Kept.skip); rfl) | refine wq (hk := ?_) | (apply c_condP; rfl; exact bpx; all_goals intro hc) | ((first | apply s_gTP | apply s_gFP); rfl; exact bpx; all_goals intro hg) | (apply s_lalloc; rfl) | ((first | apply s_lbox | apply s_lstoreR); rfl; rfl; rfl) | (apply s_lstore; rfl; rfl; rfl; rfl; rfl) | (apply s_callB (hm := YC.m _ _); rfl; intro h3 o3 b3)
        refine k103 (n := p.num.natAbs * q.den + q.num.natAbs * p.den) (d := p.den * q.den) (by omega) (by omega) hd (by rw [o3]; exact uz) (by rw [o3]; exact ud9) fun h10 e10 => ?_
        intro h11 o11 b11
        repeat' first | (with_reducible first | exact SetAt.z | apply SetAt.s | apply s_end | exact Kept.nil) | refine qq (hk := ?_) | ((with_reducible first | apply Kept.cons | apply q_blky); rfl) | ((with_reducible apply Kept.skip); rfl) | refine wq (hk := ?_) | (apply c_condP; rfl; exact bpx; all_goals intro hc) | ((first | apply s_gTP | apply s_gFP); rfl; exact bpx; all_goals intro hg) | (apply s_lalloc; rfl) | ((first | apply s_lbox | apply s_lstoreR); rfl; rfl; rfl) | (apply s_lstore; rfl; rfl; rfl; rfl; rfl) | (apply s_callB (hm := YC.m _ _); rfl; intro h3 o3 b3)
        rw [← add_same hs] at hq
        exact hq _ exty
      · have hc : ¬ (decide (p.num < 0) == decide (q.num < 0)) = true := by simpa using hs
        by_cases hlt : p.num.natAbs * q.den < q.num.natAbs * p.den
        · have hcm := cmpv_lt.mpr hlt
          repeat' first | (with_reducible first | exact SetAt.z | apply SetAt.s | apply s_end | exact Kept.nil) | refine qq (hk := ?_) | ((with_reducible first | apply Kept.cons | apply q_blky); rfl) | ((with_reducible apply Kept.skip); rfl) | (apply s_q; rfl; (first | ((with_reducible apply q_beqF); rfl; rfl))) | refine wq (hk := ?_) | (apply c_condP; rfl; exact bpx; all_goals intro hc) | ((first | apply s_gTP | apply s_gFP); rfl; exact bpx; all_goals intro hg) | (apply s_lalloc; rfl) | ((first | apply s_lbox | apply s_lstoreR); rfl; rfl; rfl) | (apply s_lstore; rfl; rfl; rfl; rfl; rfl) | (apply s_callB (hm := YC.m _ _); rfl; intro h3 o3 b3) | ((with_reducible refine YCi (f := 109) ?_); (refine k109 (by omega) (by omega) (ux) (uy) ?_))
          refine k110 (a := q.num.natAbs * p.den) (b := p.num.natAbs * q.den) (by omega) (by omega) (by rw [o3]; exact uy) (by rw [o3]; exact ux) fun z h8 e8 uz => ?_
          intro h9 o9 b9
          have e9 : Ext h7 h9 := Ext.br o3 e8 o9 b9
          have ud9 := ud.ext e9
          rw [← o9] at uz
          repeat' first | (with_reducible first | exact SetAt.z | apply SetAt.s | apply s_end | exact Kept.nil) | refine qq (hk := ?_) | ((with_reducible first | apply Kept.cons | apply q_blky); rfl) | ((with_reducible apply Kept.skip); rfl) | refine wq (hk := ?_) | (apply c_condP; rfl; exact bpx; all_goals intro hc) | ((first | apply s_gTP | apply s_gFP); rfl; exact bpx; all_goals intro hg) | (apply s_lalloc; rfl) | ((first | apply s_lbox | apply s_lstoreR); rfl; rfl; rfl) | (apply s_lstore; rfl; rfl; rfl; rfl; rfl) | (apply s_callB (hm := YC.m _ _); rfl; intro h3 o3 b3)
          refine k103 (n := q.num.natAbs * p.den - p.num.natAbs * q.den) (d := p.den * q.den) (Nat.le_trans (li_mono (Nat.sub_le _ _)) ly') (by omega) hd (by rw [o3]; exact uz) (by rw [o3]; exact ud9) fun h10 e10 => ?_
          intro h11 o11 b11
          repeat' first | (with_reducible first | exact SetAt.z | apply SetAt.s | apply s_end | exact Kept.nil) | refine qq (hk := ?_) | ((with_reducible first | apply Kept.cons | apply q_blky); rfl) | ((with_reducible apply Kept.skip); rfl) | refine wq (hk := ?_) | (apply c_condP; rfl; exact bpx; all_goals intro hc) | ((first | apply s_gTP | apply s_gFP); rfl; exact bpx; all_goals intro hg) | (apply s_lalloc; rfl) | ((first | apply s_lbox | apply s_lstoreR); rfl; rfl; rfl) | (apply s_lstore; rfl; rfl; rfl; rfl; rfl) | (apply s_callB (hm := YC.m _ _); rfl; intro h3 o3 b3)
          have := add_diff (p := q) (q := p) (fun e => hs e.symm) (by omega)
          rw [Rat.add_comm, Nat.mul_comm q.den p.den] at this
          rw [← this] at hq
          exact hq _ exty
        · have hcm : ¬ cmpv (p.num.natAbs * q.den) (q.num.natAbs * p.den) < 0 := fun e => hlt (cmpv_lt.mp e)
          repeat' first | (with_reducible first | exact SetAt.z | apply SetAt.s | apply s_end | exact Kept.nil) | refine qq (hk := ?_) | ((with_reducible first | apply Kept.cons | apply q_blky); rfl) | ((with_reducible apply Kept.skip); rfl) | (apply s_q; rfl; (first | ((with_reducible apply q_beqF); rfl; rfl))) | refine wq (hk := ?_) | (apply c_condP; rfl; exact bpx; all_goals intro hc) | ((first | apply s_gTP | apply s_gFP); rfl; exact bpx; all_goals intro hg) | (apply s_lalloc; rfl) | ((first | apply s_lbox | apply s_lstoreR); rfl; rfl; rfl) | (apply s_lstore; rfl; rfl; rfl; rfl; rfl) | (apply s_callB (hm := YC.m _ _); rfl; intro h3 o3 b3) | ((with_reducible refine YCi (f := 109) ?_); (refine k109 (by omega) (by omega) (ux) (uy) ?_))
          refine k110 (a := p.num.natAbs * q.den) (b := q.num.natAbs * p.den) (by omega) (by omega) (by rw [o3]; exact ux) (by rw [o3]; exact uy) fun z h8 e8 uz => ?_
          intro h9 o9 b9
          have e9 : Ext h7 h9 := Ext.br o3 e8 o9 b9
          have ud9 := ud.ext e9
          rw [← o9] at uz
          repeat' first | (with_reducible first | exact SetAt.z | apply SetAt.s | apply s_end | exact Kept.nil) | refine qq (hk := ?_) | ((with_reducible first | apply Kept.cons | apply q_blky); rfl) | ((with_reducible apply Kept.skip); rfl) | refine wq (hk := ?_) | (apply c_condP; rfl; exact bpx; all_goals intro hc) | ((first | apply s_gTP | apply s_gFP); rfl; exact bpx; all_goals intro hg) | (apply s_lalloc; rfl) | ((first | apply s_lbox | apply s_lstoreR); rfl; rfl; rfl) | (apply s_lstore; rfl; rfl; rfl; rfl; rfl) | (apply s_callB (hm := YC.m _ _); rfl; intro h3 o3 b3)
          refine k103 (n := p.num.natAbs * q.den - q.num.natAbs * p.den) (d := p.den * q.den) (Nat.le_trans (li_mono (Nat.sub_le _ _)) lx') (by omega) hd (by rw [o3]; exact uz) (by rw [o3]; exact ud9) fun h10 e10 => ?_
          intro h11 o11 b11
          repeat' first | (with_reducible first | exact SetAt.z | apply SetAt.s | apply s_end | exact Kept.nil) | refine qq (hk := ?_) | ((with_reducible first | apply Kept.cons | apply q_blky); rfl) | ((with_reducible apply Kept.skip); rfl) | refine wq (hk := ?_) | (apply c_condP; rfl; exact bpx; all_goals intro hc) | ((first | apply s_gTP | apply s_gFP); rfl; exact bpx; all_goals intro hg) | (apply s_lalloc; rfl) | ((first | apply s_lbox | apply s_lstoreR); rfl; rfl; rfl) | (apply s_lstore; rfl; rfl; rfl; rfl; rfl) | (apply s_callB (hm := YC.m _ _); rfl; intro h3 o3 b3)
          rw [← add_diff hs (by omega)] at hq
          exact hq _ exty
theorem Bd.neg {K : Nat} {q : Rat} (hb : Bd K q) : Bd K (-q) := by
  unfold Bd
  rw [Rat.neg_num, Rat.neg_den, Int.natAbs_neg]
  exact hb
theorem k48 {p q : Rat} {K : Nat} (hK : K ≤ 34359738368) (hp0 : Bd K p) (hq0 : Bd K q) (hq : ∀ h', Ext h h' → Q (er (p - q)) h') : YC Tryz.prog B0 48 [er p, er q] Q h := by
  refine enterF mix Tryz.func48 ok48 rfl (tm := [(0, _), (1, _)]) (bx := [_, _, _]) rfl rfl fun hp => ?_
  rw [Rat.sub_eq_add_neg] at hq
  repeat' first | (with_reducible first | exact SetAt.z | apply SetAt.s | apply s_end | exact Kept.nil) | refine qq (hk := ?_) | ((with_reducible first | apply Kept.cons | apply q_blky); rfl) | ((with_reducible apply Kept.skip); rfl) | refine wq (hk := ?_) | (apply c_condP; rfl; exact bpx; all_goals intro hc) | ((first | apply s_gTP | apply s_gFP); rfl; exact bpx; all_goals intro hg) | (apply s_lalloc; rfl) | ((first | apply s_lbox | apply s_lstoreR); rfl; rfl; rfl) | (apply s_lstore; rfl; rfl; rfl; rfl; rfl) | (apply s_callB (hm := YC.m _ _); rfl; intro h3 o3 b3)
  refine k76 (q := q) ?_
  intro h4 o4 b4
  repeat' first | (with_reducible first | exact SetAt.z | apply SetAt.s | apply s_end | exact Kept.nil) | refine qq (hk := ?_) | ((with_reducible first | apply Kept.cons | apply q_blky); rfl) | ((with_reducible apply Kept.skip); rfl) | refine wq (hk := ?_) | (apply c_condP; rfl; exact bpx; all_goals intro hc) | ((first | apply s_gTP | apply s_gFP); rfl; exact bpx; all_goals intro hg) | (apply s_lalloc; rfl) | ((first | apply s_lbox | apply s_lstoreR); rfl; rfl; rfl) | (apply s_lstore; rfl; rfl; rfl; rfl; rfl) | (apply s_callB (hm := YC.m _ _); rfl; intro h3 o3 b3)
  refine k75 (p := p) (q := -q) hK hp0 hq0.neg fun h5 e5 => ?_
  intro h6 o6 b6
  repeat' first | (with_reducible first | exact SetAt.z | apply SetAt.s | apply s_end | exact Kept.nil) | refine qq (hk := ?_) | ((with_reducible first | apply Kept.cons | apply q_blky); rfl) | ((with_reducible apply Kept.skip); rfl) | refine wq (hk := ?_) | (apply c_condP; rfl; exact bpx; all_goals intro hc) | ((first | apply s_gTP | apply s_gFP); rfl; exact bpx; all_goals intro hg) | (apply s_lalloc; rfl) | ((first | apply s_lbox | apply s_lstoreR); rfl; rfl; rfl) | (apply s_lstore; rfl; rfl; rfl; rfl; rfl) | (apply s_callB (hm := YC.m _ _); rfl; intro h3 o3 b3)
  exact hq _ exty
theorem sgn_neg {q : Rat} : sgn q < 0 ↔ q < 0 := by
  have h1 : q.num < 0 ↔ q < 0 := by
    rw [← Rat.not_le, ← Rat.num_nonneg]; omega
  rw [← h1]
  unfold sgn
  split
  · omega
  · split <;> omega
theorem k71 {p q : Rat} {K : Nat} (hK : K ≤ 34359738368) (hp0 : Bd K p) (hq0 : Bd K q) (hq : ∀ h', Ext h h' → Q (.bool (decide (p < q))) h') : YC Tryz.prog B0 71 [er p, er q] Q h := by
  refine enterF mix Tryz.func71 ok71 rfl (tm := [(0, _), (1, _)]) (bx := [_, _]) rfl rfl fun hp => ?_
  repeat' first | (with_reducible first | exact SetAt.z | apply SetAt.s | apply s_end | exact Kept.nil) | refine qq (hk := ?_) | ((with_reducible first | apply Kept.cons | apply q_blky); rfl) | ((with_reducible apply Kept.skip); rfl) | refine wq (hk := ?_) | (apply c_condP; rfl; exact bpx; all_goals intro hc) | ((first | apply s_gTP | apply s_gFP); rfl; exact bpx; all_goals intro hg) | (apply s_lalloc; rfl) | ((first | apply s_lbox | apply s_lstoreR); rfl; rfl; rfl) | (apply s_lstore; rfl; rfl; rfl; rfl; rfl) | (apply s_callB (hm := YC.m _ _); rfl; intro h3 o3 b3) | ((with_reducible refine YCi (f := 48) ?_); (refine k48 (p := p) (q := q) hK hp0 hq0 fun h1 e1 => ?_)) | ((with_reducible refine YCi (f := 47) ?_); (refine k47 ?_))
  refine cast (congrArg (fun b => Q (.bool b) _) ?_) (hq _ exty)
  refine BP.de (by exact bpx) ?_
  rw [sgn_neg]
  grind
theorem k37 {p q : Rat} {K : Nat} (hK : K ≤ 34359738368) (hp0 : Bd K p) (hq0 : Bd K q) (hq : ∀ h', Ext h h' → Q (er (if q < p then q else p)) h') : YC Tryz.prog B0 37 [er p, er q] Q h := by
  refine enterF mix Tryz.func37 ok37 rfl (tm := [(0, _), (1, _)]) (bx := [_, _, _]) rfl rfl fun hp => ?_
  repeat' first | (with_reducible first | exact SetAt.z | apply SetAt.s | apply s_end | exact Kept.nil) | refine qq (hk := ?_) | ((with_reducible first | apply Kept.cons | apply q_blky); rfl) | ((with_reducible apply Kept.skip); rfl) | refine wq (hk := ?_) | (apply c_condP; rfl; exact bpx; all_goals intro hc) | ((first | apply s_gTP | apply s_gFP); rfl; exact bpx; all_goals intro hg) | (apply s_lalloc; rfl) | ((first | apply s_lbox | apply s_lstoreR); rfl; rfl; rfl) | (apply s_lstore; rfl; rfl; rfl; rfl; rfl) | (apply s_callB (hm := YC.m _ _); rfl; intro h3 o3 b3) | ((with_reducible refine YCi (f := 71) ?_); (refine k71 (p := q) (q := p) hK hq0 hp0 fun h1 e1 => ?_))
  · rw [if_pos hc] at hq; exact hq _ exty
  · rw [if_neg hc] at hq; exact hq _ exty
theorem k39 {p q : Rat} {K : Nat} (hK : K ≤ 34359738368) (hp0 : Bd K p) (hq0 : Bd K q) (hq : ∀ h', Ext h h' → Q (er (if p < q then q else p)) h') : YC Tryz.prog B0 39 [er p, er q] Q h := by
  refine enterF mix Tryz.func39 ok39 rfl (tm := [(0, _), (1, _)]) (bx := [_, _, _]) rfl rfl fun hp => ?_
  repeat' first | (with_reducible first | exact SetAt.z | apply SetAt.s | apply s_end | exact Kept.nil) | refine qq (hk := ?_) | ((with_reducible first | apply Kept.cons | apply q_blky); rfl) | ((with_reducible apply Kept.skip); rfl) | refine wq (hk := ?_) | (apply c_condP; rfl; exact bpx; all_goals intro hc) | ((first | apply s_gTP | apply s_gFP); rfl; exact bpx; all_goals intro hg) | (apply s_lalloc; rfl) | ((first | apply s_lbox | apply s_lstoreR); rfl; rfl; rfl) | (apply s_lstore; rfl; rfl; rfl; rfl; rfl) | (apply s_callB (hm := YC.m _ _); rfl; intro h3 o3 b3) | ((with_reducible refine YCi (f := 71) ?_); (refine k71 (p := p) (q := q) hK hp0 hq0 fun h1 e1 => ?_))
  · rw [if_pos hc] at hq; exact hq _ exty
  · rw [if_neg hc] at hq; exact hq _ exty
end
end Am
end Go.Proofs.YtfhlblclcdhbiaaGreatDoor
