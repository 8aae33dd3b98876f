/- The reference's quotients; the numbers of a law. -/
import Derived.Test.YtfhlblclcdhbiaaGreatDoorK16
namespace Go.Proofs.YtfhlblclcdhbiaaGreatDoor
open Go
set_option linter.unusedVariables false
set_option linter.unusedSimpArgs false
namespace Am
section
variable {B0 : Nat} {Q : Value → AH → Prop} {h : AH}
theorem k70 {p q : Rat} {K : Nat} (hK : K ≤ 34359738368) (hp0 : Bd K p) (hq0 : Bd K q) (hne : q ≠ 0) (hq : ∀ h', Ext h h' → Q (er (p / q)) h') : YC Tryz.prog B0 70 [er p, er q] Q h := by
  refine enterF mix Tryz.func70 ok70 rfl (tm := [(0, _), (1, _)]) (bx := [_, _, _]) rfl rfl fun hp => ?_
  have e0 : er 0 = rat false ⟨#[]⟩ ⟨#[]⟩ := er_zero
  by_cases p0 : sb p.num.natAbs = []
  · have e : p / q = 0 := by
      have : p = 0 := Rat.num_eq_zero.mp (by rw [sb_nil] at p0; omega)
      rw [this]; simp [Rat.div_def]
    rw [e, e0] at hq
    repeat' first | (with_reducible first | exact SetAt.z | apply SetAt.s | apply s_end | exact Kept.nil) | refine qq (hk := ?_) | ((with_reducible first | apply Kept.cons | apply q_blky); rfl) | ((with_reducible apply Kept.skip); rfl) | refine wq (hk := ?_) | (apply c_condP; rfl; exact bpx; all_goals intro hc) | ((first | apply s_gTP | apply s_gFP); rfl; exact bpx; all_goals intro hg) | (apply s_lalloc; rfl) | ((first | apply s_lbox | apply s_lstoreR); rfl; rfl; rfl) | (apply s_lstore; rfl; rfl; rfl; rfl; rfl) | (apply s_callB (hm := YC.m _ _); rfl; intro h3 o3 b3)
    exact hq _ exty
  · have lp := hp0.sb
    have lq := hq0.sb
    have lpn := li_le hp0.1
    have lpd := li_le hp0.2
    have lqn := li_le hq0.1
    have lqd := li_le hq0.2
    have lx := li_le (lt_mul hp0.1 hq0.2)
    have ly := li_le (lt_mul hp0.2 hq0.1)
    have lx' : (li (p.num.natAbs * q.den)).length ≤ 274877906944 := by omega
    have ly' : (li (p.den * q.num.natAbs)).length ≤ 274877906944 := by omega
    have hqn : q.num.natAbs ≠ 0 := by
      intro e
      exact hne (Rat.num_eq_zero.mp (by omega))
    have hd : p.den * q.num.natAbs ≠ 0 := Nat.mul_ne_zero p.den_nz hqn
    repeat' first | (with_reducible first | exact SetAt.z | apply SetAt.s | apply s_end | exact Kept.nil) | refine qq (hk := ?_) | ((with_reducible first | apply Kept.cons | apply q_blky); rfl) | ((with_reducible apply Kept.skip); rfl) | (apply s_q; rfl; (first | ((with_reducible apply q_beqT); rfl; rfl))) | refine wq (hk := ?_) | (apply c_condP; rfl; exact bpx; all_goals intro hc) | ((first | apply s_gTP | apply s_gFP); rfl; exact bpx; all_goals intro hg) | (apply s_lalloc; rfl) | ((first | apply s_lbox | apply s_lstoreR); rfl; rfl; rfl) | (apply s_lstore; rfl; rfl; rfl; rfl; rfl) | (apply s_callB (hm := YC.m _ _); rfl; intro h3 o3 b3)
    refine k105 (by omega) fun v1 h1 e1 u1 => ?_
    rw [bv_sb] at u1
    intro h2 o2 b2
    rw [← o2] at u1
    repeat' first | (with_reducible first | exact SetAt.z | apply SetAt.s | apply s_end | exact Kept.nil) | refine qq (hk := ?_) | ((with_reducible first | apply Kept.cons | apply q_blky); rfl) | ((with_reducible apply Kept.skip); rfl) | refine wq (hk := ?_) | (apply c_condP; rfl; exact bpx; all_goals intro hc) | ((first | apply s_gTP | apply s_gFP); rfl; exact bpx; all_goals intro hg) | (apply s_lalloc; rfl) | ((first | apply s_lbox | apply s_lstoreR); rfl; rfl; rfl) | (apply s_lstore; rfl; rfl; rfl; rfl; rfl) | (apply s_callB (hm := YC.m _ _); rfl; intro h3 o3 b3)
    refine k106 (q := q) (by omega) hq0 fun v2 h4 e4 u4 => ?_
    rw [← o3] at u1
    have u1 := u1.ext e4
    intro h5 o5 b5
    rw [← o5] at u1 u4
    repeat' first | (with_reducible first | exact SetAt.z | apply SetAt.s | apply s_end | exact Kept.nil) | refine qq (hk := ?_) | ((with_reducible first | apply Kept.cons | apply q_blky); rfl) | ((with_reducible apply Kept.skip); rfl) | refine wq (hk := ?_) | (apply c_condP; rfl; exact bpx; all_goals intro hc) | ((first | apply s_gTP | apply s_gFP); rfl; exact bpx; all_goals intro hg) | (apply s_lalloc; rfl) | ((first | apply s_lbox | apply s_lstoreR); rfl; rfl; rfl) | (apply s_lstore; rfl; rfl; rfl; rfl; rfl) | (apply s_callB (hm := YC.m _ _); rfl; intro h3 o3 b3)
    refine k104 (a := p.num.natAbs) (b := q.den) (by omega) (by omega) (by rw [o3]; exact u1) (by rw [o3]; exact u4) fun x h6 e6 ux => ?_
    intro h7 o7 b7
    rw [← o7] at ux
    repeat' first | (with_reducible first | exact SetAt.z | apply SetAt.s | apply s_end | exact Kept.nil) | refine qq (hk := ?_) | ((with_reducible first | apply Kept.cons | apply q_blky); rfl) | ((with_reducible apply Kept.skip); rfl) | refine wq (hk := ?_) | (apply c_condP; rfl; exact bpx; all_goals intro hc) | ((first | apply s_gTP | apply s_gFP); rfl; exact bpx; all_goals intro hg) | (apply s_lalloc; rfl) | ((first | apply s_lbox | apply s_lstoreR); rfl; rfl; rfl) | (apply s_lstore; rfl; rfl; rfl; rfl; rfl) | (apply s_callB (hm := YC.m _ _); rfl; intro h3 o3 b3)
    refine k106 (q := p) (by omega) hp0 fun v3 h8 e8 u8 => ?_
    rw [← o3] at ux
    have ux := ux.ext e8
    intro h9 o9 b9
    rw [← o9] at ux u8
    repeat' first | (with_reducible first | exact SetAt.z | apply SetAt.s | apply s_end | exact Kept.nil) | refine qq (hk := ?_) | ((with_reducible first | apply Kept.cons | apply q_blky); rfl) | ((with_reducible apply Kept.skip); rfl) | refine wq (hk := ?_) | (apply c_condP; rfl; exact bpx; all_goals intro hc) | ((first | apply s_gTP | apply s_gFP); rfl; exact bpx; all_goals intro hg) | (apply s_lalloc; rfl) | ((first | apply s_lbox | apply s_lstoreR); rfl; rfl; rfl) | (apply s_lstore; rfl; rfl; rfl; rfl; rfl) | (apply s_callB (hm := YC.m _ _); rfl; intro h3 o3 b3)
    refine k105 (by omega) fun v4 h10 e10 u10 => ?_
    rw [bv_sb] at u10
    rw [← o3] at ux u8
    have ux := ux.ext e10
    have u8 := u8.ext e10
    intro h11 o11 b11
    rw [← o11] at ux u8 u10
    repeat' first | (with_reducible first | exact SetAt.z | apply SetAt.s | apply s_end | exact Kept.nil) | refine qq (hk := ?_) | ((with_reducible first | apply Kept.cons | apply q_blky); rfl) | ((with_reducible apply Kept.skip); rfl) | refine wq (hk := ?_) | (apply c_condP; rfl; exact bpx; all_goals intro hc) | ((first | apply s_gTP | apply s_gFP); rfl; exact bpx; all_goals intro hg) | (apply s_lalloc; rfl) | ((first | apply s_lbox | apply s_lstoreR); rfl; rfl; rfl) | (apply s_lstore; rfl; rfl; rfl; rfl; rfl) | (apply s_callB (hm := YC.m _ _); rfl; intro h3 o3 b3)
    refine k104 (a := p.den) (b := q.num.natAbs) (by omega) (by omega) (by rw [o3]; exact u8) (by rw [o3]; exact u10) fun y h12 e12 uy => ?_
    rw [← o3] at ux
    have ux := ux.ext e12
    intro h13 o13 b13
    rw [← o13] at ux uy
    repeat' first | (with_reducible first | exact SetAt.z | apply SetAt.s | apply s_end | exact Kept.nil) | refine qq (hk := ?_) | ((with_reducible first | apply Kept.cons | apply q_blky); rfl) | ((with_reducible apply Kept.skip); rfl) | refine wq (hk := ?_) | (apply c_condP; rfl; exact bpx; all_goals intro hc) | ((first | apply s_gTP | apply s_gFP); rfl; exact bpx; all_goals intro hg) | (apply s_lalloc; rfl) | ((first | apply s_lbox | apply s_lstoreR); rfl; rfl; rfl) | (apply s_lstore; rfl; rfl; rfl; rfl; rfl) | (apply s_callB (hm := YC.m _ _); rfl; intro h3 o3 b3)
    refine k103 (n := p.num.natAbs * q.den) (d := p.den * q.num.natAbs) lx' ly' hd (by rw [o3]; exact ux) (by rw [o3]; exact uy) fun h14 e14 => ?_
    intro h15 o15 b15
    repeat' first | (with_reducible first | exact SetAt.z | apply SetAt.s | apply s_end | exact Kept.nil) | refine qq (hk := ?_) | ((with_reducible first | apply Kept.cons | apply q_blky); rfl) | ((with_reducible apply Kept.skip); rfl) | refine wq (hk := ?_) | (apply c_condP; rfl; exact bpx; all_goals intro hc) | ((first | apply s_gTP | apply s_gFP); rfl; exact bpx; all_goals intro hg) | (apply s_lalloc; rfl) | ((first | apply s_lbox | apply s_lstoreR); rfl; rfl; rfl) | (apply s_lstore; rfl; rfl; rfl; rfl; rfl) | (apply s_callB (hm := YC.m _ _); rfl; intro h3 o3 b3)
    rw [← div_rq hne] at hq
    exact hq _ exty
theorem k36 {n1 n2 : Bool} {u1 w1 u2 w2 : List UInt8} {K : Nat} (hK0 : 0 < K) (hK : K ≤ 34359738368) (la1 : u1.length ≤ K) (lb1 : w1.length ≤ K) (la2 : u2.length ≤ K) (lb2 : w2.length ≤ K)
    (hq : ∀ h', Ext h h' → Q (.tuple #[er (dec n1 u1 w1 / dec n2 u2 w2), .bool (!decide (dec n2 u2 w2 = 0))]) h') : YC Tryz.prog B0 36 [rat n1 (bs u1) (bs w1), rat n2 (bs u2) (bs w2)] Q h := by
  refine enterF mix Tryz.func36 ok36 rfl (tm := [(0, _), (1, _)]) (bx := [_, _, _]) rfl rfl fun hp => ?_
  have hb1 := Bd.dec (neg := n1) hK0 la1 lb1
  have hb2 := Bd.dec (neg := n2) hK0 la2 lb2
  repeat' first | (with_reducible first | exact SetAt.z | apply SetAt.s | apply s_end | exact Kept.nil) | refine qq (hk := ?_) | ((with_reducible first | apply Kept.cons | apply q_blky); rfl) | ((with_reducible apply Kept.skip); rfl) | refine wq (hk := ?_) | (apply c_condP; rfl; exact bpx; all_goals intro hc) | ((first | apply s_gTP | apply s_gFP); rfl; exact bpx; all_goals intro hg) | (apply s_lalloc; rfl) | ((first | apply s_lbox | apply s_lstoreR); rfl; rfl; rfl) | (apply s_lstore; rfl; rfl; rfl; rfl; rfl) | (apply s_callB (hm := YC.m _ _); rfl; intro h3 o3 b3)
  refine k35 (by omega) (by omega) fun h1 e1 => ?_
  generalize dec n2 u2 w2 = q at *
  by_cases h0 : q = 0
  · have hc : sb q.num.natAbs = [] := by rw [sb_nil, h0]; rfl
    have e : dec n1 u1 w1 / q = 0 := by rw [h0]; simp [Rat.div_def]
    rw [e, er_zero] at hq
    simp only [h0, decide_true, Bool.not_true] at hq
    repeat' first | (with_reducible first | exact SetAt.z | apply SetAt.s | apply s_end | exact Kept.nil) | refine qq (hk := ?_) | ((with_reducible first | apply Kept.cons | apply q_blky); rfl) | ((with_reducible apply Kept.skip); rfl) | refine wq (hk := ?_) | (apply c_condP; rfl; exact bpx; all_goals intro hc) | ((first | apply s_gTP | apply s_gFP); rfl; exact bpx; all_goals intro hg) | (apply s_lalloc; rfl) | ((first | apply s_lbox | apply s_lstoreR); rfl; rfl; rfl) | (apply s_lstore; rfl; rfl; rfl; rfl; rfl) | (apply s_callB (hm := YC.m _ _); rfl; intro h3 o3 b3)
    exact hq _ exty
  · have hc : ¬ sb q.num.natAbs = [] := by
      rw [sb_nil]
      intro e
      exact h0 (Rat.num_eq_zero.mp (by omega))
    simp only [h0, decide_false, Bool.not_false] at hq
    repeat' first | (with_reducible first | exact SetAt.z | apply SetAt.s | apply s_end | exact Kept.nil) | refine qq (hk := ?_) | ((with_reducible first | apply Kept.cons | apply q_blky); rfl) | ((with_reducible apply Kept.skip); rfl) | refine wq (hk := ?_) | (apply c_condP; rfl; exact bpx; all_goals intro hc) | ((first | apply s_gTP | apply s_gFP); rfl; exact bpx; all_goals intro hg) | (apply s_lalloc; rfl) | ((first | apply s_lbox | apply s_lstoreR); rfl; rfl; rfl) | (apply s_lstore; rfl; rfl; rfl; rfl; rfl) | (apply s_callB (hm := YC.m _ _); rfl; intro h3 o3 b3)
    refine k35 (by omega) (by omega) fun h4 e4 => ?_
    generalize dec n1 u1 w1 = p at *
    intro h5 o5 b5
    repeat' first | (with_reducible first | exact SetAt.z | apply SetAt.s | apply s_end | exact Kept.nil) | refine qq (hk := ?_) | ((with_reducible first | apply Kept.cons | apply q_blky); rfl) | ((with_reducible apply Kept.skip); rfl) | refine wq (hk := ?_) | (apply c_condP; rfl; exact bpx; all_goals intro hc) | ((first | apply s_gTP | apply s_gFP); rfl; exact bpx; all_goals intro hg) | (apply s_lalloc; rfl) | ((first | apply s_lbox | apply s_lstoreR); rfl; rfl; rfl) | (apply s_lstore; rfl; rfl; rfl; rfl; rfl) | (apply s_callB (hm := YC.m _ _); rfl; intro h3 o3 b3)
    refine k70 (p := p) (q := q) hK hb1 hb2 h0 fun h6 e6 => ?_
    intro h7 o7 b7
    repeat' first | (with_reducible first | exact SetAt.z | apply SetAt.s | apply s_end | exact Kept.nil) | refine qq (hk := ?_) | ((with_reducible first | apply Kept.cons | apply q_blky); rfl) | ((with_reducible apply Kept.skip); rfl) | refine wq (hk := ?_) | (apply c_condP; rfl; exact bpx; all_goals intro hc) | ((first | apply s_gTP | apply s_gFP); rfl; exact bpx; all_goals intro hg) | (apply s_lalloc; rfl) | ((first | apply s_lbox | apply s_lstoreR); rfl; rfl; rfl) | (apply s_lstore; rfl; rfl; rfl; rfl; rfl) | (apply s_callB (hm := YC.m _ _); rfl; intro h3 o3 b3)
    exact hq _ exty
theorem k74 {n : Int} (hn : -9223372036854775808 ≤ n ∧ n ≤ 9223372036854775807) (hq : Q (.int .u64 ((n.natAbs : Nat) : Int)) h) : YC Tryz.prog B0 74 [.int .i64 n] Q h := by
  refine enterF mix Tryz.func74 ok74 rfl (tm := [(0, _)]) (bx := []) rfl rfl fun hp => ?_
  by_cases h0 : n < 0
  · repeat' first | (with_reducible first | exact SetAt.z | apply SetAt.s | apply s_end | exact Kept.nil) | refine qq (hk := ?_) | ((with_reducible first | apply Kept.cons | apply q_blky); rfl) | ((with_reducible apply Kept.skip); rfl) | (apply s_q; rfl; (first | ((with_reducible apply q_negI); rfl; omega))) | refine wq (hk := ?_) | (apply c_condP; rfl; exact bpx; all_goals intro hc) | ((first | apply s_gTP | apply s_gFP); rfl; exact bpx; all_goals intro hg) | (apply s_lalloc; rfl) | ((first | apply s_lbox | apply s_lstoreR); rfl; rfl; rfl) | (apply s_lstore; rfl; rfl; rfl; rfl; rfl) | (apply s_callB (hm := YC.m _ _); rfl; intro h3 o3 b3)
    rw [show ((n.natAbs : Nat) : Int) = 0 - (n + 1) + 1 by omega] at hq
    exact hq
  · repeat' first | (with_reducible first | exact SetAt.z | apply SetAt.s | apply s_end | exact Kept.nil) | refine qq (hk := ?_) | ((with_reducible first | apply Kept.cons | apply q_blky); rfl) | ((with_reducible apply Kept.skip); rfl) | refine wq (hk := ?_) | (apply c_condP; rfl; exact bpx; all_goals intro hc) | ((first | apply s_gTP | apply s_gFP); rfl; exact bpx; all_goals intro hg) | (apply s_lalloc; rfl) | ((first | apply s_lbox | apply s_lstoreR); rfl; rfl; rfl) | (apply s_lstore; rfl; rfl; rfl; rfl; rfl) | (apply s_callB (hm := YC.m _ _); rfl; intro h3 o3 b3)
    rw [show ((n.natAbs : Nat) : Int) = n by omega] at hq
    exact hq
theorem er_int (n : Int) : er (n : Rat) = rat (decide (n < 0)) (bs (sb n.natAbs)) ⟨#[]⟩ := by
  rw [er, Rat.num_intCast, Rat.den_intCast]
  rfl
theorem k46 {n : Int} (hn : -9223372036854775808 ≤ n ∧ n ≤ 9223372036854775807) (hq : ∀ h', Ext h h' → Q (er (n : Rat)) h') : YC Tryz.prog B0 46 [.int .i64 n] Q h := by
  refine enterF mix Tryz.func46 ok46 rfl (tm := [(0, _)]) (bx := [_]) rfl rfl fun hp => ?_
  rw [er_int] at hq
  repeat' first | (with_reducible first | exact SetAt.z | apply SetAt.s | apply s_end | exact Kept.nil) | refine qq (hk := ?_) | ((with_reducible first | apply Kept.cons | apply q_blky); rfl) | ((with_reducible apply Kept.skip); rfl) | refine wq (hk := ?_) | (apply c_condP; rfl; exact bpx; all_goals intro hc) | ((first | apply s_gTP | apply s_gFP); rfl; exact bpx; all_goals intro hg) | (apply s_lalloc; rfl) | ((first | apply s_lbox | apply s_lstoreR); rfl; rfl; rfl) | (apply s_lstore; rfl; rfl; rfl; rfl; rfl) | (apply s_callB (hm := YC.m _ _); rfl; intro h3 o3 b3) | ((with_reducible refine YCi (f := 74) ?_); (refine k74 hn ?_)) | ((with_reducible refine YCi (f := 73) ?_); (refine k73 (by omega) fun h1 e1 => ?_))
  exact hq _ exty
theorem k19 {n : Int} (hn : -9223372036854775808 ≤ n ∧ n ≤ 9223372036854775807) (hq : ∀ h', Ext h h' → Q (er (n : Rat)) h') : YC Tryz.prog B0 19 [.int .i64 n] Q h := by
  refine enterF mix Tryz.func19 ok19 rfl (tm := [(0, _)]) (bx := [_]) rfl rfl fun hp => ?_
  repeat' first | (with_reducible first | exact SetAt.z | apply SetAt.s | apply s_end | exact Kept.nil) | refine qq (hk := ?_) | ((with_reducible first | apply Kept.cons | apply q_blky); rfl) | ((with_reducible apply Kept.skip); rfl) | refine wq (hk := ?_) | (apply c_condP; rfl; exact bpx; all_goals intro hc) | ((first | apply s_gTP | apply s_gFP); rfl; exact bpx; all_goals intro hg) | (apply s_lalloc; rfl) | ((first | apply s_lbox | apply s_lstoreR); rfl; rfl; rfl) | (apply s_lstore; rfl; rfl; rfl; rfl; rfl) | (apply s_callB (hm := YC.m _ _); rfl; intro h3 o3 b3) | ((with_reducible refine YCi (f := 46) ?_); (refine k46 hn fun h1 e1 => ?_))
  exact hq _ exty
theorem k72 {neg : Bool} {n d : Nat} (hn : n < 256 ^ 8) (hd : d < 256 ^ 8) (h0 : d ≠ 0) (hq : ∀ h', Ext h h' → Q (.tuple #[er (rq neg n d), .bool true]) h') : YC Tryz.prog B0 72 [.bool neg, .string (bs (sb n)), .string (bs (sb d))] Q h := by
  refine enterF mix Tryz.func72 ok72 rfl (tm := [(0, _), (1, _), (2, _)]) (bx := [_]) rfl rfl fun hp => ?_
  have l1 := sb_len hn
  have l2 := sb_len hd
  have l3 := li_le hn
  have l4 := li_le hd
  have hl : 0 < (li d).length := List.length_pos_iff.mpr (by rw [Ne, li_nil]; exact h0)
  repeat' first | (with_reducible first | exact SetAt.z | apply SetAt.s | apply s_end | exact Kept.nil) | refine qq (hk := ?_) | ((with_reducible first | apply Kept.cons | apply q_blky); rfl) | ((with_reducible apply Kept.skip); rfl) | refine wq (hk := ?_) | (apply c_condP; rfl; exact bpx; all_goals intro hc) | ((first | apply s_gTP | apply s_gFP); rfl; exact bpx; all_goals intro hg) | (apply s_lalloc; rfl) | ((first | apply s_lbox | apply s_lstoreR); rfl; rfl; rfl) | (apply s_lstore; rfl; rfl; rfl; rfl; rfl) | (apply s_callB (hm := YC.m _ _); rfl; intro h3 o3 b3)
  refine k105 (by omega) fun v1 h1 e1 u1 => ?_
  rw [bv_sb] at u1
  repeat' first | (with_reducible first | exact SetAt.z | apply SetAt.s | apply s_end | exact Kept.nil) | refine qq (hk := ?_) | ((with_reducible first | apply Kept.cons | apply q_blky); rfl) | ((with_reducible apply Kept.skip); rfl) | refine wq (hk := ?_) | (apply c_condP; rfl; exact bpx; all_goals intro hc) | ((first | apply s_gTP | apply s_gFP); rfl; exact bpx; all_goals intro hg) | (apply s_lalloc; rfl) | ((first | apply s_lbox | apply s_lstoreR); rfl; rfl; rfl) | (apply s_lstore; rfl; rfl; rfl; rfl; rfl) | (apply s_callB (hm := YC.m _ _); rfl; intro h3 o3 b3)
  refine k105 (by omega) fun v2 h2 e2 u2 => ?_
  rw [bv_sb] at u2
  have u1 := u1.ext e2
  repeat' first | (with_reducible first | exact SetAt.z | apply SetAt.s | apply s_end | exact Kept.nil) | refine qq (hk := ?_) | ((with_reducible first | apply Kept.cons | apply q_blky); rfl) | ((with_reducible apply Kept.skip); rfl) | refine wq (hk := ?_) | (apply c_condP; rfl; exact bpx; all_goals intro hc) | ((first | apply s_gTP | apply s_gFP); rfl; exact bpx; all_goals intro hg) | (apply s_lalloc; rfl) | ((first | apply s_lbox | apply s_lstoreR); rfl; rfl; rfl) | (apply s_lstore; rfl; rfl; rfl; rfl; rfl) | (apply s_callB (hm := YC.m _ _); rfl; intro h3 o3 b3) | ((with_reducible refine YCi (f := 103) ?_); (refine k103 (n := n) (d := d) (by omega) (by omega) h0 u2 u1 fun h3 e3 => ?_))
  exact hq _ exty
/-- a / b -/
def fr (a b : Int) : Rat := rq (!(decide (a < 0) == decide (b < 0))) a.natAbs b.natAbs
theorem k43 {a b : Int} (ha : -9223372036854775808 ≤ a ∧ a ≤ 9223372036854775807) (hb : -9223372036854775808 ≤ b ∧ b ≤ 9223372036854775807) (h0 : b ≠ 0) (hq : ∀ h', Ext h h' → Q (.tuple #[er (fr a b), .bool true]) h') : YC Tryz.prog B0 43 [.int .i64 a, .int .i64 b] Q h := by
  refine enterF mix Tryz.func43 ok43 rfl (tm := [(0, _), (1, _)]) (bx := [_]) rfl rfl fun hp => ?_
  have l1 : a.natAbs < 256 ^ 8 := by show a.natAbs < 18446744073709551616; omega
  have l2 : b.natAbs < 256 ^ 8 := by show b.natAbs < 18446744073709551616; omega
  repeat' first | (with_reducible first | exact SetAt.z | apply SetAt.s | apply s_end | exact Kept.nil) | refine qq (hk := ?_) | ((with_reducible first | apply Kept.cons | apply q_blky); rfl) | ((with_reducible apply Kept.skip); rfl) | (apply s_q; rfl; (first | ((with_reducible apply q_beqT); rfl; rfl))) | refine wq (hk := ?_) | (apply c_condP; rfl; exact bpx; all_goals intro hc) | ((first | apply s_gTP | apply s_gFP); rfl; exact bpx; all_goals intro hg) | (apply s_lalloc; rfl) | ((first | apply s_lbox | apply s_lstoreR); rfl; rfl; rfl) | (apply s_lstore; rfl; rfl; rfl; rfl; rfl) | (apply s_callB (hm := YC.m _ _); rfl; intro h3 o3 b3) | ((with_reducible refine YCi (f := 74) ?_); (refine k74 ha ?_)) | ((with_reducible refine YCi (f := 74) ?_); (refine k74 hb ?_)) | ((with_reducible refine YCi (f := 73) ?_); (refine k73 (by omega) fun h1 e1 => ?_)) | ((with_reducible refine YCi (f := 72) ?_); (refine k72 l1 l2 (by omega) fun h1 e1 => ?_))
  exact hq _ exty
theorem k16 {a b : Int} (ha : -9223372036854775808 ≤ a ∧ a ≤ 9223372036854775807) (hb : -9223372036854775808 ≤ b ∧ b ≤ 9223372036854775807) (h0 : b ≠ 0) (hq : ∀ h', Ext h h' → Q (er (fr a b)) h') : YC Tryz.prog B0 16 [.int .i64 a, .int .i64 b] Q h := by
  refine enterF mix Tryz.func16 ok16 rfl (tm := [(0, _), (1, _)]) (bx := [_, _]) rfl rfl fun hp => ?_
  repeat' first | (with_reducible first | exact SetAt.z | apply SetAt.s | apply s_end | exact Kept.nil) | refine qq (hk := ?_) | ((with_reducible first | apply Kept.cons | apply q_blky); rfl) | ((with_reducible apply Kept.skip); rfl) | refine wq (hk := ?_) | (apply c_condP; rfl; exact bpx; all_goals intro hc) | ((first | apply s_gTP | apply s_gFP); rfl; exact bpx; all_goals intro hg) | (apply s_lalloc; rfl) | ((first | apply s_lbox | apply s_lstoreR); rfl; rfl; rfl) | (apply s_lstore; rfl; rfl; rfl; rfl; rfl) | (apply s_callB (hm := YC.m _ _); rfl; intro h3 o3 b3) | ((with_reducible refine YCi (f := 43) ?_); (refine k43 ha hb h0 fun h1 e1 => ?_))
  exact hq _ exty
/-- the amount of a number -/
def amt (x : Int) : Rat := if x % 5 = 0 then fr (x / 5 % 23) (1 + x / 115 % 6) else if x % 5 = 1 then ((10 * (x / 5 % 4) : Int) : Rat) else ((x / 5 % 13 : Int) : Rat)
theorem q_quoH {x y : X} {fr : Fr} {a b : Int} (hx : vl fr x = some (.int .u16 a)) (hy : vl fr y = some (.int .u16 b)) (ha : 0 ≤ a ∧ a ≤ 65535) (hb : 0 < b) : qO (.bin .quo x y) fr h = some (.v (.int .u16 (a / b))) := by
  have h1 : a.tdiv b = a / b := Int.tdiv_eq_ediv_of_nonneg ha.1
  have h2 : 0 ≤ a / b := Int.ediv_nonneg ha.1 (by omega)
  have h3 : a / b ≤ a := Int.ediv_le_self _ ha.1
  have hb' : b ≠ 0 := by omega
  simp [qO, hx, hy, binV, hb', h1, wU16]
  omega
theorem k27 {x : Int} (hx : 0 ≤ x ∧ x < 65536) (hq : ∀ h', Ext h h' → Q (er (amt x)) h') : YC Tryz.prog B0 27 [.int .u16 x] Q h := by
  refine enterF mix Tryz.func27 ok27 rfl (tm := [(0, _)]) (bx := [_]) rfl rfl fun hp => ?_
  by_cases h0 : x % 5 = 0
  · rw [amt, if_pos h0] at hq
    repeat' first | (with_reducible first | exact SetAt.z | apply SetAt.s | apply s_end | exact Kept.nil) | refine qq (hk := ?_) | ((with_reducible first | apply Kept.cons | apply q_blky); rfl) | ((with_reducible apply Kept.skip); rfl) | (apply s_q; rfl; (first | ((with_reducible apply q_quoH); rfl; rfl; omega; omega))) | refine wq (hk := ?_) | (apply c_condP; rfl; exact bpx; all_goals intro hc) | ((first | apply s_gTP | apply s_gFP); rfl; exact bpx; all_goals intro hg) | (apply s_lalloc; rfl) | ((first | apply s_lbox | apply s_lstoreR); rfl; rfl; rfl) | (apply s_lstore; rfl; rfl; rfl; rfl; rfl) | (apply s_callB (hm := YC.m _ _); rfl; intro h3 o3 b3) | ((with_reducible refine YCi (f := 16) ?_); (refine k16 (by omega) (by omega) (by omega) fun h1 e1 => ?_))
    exact hq _ exty
  · by_cases h1 : x % 5 = 1
    · rw [amt, if_neg h0, if_pos h1] at hq
      repeat' first | (with_reducible first | exact SetAt.z | apply SetAt.s | apply s_end | exact Kept.nil) | refine qq (hk := ?_) | ((with_reducible first | apply Kept.cons | apply q_blky); rfl) | ((with_reducible apply Kept.skip); rfl) | (apply s_q; rfl; (first | ((with_reducible apply q_quoH); rfl; rfl; omega; omega))) | refine wq (hk := ?_) | (apply c_condP; rfl; exact bpx; all_goals intro hc) | ((first | apply s_gTP | apply s_gFP); rfl; exact bpx; all_goals intro hg) | (apply s_lalloc; rfl) | ((first | apply s_lbox | apply s_lstoreR); rfl; rfl; rfl) | (apply s_lstore; rfl; rfl; rfl; rfl; rfl) | (apply s_callB (hm := YC.m _ _); rfl; intro h3 o3 b3) | ((with_reducible refine YCi (f := 19) ?_); (refine k19 (by omega) fun h1 e1 => ?_))
      exact hq _ exty
    · rw [amt, if_neg h0, if_neg h1] at hq
      repeat' first | (with_reducible first | exact SetAt.z | apply SetAt.s | apply s_end | exact Kept.nil) | refine qq (hk := ?_) | ((with_reducible first | apply Kept.cons | apply q_blky); rfl) | ((with_reducible apply Kept.skip); rfl) | (apply s_q; rfl; (first | ((with_reducible apply q_quoH); rfl; rfl; omega; omega))) | refine wq (hk := ?_) | (apply c_condP; rfl; exact bpx; all_goals intro hc) | ((first | apply s_gTP | apply s_gFP); rfl; exact bpx; all_goals intro hg) | (apply s_lalloc; rfl) | ((first | apply s_lbox | apply s_lstoreR); rfl; rfl; rfl) | (apply s_lstore; rfl; rfl; rfl; rfl; rfl) | (apply s_callB (hm := YC.m _ _); rfl; intro h3 o3 b3) | ((with_reducible refine YCi (f := 19) ?_); (refine k19 (by omega) fun h1 e1 => ?_))
      exact hq _ exty
theorem k14 {n : Bool} {a b : List UInt8} (hq : Q (.bool (decide (a.length ≤ 24 ∧ b.length ≤ 24))) h) : YC Tryz.prog B0 14 [rat n (bs a) (bs b)] Q h := by
  refine enterF mix Tryz.func14 ok14 rfl (tm := [(0, _)]) (bx := [_]) rfl rfl fun hp => ?_
  repeat' first | (with_reducible first | exact SetAt.z | apply SetAt.s | apply s_end | exact Kept.nil) | refine qq (hk := ?_) | ((with_reducible first | apply Kept.cons | apply q_blky); rfl) | ((with_reducible apply Kept.skip); rfl) | refine wq (hk := ?_) | (apply c_condP; rfl; exact bpx; all_goals intro hc) | ((first | apply s_gTP | apply s_gFP); rfl; exact bpx; all_goals intro hg) | (apply s_lalloc; rfl) | ((first | apply s_lbox | apply s_lstoreR); rfl; rfl; rfl) | (apply s_lstore; rfl; rfl; rfl; rfl; rfl) | (apply s_callB (hm := YC.m _ _); rfl; intro h3 o3 b3)
  all_goals (refine cast (congrArg (fun b => Q (.bool b) _) ?_) hq; refine BP.de (by exact bpx) ?_; first | omega | exact ⟨fun hh => by omega, fun hh => hh.elim⟩)
end
end Am
end Go.Proofs.YtfhlblclcdhbiaaGreatDoor
