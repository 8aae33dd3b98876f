/- unshift; bits. -/
import Derived.Test.YtfhlblclcdhbiaaGreatDoorK3
namespace Go.Proofs.YtfhlblclcdhbiaaGreatDoor
open Go
set_option linter.unusedVariables false
set_option linter.unusedSimpArgs false
namespace Am
section
variable {B0 : Nat} {Q : Value → AH → Prop} {h : AH}
theorem pow_split {s : Nat} (hs : s ≤ 32) : (4294967296 : Int) = 2 ^ (32 - s) * 2 ^ s := by rw [← Int.pow_add, show 32 - s + s = 32 by omega]; rfl
theorem p2 (s : Nat) : (0 : Int) < 2 ^ s := Int.pow_pos (by decide)
/-- a digit of a number shifted right -/
theorem unshift_digit {s : Nat} (hs : s < 32) {x y D : Int} (hx : 0 ≤ x ∧ x < 4294967296) :
    (x + 4294967296 * (y + 4294967296 * D)) / 2 ^ s = (x + 4294967296 * y) / 2 ^ s % 4294967296 + 4294967296 * ((y + 4294967296 * D) / 2 ^ s) := by
  have h0 := p2 s
  have h1 := pow_split (s := s) (by omega)
  have e1 : (x + 4294967296 * (y + 4294967296 * D)) / 2 ^ s = (x + 4294967296 * y) / 2 ^ s + 4294967296 * (2 ^ (32 - s) * D) := by
    have : x + 4294967296 * (y + 4294967296 * D) = (x + 4294967296 * y) + 2 ^ s * (4294967296 * (2 ^ (32 - s) * D)) := by
      have : (4294967296 : Int) * (4294967296 * D) = 2 ^ s * (4294967296 * (2 ^ (32 - s) * D)) := by
        calc (4294967296 : Int) * (4294967296 * D) = 4294967296 * ((2 ^ (32 - s) * 2 ^ s) * D) := by rw [← h1]
          _ = _ := by grind
      omega
    rw [this, Int.add_mul_ediv_left _ _ (by omega)]
  have e3 : (x + 4294967296 * (y + 4294967296 * D)) / 2 ^ s / 4294967296 = (x / 4294967296 + (y + 4294967296 * D)) / 2 ^ s := by
    rw [Int.ediv_ediv_of_nonneg (by omega), Int.mul_comm (2 ^ s), ← Int.ediv_ediv_of_nonneg (by decide)]
    congr 1
    omega
  rw [show x / 4294967296 = 0 from Int.ediv_eq_zero_of_lt hx.1 hx.2, Int.zero_add] at e3
  omega
theorem getD_set {o : List Int} {i : Nat} (hi : i < o.length) (x : Int) : (o.set i x).getD i 0 = x := by
  rw [List.getD_eq_getElem?_getD, List.getElem?_set_self hi]; rfl
theorem drop_len {l : List Int} {i : Nat} (h : l.length ≤ i) : lv (l.drop i) = 0 := by rw [List.drop_eq_nil_of_le h]; rfl
theorem k146 {l : List Int} {v : Value} {s : Nat} (hb : InB l) (hl : l.length ≤ 1099511627776) (hu : US .u32 h.ob l v) (hs : s < 32)
    (hq : ∀ v' h', Ext h h' → US .u32 h'.ob (li (lv l / 2 ^ s).toNat) v' → Q v' h') : YC Tryz.prog B0 146 [v, .int .u64 s] Q h := by
  refine enterF mix Tryz.func146 ok146 rfl (tm := [(0, _), (1, _)]) (bx := []) rfl rfl fun hp => ?_
  repeat' first | (with_reducible first | exact SetAt.z | apply SetAt.s | apply s_end | exact Kept.nil) | refine qq (hk := ?_) | ((with_reducible first | apply Kept.cons | apply q_blky); rfl) | ((with_reducible apply Kept.skip); rfl) | refine ww (hk := ?_) | (apply c_condP; rfl; exact bpx; all_goals intro hc) | ((first | apply s_gTP | apply s_gFP); rfl; exact bpx; all_goals intro hg) | (apply s_lalloc; rfl) | ((first | apply s_lbox); rfl; rfl; rfl) | (apply s_lstore; rfl; rfl; rfl; rfl; rfl) | (apply s_callB (hm := YC.m _ _); rfl; intro h3 o3 b3)
  refine s_mk rfl rfl (by omega) fun h1 n1 => ?_
  rw [reps_U] at n1
  rw [show ((l.length : Int)).toNat = l.length by omega] at n1 ⊢
  have hu1 := hu.ext n1.ext
  repeat' first | (with_reducible first | exact SetAt.z | apply SetAt.s | apply s_end | exact Kept.nil) | refine qq (hk := ?_) | ((with_reducible first | apply Kept.cons | apply q_blky); rfl) | ((with_reducible apply Kept.skip); rfl) | refine ww (hk := ?_) | (apply c_condP; rfl; exact bpx; all_goals intro hc) | ((first | apply s_gTP | apply s_gFP); rfl; exact bpx; all_goals intro hg) | (apply s_lalloc; rfl) | ((first | apply s_lbox); rfl; rfl; rfl) | (apply s_lstore; rfl; rfl; rfl; rfl; rfl) | (apply s_callB (hm := YC.m _ _); rfl; intro h3 o3 b3)
  refine loopI (YC.m _ _) (fun n fr h' => ∃ (i : Nat) (o : List Int), n = l.length - i ∧ i ≤ l.length ∧ Ext h h' ∧ UA .u32 h'.ob h.ob.length o ∧ InB o ∧ o.length = l.length ∧ lv l / 2 ^ s = lv (o.take i) + B i * (lv (l.drop i) / 2 ^ s) ∧
    fr = ⟨[(0, .v v), (1, .v (.int .u64 s)), (5, .v (.slice (some ⟨h.ob.length, 0, none⟩) l.length l.length)), (12, .v (.int .i64 l.length)), (13, .v (.int .i64 i))], []⟩) l.length ⟨0, _, by omega, by omega, n1.ext, n1.at, InB.replicate _, by simp, by simp [lv, B], rfl⟩ ?_
  rintro n fr h' ⟨i, o, rfl, hi, he, ho, hob, hlen, hv, rfl⟩
  have hu2 := hu.ext he
  have u2 := ho.all hlen.symm (Nat.le_refl _)
  have h2s := p2 s
  by_cases hlt : i < l.length
  · have hx := hb.getD i
    have hdi := lv_drop_succ l i hlt
    by_cases hin : i + 1 < l.length
    · have hy := hb.getD (i + 1)
      have hdi2 := lv_drop_succ l (i + 1) hin
      have hy' := hy
      rw [show i + 1 = ((i : Int) + 1).toNat by omega] at hy'
      have hnn : 0 ≤ (l.getD (i + 1) 0 * 4294967296 + l.getD i 0) / 2 ^ s := Int.ediv_nonneg (by omega) (by omega)
      repeat' first | (with_reducible first | exact SetAt.z | apply SetAt.s | apply s_end | exact Kept.nil) | refine qq (hk := ?_) | ((with_reducible first | apply Kept.cons | apply q_blky); rfl) | ((with_reducible apply Kept.skip); rfl) | (apply s_q; rfl; (first | ((with_reducible apply q_or' 32); rfl; rfl; rfl; omega; omega; omega; (simp only [IntKind.bits]; omega); rfl))) | refine ww (hk := ?_) | (apply c_condP; rfl; exact bpx; all_goals intro hc) | ((first | apply s_gTP | apply s_gFP); rfl; exact bpx; all_goals intro hg) | (apply s_lalloc; rfl) | ((first | apply s_lbox); rfl; rfl; rfl) | (apply s_lstore; rfl; rfl; rfl; rfl; rfl) | (apply s_callB (hm := YC.m _ _); rfl; intro h3 o3 b3)
      refine s_stW i ((l.getD (i + 1) 0 * 4294967296 + l.getD i 0) / 2 ^ s % 4294967296) rfl rfl (by have := he.bar; omega) ho (by omega) (by rw [show ((i : Int) + 1).toNat = i + 1 by omega]; rfl) (by omega) fun h2 s2 => ?_
      repeat' first | (with_reducible first | exact SetAt.z | apply SetAt.s | apply s_end | exact Kept.nil) | refine qq (hk := ?_) | ((with_reducible first | apply Kept.cons | apply q_blky); rfl) | ((with_reducible apply Kept.skip); rfl) | refine ww (hk := ?_) | (apply c_condP; rfl; exact bpx; all_goals intro hc) | ((first | apply s_gTP | apply s_gFP); rfl; exact bpx; all_goals intro hg) | (apply s_lalloc; rfl) | ((first | apply s_lbox); rfl; rfl; rfl) | (apply s_lstore; rfl; rfl; rfl; rfl; rfl) | (apply s_callB (hm := YC.m _ _); rfl; intro h3 o3 b3)
      refine q_seql (m := l.length - (i + 1)) (by omega) ⟨i + 1, _, rfl, by omega, s2.ext he (Nat.le_refl _), s2.at ho, hob.set _ (by omega) (by omega), by simpa using hlen, ?_, rfl⟩
      have hd := unshift_digit hs (x := l.getD i 0) (y := l.getD (i + 1) 0) (D := lv (l.drop (i + 1 + 1))) hx
      rw [lv_take_succ _ i (by simpa using (by omega : i < o.length)), List.take_set_of_le (by omega), hv, hdi, hdi2, hd]
      rw [getD_set (by omega)]
      rw [show l.getD (i + 1) 0 * 4294967296 + l.getD i 0 = l.getD i 0 + 4294967296 * l.getD (i + 1) 0 by omega, B_succ]
      grind
    · have hz : lv (l.drop (i + 1)) = 0 := drop_len (by omega)
      have hnn : 0 ≤ l.getD i 0 / 2 ^ s := Int.ediv_nonneg (by omega) (by omega)
      have hle : l.getD i 0 / 2 ^ s ≤ l.getD i 0 := Int.ediv_le_self _ (by omega)
      repeat' first | (with_reducible first | exact SetAt.z | apply SetAt.s | apply s_end | exact Kept.nil) | refine qq (hk := ?_) | ((with_reducible first | apply Kept.cons | apply q_blky); rfl) | ((with_reducible apply Kept.skip); rfl) | refine ww (hk := ?_) | (apply c_condP; rfl; exact bpx; all_goals intro hc) | ((first | apply s_gTP | apply s_gFP); rfl; exact bpx; all_goals intro hg) | (apply s_lalloc; rfl) | ((first | apply s_lbox); rfl; rfl; rfl) | (apply s_lstore; rfl; rfl; rfl; rfl; rfl) | (apply s_callB (hm := YC.m _ _); rfl; intro h3 o3 b3)
      refine s_stW i (l.getD i 0 / 2 ^ s) rfl rfl (by have := he.bar; omega) ho (by omega) (by first | rfl | omega) (by omega) fun h2 s2 => ?_
      repeat' first | (with_reducible first | exact SetAt.z | apply SetAt.s | apply s_end | exact Kept.nil) | refine qq (hk := ?_) | ((with_reducible first | apply Kept.cons | apply q_blky); rfl) | ((with_reducible apply Kept.skip); rfl) | refine ww (hk := ?_) | (apply c_condP; rfl; exact bpx; all_goals intro hc) | ((first | apply s_gTP | apply s_gFP); rfl; exact bpx; all_goals intro hg) | (apply s_lalloc; rfl) | ((first | apply s_lbox); rfl; rfl; rfl) | (apply s_lstore; rfl; rfl; rfl; rfl; rfl) | (apply s_callB (hm := YC.m _ _); rfl; intro h3 o3 b3)
      refine q_seql (m := l.length - (i + 1)) (by omega) ⟨i + 1, _, rfl, by omega, s2.ext he (Nat.le_refl _), s2.at ho, hob.set _ (by omega) (by omega), by simpa using hlen, ?_, rfl⟩
      rw [lv_take_succ _ i (by simpa using (by omega : i < o.length)), List.take_set_of_le (by omega), hv, hdi, hz]
      rw [getD_set (by omega)]
      simp
  · have : i = l.length := by omega
    subst this
    repeat' first | (with_reducible first | exact SetAt.z | apply SetAt.s | apply s_end | exact Kept.nil) | refine qq (hk := ?_) | ((with_reducible first | apply Kept.cons | apply q_blky); rfl) | ((with_reducible apply Kept.skip); rfl) | refine ww (hk := ?_) | (apply c_condP; rfl; exact bpx; all_goals intro hc) | ((first | apply s_gTP | apply s_gFP); rfl; exact bpx; all_goals intro hg) | (apply s_lalloc; rfl) | ((first | apply s_lbox); rfl; rfl; rfl) | (apply s_lstore; rfl; rfl; rfl; rfl; rfl) | (apply s_callB (hm := YC.m _ _); rfl; intro h3 o3 b3)
    refine k134 hob (by omega) u2 fun v' hv' => ?_
    repeat' first | (with_reducible first | exact SetAt.z | apply SetAt.s | apply s_end | exact Kept.nil) | refine qq (hk := ?_) | ((with_reducible first | apply Kept.cons | apply q_blky); rfl) | ((with_reducible apply Kept.skip); rfl) | refine ww (hk := ?_) | (apply c_condP; rfl; exact bpx; all_goals intro hc) | ((first | apply s_gTP | apply s_gFP); rfl; exact bpx; all_goals intro hg) | (apply s_lalloc; rfl) | ((first | apply s_lbox); rfl; rfl; rfl) | (apply s_lstore; rfl; rfl; rfl; rfl; rfl) | (apply s_callB (hm := YC.m _ _); rfl; intro h3 o3 b3)
    rw [drop_len (Nat.le_refl _), List.take_of_length_le (by omega)] at hv
    rw [show lv l / 2 ^ s = lv o by simpa using hv] at hq
    exact hq _ _ he hv'
/-! ### bits -/
theorem nb31 {n : Nat} (h : n < 4294967296) : n / 2147483648 = if n.testBit 31 then 1 else 0 := by
  rw [Nat.testBit_eq_decide_div_mod_eq]
  have : n / 2 ^ 31 < 2 := by omega
  by_cases h1 : n / 2 ^ 31 % 2 = 1
  · simp [h1]; omega
  · simp [h1]; omega
theorem tb31 {n : Nat} (h : n < 4294967296) : n.testBit 31 = decide (2147483648 ≤ n) := by
  rw [Nat.testBit_eq_decide_div_mod_eq]
  have : n / 2 ^ 31 < 2 := by omega
  congr 1
  simp
  omega
theorem sub_borrow {x y b d : Nat} (hx : x < 4294967296) (hy : y < 4294967296) (hb : b ≤ 1) (hd : (d : Int) = ((x : Int) - y - b) % 4294967296) :
    ((((4294967295 ^^^ x) &&& y) ||| ((4294967295 ^^^ (x ^^^ y)) &&& d)) / 2147483648) = if x < y + b then 1 else 0 := by
  have hd2 : d < 4294967296 := by omega
  have hl : (((4294967295 ^^^ x) &&& y) ||| ((4294967295 ^^^ (x ^^^ y)) &&& d)) < 4294967296 := by
    refine Nat.or_lt_two_pow (n := 32) (Nat.and_lt_two_pow _ (by simpa using hy)) (Nat.and_lt_two_pow _ (by simpa using hd2))
  rw [nb31 hl]
  simp only [Nat.testBit_or, Nat.testBit_and, Nat.testBit_xor, tb31 hx, tb31 hy, tb31 hd2, show Nat.testBit 4294967295 31 = true from by decide]
  by_cases h1 : 2147483648 ≤ x <;> by_cases h2 : 2147483648 ≤ y <;> by_cases h3 : 2147483648 ≤ d <;> simp [h1, h2, h3] <;> omega
theorem bvU {a : Nat} (h : a < 4294967296) : (BitVec.ofInt IntKind.u32.bits (a : Int)).toNat = a := by
  simp only [IntKind.bits, BitVec.toNat_ofInt]
  omega
theorem wU {a : Nat} (h : a < 4294967296) : IntKind.u32.wrap (a : Int) = a := by rw [wU32]; omega
theorem q_andU {x y : X} {fr : Fr} {a b : Nat} (hx : vl fr x = some (.int .u32 a)) (hy : vl fr y = some (.int .u32 b)) (ha : a < 4294967296) (hb : b < 4294967296) : qO (.bin .and x y) fr h = some (.v (.int .u32 (a &&& b : Nat))) := by
  simp only [qO, hx, hy, binV, ne_eq, not_true, if_false, BitVec.toNat_and, bvU ha, bvU hb]
  rw [wU (Nat.and_lt_two_pow (n := 32) _ (by simpa using hb))]
theorem q_orU {x y : X} {fr : Fr} {a b : Nat} (hx : vl fr x = some (.int .u32 a)) (hy : vl fr y = some (.int .u32 b)) (ha : a < 4294967296) (hb : b < 4294967296) : qO (.bin .or x y) fr h = some (.v (.int .u32 (a ||| b : Nat))) := by
  simp only [qO, hx, hy, binV, ne_eq, not_true, if_false, BitVec.toNat_or, bvU ha, bvU hb]
  rw [wU (Nat.or_lt_two_pow (n := 32) (by simpa using ha) (by simpa using hb))]
theorem q_xorU {x y : X} {fr : Fr} {a b : Nat} (hx : vl fr x = some (.int .u32 a)) (hy : vl fr y = some (.int .u32 b)) (ha : a < 4294967296) (hb : b < 4294967296) : qO (.bin .xor x y) fr h = some (.v (.int .u32 (a ^^^ b : Nat))) := by
  simp only [qO, hx, hy, binV, ne_eq, not_true, if_false, BitVec.toNat_xor, bvU ha, bvU hb]
  rw [wU (Nat.xor_lt_two_pow (n := 32) (by simpa using ha) (by simpa using hb))]
theorem q_notU {x : X} {fr : Fr} {a : Nat} (hx : vl fr x = some (.int .u32 a)) (ha : a < 4294967296) : qO (.un .xor x) fr h = some (.v (.int .u32 (4294967295 ^^^ a : Nat))) := by
  have : (BitVec.ofInt IntKind.u32.bits IntKind.u32.max).toNat = 4294967295 := by decide
  simp only [qO, hx, unV, show IntKind.u32.signed = false from rfl, Bool.false_eq_true, if_false, BitVec.toNat_xor, this, bvU ha]
  rw [wU (Nat.xor_lt_two_pow (n := 32) (by decide) (by simpa using ha))]
theorem q_subU {x y : X} {fr : Fr} {a b : Int} (hx : vl fr x = some (.int .u32 a)) (hy : vl fr y = some (.int .u32 b)) : qO (.bin .sub x y) fr h = some (.v (.int .u32 ((a - b) % 4294967296))) := by
  simp [qO, hx, hy, binV, wU32]
theorem q_subUd {x y : X} {fr : Fr} {a b d : Int} (hx : vl fr x = some (.int .u32 a)) (hy : vl fr y = some (.int .u32 b)) (hd : (a - b) % 4294967296 = d) : qO (.bin .sub x y) fr h = some (.v (.int .u32 d)) := by
  rw [← hd]; exact q_subU hx hy
/-- bits.Sub32 -/
theorem k161 {x y b : Int} (hx : 0 ≤ x ∧ x < 4294967296) (hy : 0 ≤ y ∧ y < 4294967296) (hb : 0 ≤ b ∧ b ≤ 1) (hq : Q (.tuple #[.int .u32 ((x - y - b) % 4294967296), .int .u32 (if x < y + b then 1 else 0)]) h) : YC Tryz.prog B0 161 [.int .u32 x, .int .u32 y, .int .u32 b] Q h := by
  refine enterF mix Tryz.func161 ok161 rfl (tm := [(0, _), (1, _), (2, _)]) (bx := []) rfl rfl fun hp => ?_
  obtain ⟨x, rfl⟩ := Int.eq_ofNat_of_zero_le hx.1
  obtain ⟨y, rfl⟩ := Int.eq_ofNat_of_zero_le hy.1
  obtain ⟨b, rfl⟩ := Int.eq_ofNat_of_zero_le hb.1
  obtain ⟨d, hd⟩ := Int.eq_ofNat_of_zero_le (a := (((x : Int) - y) % 4294967296 - b) % 4294967296) (by omega)
  have hd0 : (d : Int) = ((x : Int) - y - b) % 4294967296 := by omega
  have hx1 : x < 4294967296 := by omega
  have hy1 : y < 4294967296 := by omega
  have hd1 : d < 4294967296 := by omega
  have n1 : (4294967295 ^^^ x) < 4294967296 := Nat.xor_lt_two_pow (n := 32) (by decide) (by simpa using hx1)
  have n2 : (4294967295 ^^^ x) &&& y < 4294967296 := Nat.and_lt_two_pow (n := 32) _ (by simpa using hy1)
  have n3 : x ^^^ y < 4294967296 := Nat.xor_lt_two_pow (n := 32) (by simpa using hx1) (by simpa using hy1)
  have n4 : (4294967295 ^^^ (x ^^^ y)) < 4294967296 := Nat.xor_lt_two_pow (n := 32) (by decide) (by simpa using n3)
  have n5 : (4294967295 ^^^ (x ^^^ y)) &&& d < 4294967296 := Nat.and_lt_two_pow (n := 32) _ (by simpa using hd1)
  repeat' first | (with_reducible first | exact SetAt.z | apply SetAt.s | apply s_end | exact Kept.nil) | refine qq (hk := ?_) | ((with_reducible first | apply Kept.cons | apply q_blky); rfl) | ((with_reducible apply Kept.skip); rfl) | (apply s_q; rfl; (first | ((with_reducible apply q_subUd); rfl; rfl; exact hd) | ((with_reducible apply q_subU); rfl; rfl) | ((with_reducible apply q_andU); rfl; rfl; assumption; assumption) | ((with_reducible apply q_orU); rfl; rfl; assumption; assumption) | ((with_reducible apply q_xorU); rfl; rfl; assumption; assumption) | ((with_reducible apply q_notU); rfl; assumption) | ((with_reducible apply q_shr); rfl; rfl; (simp only [IntKind.bits]; omega)))) | refine ww (hk := ?_) | (apply c_condP; rfl; exact bpx; all_goals intro hc) | ((first | apply s_gTP | apply s_gFP); rfl; exact bpx; all_goals intro hg) | (apply s_lalloc; rfl) | ((first | apply s_lbox); rfl; rfl; rfl) | (apply s_lstore; rfl; rfl; rfl; rfl; rfl) | (apply s_callB (hm := YC.m _ _); rfl; intro h3 o3 b3)
  have := sub_borrow hx1 hy1 (b := b) (by omega) hd0
  rw [← hd0] at hq
  have e : (((((4294967295 ^^^ x) &&& y ||| (4294967295 ^^^ (x ^^^ y)) &&& d : Nat) : Int)) / 2 ^ (Int.toNat 31)) = if (x : Int) < y + b then 1 else 0 := by
    rw [show (2 : Int) ^ (Int.toNat 31) = 2147483648 from rfl]
    split at this <;> split <;> omega
  show Q (.tuple #[.int .u32 d, .int .u32 (((((4294967295 ^^^ x) &&& y ||| (4294967295 ^^^ (x ^^^ y)) &&& d : Nat) : Int)) / 2 ^ (Int.toNat 31))]) h
  rw [e]
  exact hq
/-- bits.Add32 -/
theorem k162 {x y b : Int} (hx : 0 ≤ x ∧ x < 4294967296) (hy : 0 ≤ y ∧ y < 4294967296) (hb : 0 ≤ b ∧ b ≤ 1) (hq : Q (.tuple #[.int .u32 ((x + y + b) % 4294967296), .int .u32 ((x + y + b) / 4294967296)]) h) : YC Tryz.prog B0 162 [.int .u32 x, .int .u32 y, .int .u32 b] Q h := by
  refine enterF mix Tryz.func162 ok162 rfl (tm := [(0, _), (1, _), (2, _)]) (bx := []) rfl rfl fun hp => ?_
  repeat' first | (with_reducible first | exact SetAt.z | apply SetAt.s | apply s_end | exact Kept.nil) | refine qq (hk := ?_) | ((with_reducible first | apply Kept.cons | apply q_blky); rfl) | ((with_reducible apply Kept.skip); rfl) | refine ww (hk := ?_) | (apply c_condP; rfl; exact bpx; all_goals intro hc) | ((first | apply s_gTP | apply s_gFP); rfl; exact bpx; all_goals intro hg) | (apply s_lalloc; rfl) | ((first | apply s_lbox); rfl; rfl; rfl) | (apply s_lstore; rfl; rfl; rfl; rfl; rfl) | (apply s_callB (hm := YC.m _ _); rfl; intro h3 o3 b3)
  exact hq
theorem q_shr16 {x y : X} {fr : Fr} {a : Int} {k' : IntKind} (hx : vl fr x = some (.int .u32 a)) (hy : vl fr y = some (.int k' 16)) : qO (.bin .shr x y) fr h = some (.v (.int .u32 (a / 65536))) :=
  q_shr hx hy (by simp [IntKind.bits])
theorem q_shr8 {x y : X} {fr : Fr} {a : Int} {k' : IntKind} (hx : vl fr x = some (.int .u32 a)) (hy : vl fr y = some (.int k' 8)) : qO (.bin .shr x y) fr h = some (.v (.int .u32 (a / 256))) :=
  q_shr hx hy (by simp [IntKind.bits])
theorem q_cvI8 {x : X} {fr : Fr} {b : UInt8} (hx : vl fr x = some (.int .u8 b.toNat)) : qO (.conv .i64 x) fr h = some (.v (.int .i64 b.toNat)) :=
  q_cvI hx ⟨by omega, by have := b.toNat_lt; omega⟩
def tab8 : List UInt8 := [0, 1, 2, 2, 3, 3, 3, 3, 4, 4, 4, 4, 4, 4, 4, 4, 5, 5, 5, 5, 5, 5, 5, 5, 5, 5, 5, 5, 5, 5, 5, 5, 6, 6, 6, 6, 6, 6, 6, 6, 6, 6, 6, 6, 6, 6, 6, 6, 6, 6, 6, 6, 6, 6, 6, 6, 6, 6, 6, 6, 6, 6, 6, 6, 7, 7, 7, 7, 7, 7, 7, 7, 7, 7, 7, 7, 7, 7, 7, 7, 7, 7, 7, 7, 7, 7, 7, 7, 7, 7, 7, 7, 7, 7, 7, 7, 7, 7, 7, 7, 7, 7, 7, 7, 7, 7, 7, 7, 7, 7, 7, 7, 7, 7, 7, 7, 7, 7, 7, 7, 7, 7, 7, 7, 7, 7, 7, 7, 8, 8, 8, 8, 8, 8, 8, 8, 8, 8, 8, 8, 8, 8, 8, 8, 8, 8, 8, 8, 8, 8, 8, 8, 8, 8, 8, 8, 8, 8, 8, 8, 8, 8, 8, 8, 8, 8, 8, 8, 8, 8, 8, 8, 8, 8, 8, 8, 8, 8, 8, 8, 8, 8, 8, 8, 8, 8, 8, 8, 8, 8, 8, 8, 8, 8, 8, 8, 8, 8, 8, 8, 8, 8, 8, 8, 8, 8, 8, 8, 8, 8, 8, 8, 8, 8, 8, 8, 8, 8, 8, 8, 8, 8, 8, 8, 8, 8, 8, 8, 8, 8, 8, 8, 8, 8, 8, 8, 8, 8, 8, 8, 8, 8, 8, 8, 8, 8, 8, 8, 8, 8, 8, 8, 8, 8, 8, 8]
theorem tab8_ok : ∀ k, k < 256 → (tab8.getD k 0).toNat ≤ 8 ∧ k < 2 ^ (tab8.getD k 0).toNat ∧ ((tab8.getD k 0).toNat = 0 ∨ 2 ^ ((tab8.getD k 0).toNat - 1) ≤ k) := by decide +kernel
/-- bits.Len32 -/
theorem k160 {x : Nat} (hx : x < 4294967296) (hq : ∀ n : Nat, n ≤ 32 → x < 2 ^ n → (n = 0 ∨ 2 ^ (n - 1) ≤ x) → Q (.int .i64 n) h) : YC Tryz.prog B0 160 [.int .u32 x] Q h := by
  refine enterF mix Tryz.func160 ok160 rfl (tm := [(0, _)]) (bx := []) rfl rfl fun hp => ?_
  have hl : tab8.length = 256 := by decide +kernel
  have t1 := tab8_ok ((x : Int) / 65536 / 256 % 256).toNat (by omega)
  have t2 := tab8_ok ((x : Int) / 65536 % 256).toNat (by omega)
  have t3 := tab8_ok ((x : Int) / 256 % 256).toNat (by omega)
  have t4 := tab8_ok ((x : Int) % 256).toNat (by omega)
  have fin : ∀ (k m : Nat), k ≤ 24 → k + m ≤ 32 → x / 2 ^ k < 2 ^ m → (m = 0 ∨ 2 ^ (m - 1) ≤ x / 2 ^ k) → (m = 0 → k = 0) → Q (.int .i64 ((k : Int) + m)) h := by
    intro k m hk hkm h1 h2 h3
    have e : ((k : Int) + m) = ((k + m : Nat) : Int) := by omega
    rw [e]
    have h4 : x < 2 ^ (k + m) := by
      rw [Nat.pow_add, Nat.mul_comm]
      exact (Nat.div_lt_iff_lt_mul (Nat.two_pow_pos k)).mp h1
    refine hq _ hkm h4 ?_
    rcases h2 with h2 | h2
    · exact .inl (by omega)
    · by_cases hm : m = 0
      · exact .inl (by omega)
      · right
        rw [show k + m - 1 = (m - 1) + k by omega, Nat.pow_add]
        exact (Nat.le_div_iff_mul_le (Nat.two_pow_pos k)).mp h2
  repeat' first | (with_reducible first | exact SetAt.z | apply SetAt.s | apply s_end | exact Kept.nil) | refine qq (hk := ?_) | ((with_reducible first | apply Kept.cons | apply q_blky); rfl) | ((with_reducible apply Kept.skip); rfl) | (apply s_q; rfl; (first | ((with_reducible apply q_shr16); rfl; rfl) | ((with_reducible apply q_shr8); rfl; rfl) | ((with_reducible apply q_cvI8); rfl) | ((with_reducible apply qs_ix (l := tab8)); rfl; rfl; omega; omega))) | refine ww (hk := ?_) | (apply c_condP; rfl; exact bpx; all_goals intro hc) | ((first | apply s_gTP | apply s_gFP); rfl; exact bpx; all_goals intro hg) | (apply s_lalloc; rfl) | ((first | apply s_lbox); rfl; rfl; rfl) | (apply s_lstore; rfl; rfl; rfl; rfl; rfl) | (apply s_callB (hm := YC.m _ _); rfl; intro h3 o3 b3)
  · rw [show ((x : Int) / 65536 / 256 % 256).toNat = x / 2 ^ 24 by omega] at t1 ⊢
    exact fin 24 _ (by omega) (by omega) t1.2.1 t1.2.2 (fun hm => by rw [hm] at t1; simp at t1; omega)
  · rw [show ((x : Int) / 65536 % 256).toNat = x / 2 ^ 16 by omega] at t2 ⊢
    exact fin 16 _ (by omega) (by omega) t2.2.1 t2.2.2 (fun hm => by rw [hm] at t2; simp at t2; omega)
  · rw [show ((x : Int) / 256 % 256).toNat = x / 2 ^ 8 by omega] at t3 ⊢
    exact fin 8 _ (by omega) (by omega) t3.2.1 t3.2.2 (fun hm => by rw [hm] at t3; simp at t3; omega)
  · rw [show ((x : Int) % 256).toNat = x / 2 ^ 0 by simp; omega] at t4 ⊢
    exact fin 0 _ (by omega) (by omega) t4.2.1 t4.2.2 (fun _ => rfl)
/-- bits.LeadingZeros32 -/
theorem k143 {x : Nat} (h0 : 0 < x) (hx : x < 4294967296) (hq : ∀ s : Nat, s < 32 → 2147483648 ≤ x * 2 ^ s → x * 2 ^ s < 4294967296 → Q (.int .i64 s) h) : YC Tryz.prog B0 143 [.int .u32 x] Q h := by
  refine enterF mix Tryz.func143 ok143 rfl (tm := [(0, _)]) (bx := []) rfl rfl fun hp => ?_
  repeat' first | (with_reducible first | exact SetAt.z | apply SetAt.s | apply s_end | exact Kept.nil) | refine qq (hk := ?_) | ((with_reducible first | apply Kept.cons | apply q_blky); rfl) | ((with_reducible apply Kept.skip); rfl) | refine ww (hk := ?_) | (apply c_condP; rfl; exact bpx; all_goals intro hc) | ((first | apply s_gTP | apply s_gFP); rfl; exact bpx; all_goals intro hg) | (apply s_lalloc; rfl) | ((first | apply s_lbox); rfl; rfl; rfl) | (apply s_lstore; rfl; rfl; rfl; rfl; rfl) | (apply s_callB (hm := YC.m _ _); rfl; intro h3 o3 b3) | ((with_reducible refine YCi (f := 160) ?_); refine k160 hx fun n hn h1 h2 => ?_)
  have hn0 : n ≠ 0 := by rintro rfl; simp at h1; omega
  have h3 := h2.resolve_left hn0
  have e : (32 - (n : Int)) = ((32 - n : Nat) : Int) := by omega
  show Q (.int .i64 (32 - (n : Int))) h
  rw [e]
  refine hq _ (by omega) ?_ ?_
  · have : 2 ^ (n - 1) * 2 ^ (32 - n) ≤ x * 2 ^ (32 - n) := Nat.mul_le_mul_right _ h3
    rw [← Nat.pow_add, show n - 1 + (32 - n) = 31 by omega] at this
    exact this
  · have : x * 2 ^ (32 - n) < 2 ^ n * 2 ^ (32 - n) := Nat.mul_lt_mul_of_pos_right h1 (Nat.two_pow_pos _)
    rw [← Nat.pow_add, show n + (32 - n) = 32 by omega] at this
    exact this
end
end Am
end Go.Proofs.YtfhlblclcdhbiaaGreatDoor
