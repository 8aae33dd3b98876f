/- parse, text. -/
import Derived.Test.YtfhlblclcdhbiaaGreatDoorK1
namespace Go.Proofs.YtfhlblclcdhbiaaGreatDoor
open Go
set_option linter.unusedVariables false
set_option linter.unusedSimpArgs false
namespace Am
section
variable {B0 : Nat} {Q : Value → AH → Prop} {h : AH}
theorem getD_lt {l : List Int} {j : Nat} {c : Int} (hb : InB l) (hj : j < l.length) (h : lv l < B j * c) : l.getD j 0 < c := by
  have h1 := lv_split l j (by omega)
  have h2 := lv_drop_succ l j hj
  have h3 := lv_nonneg (hb.take j)
  have h4 := lv_nonneg (hb.drop (j + 1))
  have h5 : B j * l.getD j 0 ≤ B j * lv (l.drop j) := Int.mul_le_mul_of_nonneg_left (by omega) (by have := B_pos j; omega)
  exact Int.lt_of_mul_lt_mul_left (a := B j) (by omega) (by have := B_pos j; omega)
theorem pow256 (i : Nat) : ((256 ^ i : Nat) : Int) = B (i / 4) * 2 ^ (8 * (i % 4)) := by
  have h1 : (256 : Int) = 2 ^ 8 := by decide
  have h2 : (4294967296 : Int) = 2 ^ 32 := by decide
  rw [Int.natCast_pow, show ((256 : Nat) : Int) = 256 from rfl, B, h1, h2, ← Int.pow_mul, ← Int.pow_mul, ← Int.pow_add]
  congr 1
  omega
theorem bvl_take (r : List UInt8) (i : Nat) (hi : i < r.length) : bvl (r.take (i + 1)) = bvl (r.take i) + 256 ^ i * (r.getD i 0).toNat := by
  rw [List.take_succ_eq_append_getElem hi, bvl_append, List.getD_eq_getElem?_getD, List.getElem?_eq_getElem hi]
  simp [bvl, Nat.min_eq_left (Nat.le_of_lt hi)]
theorem rev_getD (l : List UInt8) (i : Nat) (hi : i < l.length) : l.reverse.getD i 0 = l.getD (l.length - 1 - i) 0 := by
  rw [List.getD_eq_getElem?_getD, List.getD_eq_getElem?_getD, List.getElem?_reverse hi]
theorem bits4 {s : Nat} (h : s = 0 ∨ s = 8 ∨ s = 16 ∨ s = 24) {x : Int} (h0 : 0 ≤ x) (h1 : x < 256) {a : Int} (ha : a < 2 ^ s) : x * 2 ^ s + a < 4294967296 ∧ 0 ≤ x * 2 ^ s := by
  rcases h with rfl | rfl | rfl | rfl <;> simp at * <;> omega
theorem k115 {l : List UInt8} (hl : l.length ≤ 1099511627776) (hq : ∀ v h', Ext h h' → US .u32 h'.ob (li (bv l)) v → Q v h') : YC Tryz.prog B0 115 [.string (bs l)] Q h := by
  refine enterF mix Tryz.func115 ok115 rfl (tm := [(0, _)]) (bx := []) rfl rfl fun hp => ?_
  repeat' first | (with_reducible first | exact SetAt.z | apply SetAt.s | apply s_end | exact Kept.nil) | refine qq (hk := ?_) | ((with_reducible first | apply Kept.cons | apply q_blky); rfl) | ((with_reducible apply Kept.skip); rfl) | refine ww (hk := ?_) | (apply c_condP; rfl; exact bpx; all_goals intro hc) | ((first | apply s_gTP | apply s_gFP); rfl; exact bpx; all_goals intro hg) | (apply s_lalloc; rfl) | ((first | apply s_lbox); rfl; rfl; rfl) | (apply s_lstore; rfl; rfl; rfl; rfl; rfl) | (apply s_callB (hm := YC.m _ _); rfl; intro h3 o3 b3)
  refine s_mk rfl rfl (by omega) fun h1 n1 => ?_
  rw [reps_U] at n1
  generalize hm : ((l.length : Int) + 4 - 1) / 4 = m at *
  have hm0 : m.toNat = (l.length + 3) / 4 := by omega
  generalize m.toNat = N at *
  repeat' first | (with_reducible first | exact SetAt.z | apply SetAt.s | apply s_end | exact Kept.nil) | refine qq (hk := ?_) | ((with_reducible first | apply Kept.cons | apply q_blky); rfl) | ((with_reducible apply Kept.skip); rfl) | refine ww (hk := ?_) | (apply c_condP; rfl; exact bpx; all_goals intro hc) | ((first | apply s_gTP | apply s_gFP); rfl; exact bpx; all_goals intro hg) | (apply s_lalloc; rfl) | ((first | apply s_lbox); rfl; rfl; rfl) | (apply s_lstore; rfl; rfl; rfl; rfl; rfl) | (apply s_callB (hm := YC.m _ _); rfl; intro h3 o3 b3)
  refine loopI (YC.m _ _) (fun n fr h' => ∃ (i : Nat) (o : List Int), n = l.length - i ∧ i ≤ l.length ∧ Ext h h' ∧ UA .u32 h'.ob h.ob.length o ∧ InB o ∧ o.length = N ∧ lv o = bvl (l.reverse.take i) ∧
    fr = ⟨[(0, .v (.string (bs l))), (3, .v (.slice (some ⟨h.ob.length, 0, none⟩) N N)), (12, .v (.int .i64 l.length)), (13, .v (.int .i64 i))], []⟩) l.length ⟨0, _, by omega, by omega, n1.ext, n1.at, InB.replicate _, by simp, by simp [lv_replicate, bvl], rfl⟩ ?_
  rintro n fr h' ⟨i, o, rfl, hi, he, ho, hb, hlen, hv, rfl⟩
  have hu := ho.all hlen.symm (Nat.le_refl _)
  by_cases hlt : i < l.length
  · have hs : (8 * ((i : Int) % 4)).toNat = 8 * (i % 4) := by omega
    have hj : ((i : Int) / 4).toNat = i / 4 := by omega
    have hold : o.getD (i / 4) 0 < 2 ^ (8 * (i % 4)) := by
      refine getD_lt hb (by omega) ?_
      rw [← pow256, hv]
      have := bvl_lt (l.reverse.take i)
      rw [List.length_take, List.length_reverse, Nat.min_eq_left hi] at this
      exact_mod_cast this
    have hold0 := (hb.getD (i / 4)).1
    have h8 := (l.getD (((l.length : Int) - 1 - i).toNat) 0).toNat_lt
    have hbits := bits4 (s := 8 * (i % 4)) (by omega) (x := ((l.getD (((l.length : Int) - 1 - i).toNat) 0).toNat : Int)) (by omega) (by omega) hold
    have hshl : 0 ≤ ((l.getD (((l.length : Int) - 1 - i).toNat) 0).toNat : Int) * 2 ^ (8 * ((i : Int) % 4)).toNat ∧ ((l.getD (((l.length : Int) - 1 - i).toNat) 0).toNat : Int) * 2 ^ (8 * ((i : Int) % 4)).toNat ≤ 4294967295 := by
      rw [hs]; omega
    repeat' first | (with_reducible first | exact SetAt.z | apply SetAt.s | apply s_end | exact Kept.nil) | refine qq (hk := ?_) | ((with_reducible first | apply Kept.cons | apply q_blky); rfl) | ((with_reducible apply Kept.skip); rfl) | (apply s_q; rfl; (first | ((with_reducible apply q_shlU); rfl; rfl; omega; exact hshl) | ((with_reducible apply q_or' (8 * (i % 4))); rfl; rfl; rw [hs]; rw [hj]; exact hold0; rw [hj]; exact hold; omega; rw [hj]; exact hbits.1; rfl))) | refine ww (hk := ?_) | (apply c_condP; rfl; exact bpx; all_goals intro hc) | ((first | apply s_gTP | apply s_gFP); rfl; exact bpx; all_goals intro hg) | (apply s_lalloc; rfl) | ((first | apply s_lbox); rfl; rfl; rfl) | (apply s_lstore; rfl; rfl; rfl; rfl; rfl) | (apply s_callB (hm := YC.m _ _); rfl; intro h3 o3 b3)
    refine s_stU rfl rfl (by have := he.bar; omega) ho (by omega) fun h2 s2 => ?_
    rw [hj, Nat.zero_add] at s2
    repeat' first | (with_reducible first | exact SetAt.z | apply SetAt.s | apply s_end | exact Kept.nil) | refine qq (hk := ?_) | ((with_reducible first | apply Kept.cons | apply q_blky); rfl) | ((with_reducible apply Kept.skip); rfl) | refine ww (hk := ?_) | (apply c_condP; rfl; exact bpx; all_goals intro hc) | ((first | apply s_gTP | apply s_gFP); rfl; exact bpx; all_goals intro hg) | (apply s_lalloc; rfl) | ((first | apply s_lbox); rfl; rfl; rfl) | (apply s_lstore; rfl; rfl; rfl; rfl; rfl) | (apply s_callB (hm := YC.m _ _); rfl; intro h3 o3 b3)
    refine q_seql (m := l.length - (i + 1)) (by omega) ⟨i + 1, _, rfl, by omega, s2.ext he (Nat.le_refl _), s2.at ho, hb.set _ (by omega) hbits.1, by simpa using hlen, ?_, rfl⟩
    rw [lv_set (by omega), hv, bvl_take _ _ (by simpa using hlt), rev_getD _ _ hlt, Int.natCast_add, Int.natCast_mul, pow256]
    rw [show ((l.length : Int) - 1 - i).toNat = l.length - 1 - i by omega]
    grind
  · have : i = l.length := by omega
    subst this
    repeat' first | (with_reducible first | exact SetAt.z | apply SetAt.s | apply s_end | exact Kept.nil) | refine qq (hk := ?_) | ((with_reducible first | apply Kept.cons | apply q_blky); rfl) | ((with_reducible apply Kept.skip); rfl) | refine ww (hk := ?_) | (apply c_condP; rfl; exact bpx; all_goals intro hc) | ((first | apply s_gTP | apply s_gFP); rfl; exact bpx; all_goals intro hg) | (apply s_lalloc; rfl) | ((first | apply s_lbox); rfl; rfl; rfl) | (apply s_lstore; rfl; rfl; rfl; rfl; rfl) | (apply s_callB (hm := YC.m _ _); rfl; intro h3 o3 b3)
    refine k134 hb (by omega) hu fun v hv' => ?_
    repeat' first | (with_reducible first | exact SetAt.z | apply SetAt.s | apply s_end | exact Kept.nil) | refine qq (hk := ?_) | ((with_reducible first | apply Kept.cons | apply q_blky); rfl) | ((with_reducible apply Kept.skip); rfl) | refine ww (hk := ?_) | (apply c_condP; rfl; exact bpx; all_goals intro hc) | ((first | apply s_gTP | apply s_gFP); rfl; exact bpx; all_goals intro hg) | (apply s_lalloc; rfl) | ((first | apply s_lbox); rfl; rfl; rfl) | (apply s_lstore; rfl; rfl; rfl; rfl; rfl) | (apply s_callB (hm := YC.m _ _); rfl; intro h3 o3 b3)
    refine hq _ _ he ?_
    rw [hv, List.take_of_length_le (by simp)] at hv'
    exact hv'
/-- the bytes of limbs, the least significant first -/
def le4 : List Int → List Int
  | [] => []
  | x :: l => x % 256 :: x / 256 % 256 :: x / 65536 % 256 :: x / 16777216 % 256 :: le4 l
theorem le4_len (l : List Int) : (le4 l).length = 4 * l.length := by
  induction l with
  | nil => rfl
  | cons x l ih => simp [le4, ih]; omega
theorem le4_getD : ∀ (l : List Int) (k : Nat), (le4 l).getD k 0 = l.getD (k / 4) 0 / 2 ^ (8 * (k % 4)) % 256
  | [], k => by simp [le4]
  | x :: l, 0 => by simp [le4]
  | x :: l, 1 => by simp [le4]
  | x :: l, 2 => by simp [le4]
  | x :: l, 3 => by simp [le4]
  | x :: l, k + 4 => by
    have := le4_getD l k
    rw [show (k + 4) / 4 = k / 4 + 1 by omega, show (k + 4) % 4 = k % 4 by omega]
    simpa [le4] using this
theorem byt_toNat {n : Int} (h : 0 ≤ n) (h2 : n < 256) : ((byt n).toNat : Int) = n := by
  show (((UInt8.ofNat n.toNat).toNat : Nat) : Int) = n
  rw [UInt8.toNat_ofNat']
  omega
theorem bvl_le4 {l : List Int} (hb : InB l) : ((bvl ((le4 l).map byt) : Nat) : Int) = lv l := by
  induction l with
  | nil => rfl
  | cons x l ih =>
    have h1 := hb.head
    have h2 := ih hb.tail
    simp only [le4, List.map_cons, bvl, lv]
    have a1 := byt_toNat (n := x % 256) (by omega) (by omega)
    have a2 := byt_toNat (n := x / 256 % 256) (by omega) (by omega)
    have a3 := byt_toNat (n := x / 65536 % 256) (by omega) (by omega)
    have a4 := byt_toNat (n := x / 16777216 % 256) (by omega) (by omega)
    omega
theorem k116 {l : List Int} {v : Value} (hb : InB l) (hl : l.length ≤ 1099511627776) (hu : US .u32 h.ob l v) (hq : ∀ h', Ext h h' → Q (.string (bs (sb (lv l).toNat))) h') : YC Tryz.prog B0 116 [v] Q h := by
  refine enterF mix Tryz.func116 ok116 rfl (tm := [(0, _)]) (bx := []) rfl rfl fun hp => ?_
  repeat' first | (with_reducible first | exact SetAt.z | apply SetAt.s | apply s_end | exact Kept.nil) | refine qq (hk := ?_) | ((with_reducible first | apply Kept.cons | apply q_blky); rfl) | ((with_reducible apply Kept.skip); rfl) | refine ww (hk := ?_) | (apply c_condP; rfl; exact bpx; all_goals intro hc) | ((first | apply s_gTP | apply s_gFP); rfl; exact bpx; all_goals intro hg) | (apply s_lalloc; rfl) | ((first | apply s_lbox); rfl; rfl; rfl) | (apply s_lstore; rfl; rfl; rfl; rfl; rfl) | (apply s_callB (hm := YC.m _ _); rfl; intro h3 o3 b3)
  refine s_mk rfl rfl (by omega) fun h1 n1 => ?_
  rw [reps_U] at n1
  have hm : ((l.length : Int) * 4).toNat = 4 * l.length := by omega
  rw [hm] at n1 ⊢
  have hu1 := hu.ext n1.ext
  have u1 := UA.all (k := .u8) n1.at (m := 4 * l.length) (by simp) (Nat.le_refl _)
  repeat' first | (with_reducible first | exact SetAt.z | apply SetAt.s | apply s_end | exact Kept.nil) | refine qq (hk := ?_) | ((with_reducible first | apply Kept.cons | apply q_blky); rfl) | ((with_reducible apply Kept.skip); rfl) | refine ww (hk := ?_) | (apply c_condP; rfl; exact bpx; all_goals intro hc) | ((first | apply s_gTP | apply s_gFP); rfl; exact bpx; all_goals intro hg) | (apply s_lalloc; rfl) | ((first | apply s_lbox); rfl; rfl; rfl) | (apply s_lstore; rfl; rfl; rfl; rfl; rfl) | (apply s_callB (hm := YC.m _ _); rfl; intro h3 o3 b3)
  refine loopI (YC.m _ _) (fun n fr h' => ∃ (i : Nat) (o : List Int), n = 4 * l.length - i ∧ i ≤ 4 * l.length ∧ Ext h h' ∧ UA .u8 h'.ob h.ob.length o ∧ o.length = 4 * l.length ∧ (∀ k, k < i → o.getD (4 * l.length - 1 - k) 0 = l.getD (k / 4) 0 / 2 ^ (8 * (k % 4)) % 256) ∧
    fr = ⟨[(0, .v v), (3, .v (.slice (some ⟨h.ob.length, 0, none⟩) (4 * l.length) (4 * l.length))), (10, .v (.int .i64 (4 * l.length))), (11, .v (.int .i64 i))], []⟩) (4 * l.length) ⟨0, _, by omega, by omega, n1.ext, n1.at, by simp, by omega, by simp⟩ ?_
  rintro n fr h' ⟨i, o, rfl, hi, he, ho, hlen, hv, rfl⟩
  have hu2 := hu.ext he
  have u2 := ho.all hlen.symm (Nat.le_refl _)
  by_cases hlt : i < 4 * l.length
  · repeat' first | (with_reducible first | exact SetAt.z | apply SetAt.s | apply s_end | exact Kept.nil) | refine qq (hk := ?_) | ((with_reducible first | apply Kept.cons | apply q_blky); rfl) | ((with_reducible apply Kept.skip); rfl) | (apply s_q; rfl; (first | ((with_reducible apply q_shr); rfl; rfl; (simp [IntKind.bits]; omega)))) | refine ww (hk := ?_) | (apply c_condP; rfl; exact bpx; all_goals intro hc) | ((first | apply s_gTP | apply s_gFP); rfl; exact bpx; all_goals intro hg) | (apply s_lalloc; rfl) | ((first | apply s_lbox); rfl; rfl; rfl) | (apply s_lstore; rfl; rfl; rfl; rfl; rfl) | (apply s_callB (hm := YC.m _ _); rfl; intro h3 o3 b3)
    refine s_stU rfl rfl (by have := he.bar; omega) ho (by omega) fun h2 s2 => ?_
    rw [show 0 + ((o.length : Int) - 1 - i).toNat = 4 * l.length - 1 - i by omega, show ((i : Int) / 4).toNat = i / 4 by omega, show (8 * ((i : Int) % 4)).toNat = 8 * (i % 4) by omega] at s2
    repeat' first | (with_reducible first | exact SetAt.z | apply SetAt.s | apply s_end | exact Kept.nil) | refine qq (hk := ?_) | ((with_reducible first | apply Kept.cons | apply q_blky); rfl) | ((with_reducible apply Kept.skip); rfl) | refine ww (hk := ?_) | (apply c_condP; rfl; exact bpx; all_goals intro hc) | ((first | apply s_gTP | apply s_gFP); rfl; exact bpx; all_goals intro hg) | (apply s_lalloc; rfl) | ((first | apply s_lbox); rfl; rfl; rfl) | (apply s_lstore; rfl; rfl; rfl; rfl; rfl) | (apply s_callB (hm := YC.m _ _); rfl; intro h3 o3 b3)
    refine q_seql (m := 4 * l.length - (i + 1)) (by omega) ⟨i + 1, _, rfl, by omega, s2.ext he (Nat.le_refl _), s2.at ho, by simpa using hlen, fun k hk => ?_, rfl⟩
    rw [List.getD_eq_getElem?_getD]
    by_cases hki : k = i
    · subst hki
      rw [List.getElem?_set_self (by omega)]
      rfl
    · rw [List.getElem?_set_ne (by omega), ← List.getD_eq_getElem?_getD]
      exact hv k (by omega)
  · repeat' first | (with_reducible first | exact SetAt.z | apply SetAt.s | apply s_end | exact Kept.nil) | refine qq (hk := ?_) | ((with_reducible first | apply Kept.cons | apply q_blky); rfl) | ((with_reducible apply Kept.skip); rfl) | refine ww (hk := ?_) | (apply c_condP; rfl; exact bpx; all_goals intro hc) | ((first | apply s_gTP | apply s_gFP); rfl; exact bpx; all_goals intro hg) | (apply s_lalloc; rfl) | ((first | apply s_lbox); rfl; rfl; rfl) | (apply s_lstore; rfl; rfl; rfl; rfl; rfl) | (apply s_callB (hm := YC.m _ _); rfl; intro h3 o3 b3) | ((with_reducible refine YCi (f := 97) ?_); refine k97 ?_)
    have hi' : i = 4 * l.length := by omega
    subst hi'
    have e1 : o.reverse = le4 l := by
      apply List.ext_getElem?
      intro k
      by_cases hk : k < 4 * l.length
      · have h1 := hv k hk
        rw [← le4_getD] at h1
        rw [List.getElem?_reverse (by omega), hlen, getD_some (by omega), h1, ← getD_some (by rw [le4_len]; exact hk)]
      · rw [List.getElem?_eq_none (by simp; omega), List.getElem?_eq_none (by rw [le4_len]; omega)]
    have e2 : bv (o.map byt) = (lv l).toNat := by
      have := bvl_le4 hb
      rw [← e1, List.map_reverse] at this
      rw [bv]
      omega
    rw [e2]
    exact hq _ he
end
end Am
end Go.Proofs.YtfhlblclcdhbiaaGreatDoor
