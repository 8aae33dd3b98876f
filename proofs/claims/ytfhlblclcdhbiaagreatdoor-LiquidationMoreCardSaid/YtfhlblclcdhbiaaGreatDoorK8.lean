/- Compare, Multiply. -/
import Derived.Test.YtfhlblclcdhbiaaGreatDoorK7
import Derived.Laws.Externs
import Derived.Lib.Bytealg
namespace Go.Proofs.YtfhlblclcdhbiaaGreatDoor
open Go
set_option linter.unusedVariables false
set_option linter.unusedSimpArgs false
namespace Am
section
variable {B0 : Nat} {Q : Value → AH → Prop} {h : AH}
theorem vrs_string {β : Bt} {a : ByteArray} {u : Value} (hv : VR β (.string a) u) : u = .string a := by
  cases hv with
  | w hw =>
    cases hw with
    | cell hc =>
      cases hc with
      | base hb => cases hb; rfl
/-- the runtime's comparison of strings: the model answers itself -/
theorem k156 {l m : List UInt8} (hq : Q (.int .i64 (Lib.compareBytes l m)) h) : YC Tryz.prog B0 156 [.string (bs l), .string (bs m)] Q h := by
  intro hb
  refine ⟨_, h, hq, Low.refl h, fun β w args' hr ha => .inr ?_⟩
  cases ha with
  | cons h1 t1 =>
    cases t1 with
    | cons h2 t2 =>
      cases t2
      have e1 := vrs_string h1
      have e2 := vrs_string h2
      subst e1
      subst e2
      refine ⟨.int .i64 (Lib.compareBytes l m), w, ?_, β, hr, Step.refl β h w, .base (.int _ _)⟩
      rw [run_callFunc_extern (fn := Tryz.f156) (e := Extern.BytealgCompare.compare) (by kernel_rfl) (by kernel_rfl) (by kernel_rfl) (by kernel_rfl) (by kernel_rfl)]
      rw [Lib.run_compareString]
      rfl
theorem k136 {l m : List UInt8} (hq : Q (.int .i64 (Lib.compareBytes l m)) h) : YC Tryz.prog B0 136 [.string (bs l), .string (bs m)] Q h := by
  refine enterF mix Tryz.func136 ok136 rfl (tm := [(0, _), (1, _)]) (bx := []) rfl rfl fun hp => ?_
  repeat' first | (with_reducible first | exact SetAt.z | apply SetAt.s | apply s_end | exact Kept.nil) | refine qq (hk := ?_) | ((with_reducible first | apply Kept.cons | apply q_blky); rfl) | ((with_reducible apply Kept.skip); rfl) | refine ww (hk := ?_) | (apply c_condP; rfl; exact bpx; all_goals intro hc) | ((first | apply s_gTP | apply s_gFP); rfl; exact bpx; all_goals intro hg) | (apply s_lalloc; rfl) | ((first | apply s_lbox); rfl; rfl; rfl) | (apply s_lstore; rfl; rfl; rfl; rfl; rfl) | (apply s_callB (hm := YC.m _ _); rfl; intro h3 o3 b3) | ((with_reducible refine YCi (f := 156) ?_); refine k156 ?_)
  exact hq
theorem k122 {l m : List UInt8} (hq : Q (.int .i64 (Lib.compareBytes l m)) h) : YC Tryz.prog B0 122 [.string (bs l), .string (bs m)] Q h := by
  refine enterF mix Tryz.func122 ok122 rfl (tm := [(0, _), (1, _)]) (bx := []) rfl rfl fun hp => ?_
  repeat' first | (with_reducible first | exact SetAt.z | apply SetAt.s | apply s_end | exact Kept.nil) | refine qq (hk := ?_) | ((with_reducible first | apply Kept.cons | apply q_blky); rfl) | ((with_reducible apply Kept.skip); rfl) | refine ww (hk := ?_) | (apply c_condP; rfl; exact bpx; all_goals intro hc) | ((first | apply s_gTP | apply s_gFP); rfl; exact bpx; all_goals intro hg) | (apply s_lalloc; rfl) | ((first | apply s_lbox); rfl; rfl; rfl) | (apply s_lstore; rfl; rfl; rfl; rfl; rfl) | (apply s_callB (hm := YC.m _ _); rfl; intro h3 o3 b3) | ((with_reducible refine YCi (f := 136) ?_); refine k136 ?_)
  exact hq
theorem cmp_bytes : ∀ {l m : List UInt8}, l.length = m.length → Lib.compareBytes l m = cmpv (bv l) (bv m)
  | [], [], _ => rfl
  | x :: l, y :: m, h => by
    have h' : l.length = m.length := by simpa using h
    have b1 := bv_lt l
    have b2 := bv_lt m
    rw [h'] at b1
    have ih := cmp_bytes h'
    have key : ∀ {x y : UInt8}, x < y → x.toNat * 256 ^ m.length + bv l < y.toNat * 256 ^ m.length + bv m := by
      intro x y hxy
      have h1 : x.toNat + 1 ≤ y.toNat := UInt8.lt_iff_toNat_lt.mp hxy
      have h2 : (x.toNat + 1) * 256 ^ m.length ≤ y.toNat * 256 ^ m.length := Nat.mul_le_mul_right _ h1
      rw [Nat.add_mul] at h2
      omega
    have key2 : ∀ {x y : UInt8}, x < y → x.toNat * 256 ^ m.length + bv m < y.toNat * 256 ^ m.length + bv l := by
      intro x y hxy
      have h1 : x.toNat + 1 ≤ y.toNat := UInt8.lt_iff_toNat_lt.mp hxy
      have h2 : (x.toNat + 1) * 256 ^ m.length ≤ y.toNat * 256 ^ m.length := Nat.mul_le_mul_right _ h1
      rw [Nat.add_mul] at h2
      omega
    rw [bv_cons, bv_cons, h', Lib.compareBytes, ih]
    unfold cmpv
    by_cases c1 : x < y
    · have := key c1
      rw [if_pos c1, if_pos this]
    · by_cases c2 : y < x
      · have := key2 c2
        rw [if_neg c1, if_pos c2, if_neg (by omega), if_pos this]
      · have e : x = y := UInt8.le_antisymm (UInt8.not_lt.mp c2) (UInt8.not_lt.mp c1)
        subst e
        rw [if_neg c1, if_neg c2]
        by_cases d1 : bv l < bv m
        · rw [if_pos d1, if_pos (by omega)]
        · by_cases d2 : bv m < bv l
          · rw [if_neg d1, if_pos d2, if_neg (by omega), if_pos (by omega)]
          · rw [if_neg d1, if_neg d2, if_neg (by omega), if_neg (by omega)]
theorem sb_shorter {a b : Nat} (h : (sb a).length < (sb b).length) : a < b := by
  have h1 := bv_lt (sb a)
  rw [bv_sb] at h1
  apply Classical.byContradiction
  intro hn
  have := sb_len (n := b) (k := (sb a).length) (by omega)
  omega
/-- natural.Compare -/
theorem k94 {l m : List UInt8} (hl : l.length ≤ 1099511627776) (hm : m.length ≤ 1099511627776) (hq : Q (.int .i64 (cmpv (bv l) (bv m))) h) : YC Tryz.prog B0 94 [.string (bs l), .string (bs m)] Q h := by
  refine enterF mix Tryz.func94 ok94 rfl (tm := [(0, _), (1, _)]) (bx := []) rfl rfl fun hp => ?_
  have l1 : (sb (bv l)).length ≤ l.length := sb_len (bv_lt l)
  have l2 : (sb (bv m)).length ≤ m.length := sb_len (bv_lt m)
  repeat' first | (with_reducible first | exact SetAt.z | apply SetAt.s | apply s_end | exact Kept.nil) | refine qq (hk := ?_) | ((with_reducible first | apply Kept.cons | apply q_blky); rfl) | ((with_reducible apply Kept.skip); rfl) | refine ww (hk := ?_) | (apply c_condP; rfl; exact bpx; all_goals intro hc) | ((first | apply s_gTP | apply s_gFP); rfl; exact bpx; all_goals intro hg) | (apply s_lalloc; rfl) | ((first | apply s_lbox); rfl; rfl; rfl) | (apply s_lstore; rfl; rfl; rfl; rfl; rfl) | (apply s_callB (hm := YC.m _ _); rfl; intro h3 o3 b3) | ((with_reducible refine YCi (f := 97) ?_); refine k97 ?_) | ((with_reducible refine YCi (f := 121) ?_); refine k121 ?_) | ((with_reducible refine YCi (f := 122) ?_); refine k122 ?_)
  · rcases Nat.lt_or_ge (sb (bv l)).length (sb (bv m)).length with h1 | h1
    · have := sb_shorter h1
      rw [cmpv, if_pos this] at hq
      rwa [if_pos (by omega)]
    · have := sb_shorter (show (sb (bv m)).length < (sb (bv l)).length by omega)
      rw [cmpv, if_neg (by omega), if_pos this] at hq
      rwa [if_neg (by omega), if_pos (by omega)]
  · have e : (sb (bv l)).length = (sb (bv m)).length := by omega
    have e2 := cmp_bytes e
    rw [bv_sb, bv_sb] at e2
    rw [e2]
    exact hq
/-- natural.Multiply -/
theorem k84 {l m : List UInt8} (hl : l.length ≤ 274877906944) (hm : m.length ≤ 274877906944) (hq : ∀ h', Ext h h' → Q (.string (bs (sb (bv l * bv m)))) h') : YC Tryz.prog B0 84 [.string (bs l), .string (bs m)] Q h := by
  refine enterF mix Tryz.func84 ok84 rfl (tm := [(0, _), (1, _)]) (bx := []) rfl rfl fun hp => ?_
  repeat' first | (with_reducible first | exact SetAt.z | apply SetAt.s | apply s_end | exact Kept.nil) | refine qq (hk := ?_) | ((with_reducible first | apply Kept.cons | apply q_blky); rfl) | ((with_reducible apply Kept.skip); rfl) | refine ww (hk := ?_) | (apply c_condP; rfl; exact bpx; all_goals intro hc) | ((first | apply s_gTP | apply s_gFP); rfl; exact bpx; all_goals intro hg) | (apply s_lalloc; rfl) | ((first | apply s_lbox); rfl; rfl; rfl) | (apply s_lstore; rfl; rfl; rfl; rfl; rfl) | (apply s_callB (hm := YC.m _ _); rfl; intro h3 o3 b3)
  refine k115 (by omega) fun v1 h1 e1 u1 => ?_
  repeat' first | (with_reducible first | exact SetAt.z | apply SetAt.s | apply s_end | exact Kept.nil) | refine qq (hk := ?_) | ((with_reducible first | apply Kept.cons | apply q_blky); rfl) | ((with_reducible apply Kept.skip); rfl) | refine ww (hk := ?_) | (apply c_condP; rfl; exact bpx; all_goals intro hc) | ((first | apply s_gTP | apply s_gFP); rfl; exact bpx; all_goals intro hg) | (apply s_lalloc; rfl) | ((first | apply s_lbox); rfl; rfl; rfl) | (apply s_lstore; rfl; rfl; rfl; rfl; rfl) | (apply s_callB (hm := YC.m _ _); rfl; intro h3 o3 b3)
  refine k115 (by omega) fun v2 h2 e2 u2 => ?_
  have u1' := u1.ext e2
  have L1 := li_bv_len l
  have L2 := li_bv_len m
  have vX := lv_li (bv l)
  have vY := lv_li (bv m)
  have iX := li_in (bv l)
  have iY := li_in (bv m)
  generalize li (bv l) = X at *
  generalize li (bv m) = Y at *
  repeat' first | (with_reducible first | exact SetAt.z | apply SetAt.s | apply s_end | exact Kept.nil) | refine qq (hk := ?_) | ((with_reducible first | apply Kept.cons | apply q_blky); rfl) | ((with_reducible apply Kept.skip); rfl) | refine ww (hk := ?_) | (apply c_condP; rfl; exact bpx; all_goals intro hc) | ((first | apply s_gTP | apply s_gFP); rfl; exact bpx; all_goals intro hg) | (apply s_lalloc; rfl) | ((first | apply s_lbox); rfl; rfl; rfl) | (apply s_lstore; rfl; rfl; rfl; rfl; rfl) | (apply s_callB (hm := YC.m _ _); rfl; intro h3 o3 b3)
  refine s_mk rfl rfl (by omega) fun h3 n3 => ?_
  rw [reps_U, show ((X.length : Int) + Y.length).toNat = X.length + Y.length by omega] at n3
  rw [show ((X.length : Int) + Y.length).toNat = X.length + Y.length by omega]
  have e3 := n3.ext
  have u1'' := u1'.ext e3
  have u2'' := u2.ext e3
  have hbar3 := ((e1.trans e2).trans e3).bar
  have hlen2 := (e1.trans e2).len
  obtain ⟨oz, hoz⟩ : ∃ oz, h2.ob.length = oz := ⟨_, rfl⟩
  have na := n3.at
  rw [hoz] at na ⊢
  repeat' first | (with_reducible first | exact SetAt.z | apply SetAt.s | apply s_end | exact Kept.nil) | refine qq (hk := ?_) | ((with_reducible first | apply Kept.cons | apply q_blky); rfl) | ((with_reducible apply Kept.skip); rfl) | refine ww (hk := ?_) | (apply c_condP; rfl; exact bpx; all_goals intro hc) | ((first | apply s_gTP | apply s_gFP); rfl; exact bpx; all_goals intro hg) | (apply s_lalloc; rfl) | ((first | apply s_lbox); rfl; rfl; rfl) | (apply s_lstore; rfl; rfl; rfl; rfl; rfl) | (apply s_callB (hm := YC.m _ _); rfl; intro h3 o3 b3)
  refine loopI (YC.m _ _) (fun n fr h' => ∃ (i : Nat) (o : List Int), n = X.length - i ∧ i ≤ X.length ∧ Ext h2 h' ∧ UA .u32 h'.ob oz o ∧ InB o ∧ o.length = X.length + Y.length ∧ lv o = lv (X.take i) * lv Y ∧
    fr = ⟨[(6, .v v2), (7, .v (.slice (some ⟨oz, 0, none⟩) (X.length + Y.length) (X.length + Y.length))), (24, .v v1), (25, .v (.int .i64 X.length)), (26, .v (.int .i64 i))], []⟩) X.length ⟨0, _, by omega, by omega, e3, na, InB.replicate _, by simp, by simp [lv, lv_replicate], rfl⟩ ?_
  rintro n fr h' ⟨i, o, rfl, hi, he, ho, hob, hlen, hv, rfl⟩
  have w1 := u1'.ext he
  have w2 := u2.ext he
  have wo := ho.all hlen.symm (Nat.le_refl _)
  have hbar' := ((e1.trans e2).trans he).bar
  by_cases hlt : i < X.length
  · have hxi := iX.getD i
    obtain ⟨xi, hxe⟩ : ∃ xi, X.getD i 0 = xi := ⟨_, rfl⟩
    rw [hxe] at hxi
    repeat' first | (with_reducible first | exact SetAt.z | apply SetAt.s | apply s_end | exact Kept.nil) | refine qq (hk := ?_) | ((with_reducible first | apply Kept.cons | apply q_blky); rfl) | ((with_reducible apply Kept.skip); rfl) | (apply s_q; rfl; (first | ((with_reducible apply q_ldE); rfl; assumption; omega; exact hxe))) | refine ww (hk := ?_) | (apply c_condP; rfl; exact bpx; all_goals intro hc) | ((first | apply s_gTP | apply s_gFP); rfl; exact bpx; all_goals intro hg) | (apply s_lalloc; rfl) | ((first | apply s_lbox); rfl; rfl; rfl) | (apply s_lstore; rfl; rfl; rfl; rfl; rfl) | (apply s_callB (hm := YC.m _ _); rfl; intro h3 o3 b3)
    refine loopI (YC.m _ _) (fun n fr h4 => ∃ (k : Nat) (p : List Int) (ca : Int), n = Y.length - k ∧ k ≤ Y.length ∧ Ext h2 h4 ∧ UA .u32 h4.ob oz p ∧ InB p ∧ p.length = X.length + Y.length ∧ 0 ≤ ca ∧ ca < 4294967296 ∧ p.drop (i + k) = o.drop (i + k) ∧
      lv p + B (i + k) * ca = lv o + B i * (xi * lv (Y.take k)) ∧
      fr = ⟨[(6, .v v2), (7, .v (.slice (some ⟨oz, 0, none⟩) (X.length + Y.length) (X.length + Y.length))), (8, .v (.int .i64 i)), (9, .v (.int .u32 xi)), (10, .v (.int .u64 ca)), (24, .v v1), (25, .v (.int .i64 X.length)), (26, .v (.int .i64 i)), (31, .v v2), (32, .v (.int .i64 Y.length)), (33, .v (.int .i64 k))], []⟩) Y.length
      ⟨0, o, 0, by omega, by omega, he, ho, hob, hlen, by omega, by omega, rfl, by simp [lv], rfl⟩ ?_
    rintro n fr h4 ⟨k, p, ca, rfl, hk, he4, hpo, hpb, hpl, ca0, ca1, hpd, hpv, rfl⟩
    have w2' := u2.ext he4
    have w1' := u1'.ext he4
    have wp := hpo.all hpl.symm (Nat.le_refl _)
    have hbar4 := ((e1.trans e2).trans he4).bar
    by_cases hkl : k < Y.length
    · have hyk := iY.getD k
      have hpk := hpb.getD (i + k)
      have hmul : 0 ≤ xi * Y.getD k 0 ∧ xi * Y.getD k 0 ≤ 18446744065119617025 := by
        refine ⟨Int.mul_nonneg (by omega) (by omega), ?_⟩
        have h1 : xi * Y.getD k 0 ≤ 4294967295 * Y.getD k 0 := Int.mul_le_mul_of_nonneg_right (by omega) (by omega)
        omega
      obtain ⟨pk, hpe⟩ : ∃ pk, p.getD (i + k) 0 = pk := ⟨_, rfl⟩
      have hpe' : p.getD ((i : Int) + k).toNat 0 = pk := by rw [show ((i : Int) + k).toNat = i + k by omega]; exact hpe
      rw [hpe] at hpk
      repeat' first | (with_reducible first | exact SetAt.z | apply SetAt.s | apply s_end | exact Kept.nil) | refine qq (hk := ?_) | ((with_reducible first | apply Kept.cons | apply q_blky); rfl) | ((with_reducible apply Kept.skip); rfl) | (apply s_q; rfl; (first | ((with_reducible apply q_ldE); rfl; assumption; omega; exact hpe'))) | refine ww (hk := ?_) | (apply c_condP; rfl; exact bpx; all_goals intro hc) | ((first | apply s_gTP | apply s_gFP); rfl; exact bpx; all_goals intro hg) | (apply s_lalloc; rfl) | ((first | apply s_lbox); rfl; rfl; rfl) | (apply s_lstore; rfl; rfl; rfl; rfl; rfl) | (apply s_callB (hm := YC.m _ _); rfl; intro h3 o3 b3)
      refine s_stW (i + k) ((xi * Y.getD k 0 + pk + ca) % 4294967296) rfl rfl (by omega) hpo (by omega) rfl (by omega) fun h5 s5 => ?_
      repeat' first | (with_reducible first | exact SetAt.z | apply SetAt.s | apply s_end | exact Kept.nil) | refine qq (hk := ?_) | ((with_reducible first | apply Kept.cons | apply q_blky); rfl) | ((with_reducible apply Kept.skip); rfl) | refine ww (hk := ?_) | (apply c_condP; rfl; exact bpx; all_goals intro hc) | ((first | apply s_gTP | apply s_gFP); rfl; exact bpx; all_goals intro hg) | (apply s_lalloc; rfl) | ((first | apply s_lbox); rfl; rfl; rfl) | (apply s_lstore; rfl; rfl; rfl; rfl; rfl) | (apply s_callB (hm := YC.m _ _); rfl; intro h3 o3 b3)
      have hdm := Int.emod_add_mul_ediv (xi * Y.getD k 0 + pk + ca) 4294967296
      refine q_seql (m := Y.length - (k + 1)) (by omega) ⟨k + 1, p.set (i + k) ((xi * Y.getD k 0 + pk + ca) % 4294967296), (xi * Y.getD k 0 + pk + ca) / 4294967296, rfl, by omega, s5.ext he4 (by omega), s5.at hpo, hpb.set _ (by omega) (by omega), by simpa using hpl, by omega, by omega, ?_, ?_, rfl⟩
      · exact drop_set_eq hpd _
      · rw [lv_set (by omega), hpe, lv_take_succ Y k hkl, ← Nat.add_assoc, B_succ]
        rw [B_add] at hpv ⊢
        generalize (xi * Y.getD k 0 + pk + ca) / 4294967296 = c1, (xi * Y.getD k 0 + pk + ca) % 4294967296 = c2 at hdm ⊢
        generalize Y.getD k 0 = yk, lv (Y.take k) = a1, B i = b1, B k = b2, lv p = a2, lv o = a3 at *
        have : c2 = xi * yk + pk + ca - 4294967296 * c1 := by omega
        subst this
        grind
    · have hkn : k = Y.length := by omega
      subst hkn
      rw [List.take_length] at hpv
      have hon : o.getD (i + Y.length) 0 = 0 := by
        have h1 := getD_lt hob (j := i + Y.length) (c := 1) (by omega) (by
          rw [hv, B_add, Int.mul_one]
          have h2 := lv_lt (iX.take i)
          rw [List.length_take, Nat.min_eq_left (by omega)] at h2
          have h3 := lv_lt iY
          have h4 := lv_nonneg iY
          have h5 := lv_nonneg (iX.take i)
          have h6 : lv (X.take i) * lv Y ≤ lv (X.take i) * B Y.length := Int.mul_le_mul_of_nonneg_left (by omega) h5
          have h7 : lv (X.take i) * B Y.length < B i * B Y.length := Int.mul_lt_mul_of_pos_right h2 (B_pos _)
          omega)
        have := (hob.getD (i + Y.length)).1
        omega
      have hpn : p.getD (i + Y.length) 0 = 0 := by rw [getD_drop_eq hpd]; exact hon
      repeat' first | (with_reducible first | exact SetAt.z | apply SetAt.s | apply s_end | exact Kept.nil) | refine qq (hk := ?_) | ((with_reducible first | apply Kept.cons | apply q_blky); rfl) | ((with_reducible apply Kept.skip); rfl) | refine ww (hk := ?_) | (apply c_condP; rfl; exact bpx; all_goals intro hc) | ((first | apply s_gTP | apply s_gFP); rfl; exact bpx; all_goals intro hg) | (apply s_lalloc; rfl) | ((first | apply s_lbox); rfl; rfl; rfl) | (apply s_lstore; rfl; rfl; rfl; rfl; rfl) | (apply s_callB (hm := YC.m _ _); rfl; intro h3 o3 b3)
      refine s_stW (i + Y.length) ca rfl rfl (by omega) hpo (by omega) rfl (by omega) fun h5 s5 => ?_
      repeat' first | (with_reducible first | exact SetAt.z | apply SetAt.s | apply s_end | exact Kept.nil) | refine qq (hk := ?_) | ((with_reducible first | apply Kept.cons | apply q_blky); rfl) | ((with_reducible apply Kept.skip); rfl) | refine ww (hk := ?_) | (apply c_condP; rfl; exact bpx; all_goals intro hc) | ((first | apply s_gTP | apply s_gFP); rfl; exact bpx; all_goals intro hg) | (apply s_lalloc; rfl) | ((first | apply s_lbox); rfl; rfl; rfl) | (apply s_lstore; rfl; rfl; rfl; rfl; rfl) | (apply s_callB (hm := YC.m _ _); rfl; intro h3 o3 b3)
      refine q_seql (m := X.length - (i + 1)) (by omega) ⟨i + 1, p.set (i + Y.length) ca, rfl, by omega, s5.ext he4 (by omega), s5.at hpo, hpb.set _ ca0 ca1, by simpa using hpl, ?_, rfl⟩
      rw [lv_set (by omega), hpn, lv_take_succ X i hlt, hxe]
      rw [Int.sub_zero, hpv, hv]
      grind
  · have : i = X.length := by omega
    subst this
    repeat' first | (with_reducible first | exact SetAt.z | apply SetAt.s | apply s_end | exact Kept.nil) | refine qq (hk := ?_) | ((with_reducible first | apply Kept.cons | apply q_blky); rfl) | ((with_reducible apply Kept.skip); rfl) | refine ww (hk := ?_) | (apply c_condP; rfl; exact bpx; all_goals intro hc) | ((first | apply s_gTP | apply s_gFP); rfl; exact bpx; all_goals intro hg) | (apply s_lalloc; rfl) | ((first | apply s_lbox); rfl; rfl; rfl) | (apply s_lstore; rfl; rfl; rfl; rfl; rfl) | (apply s_callB (hm := YC.m _ _); rfl; intro h3 o3 b3)
    refine k116 hob (by omega) wo fun h5 e5 => ?_
    repeat' first | (with_reducible first | exact SetAt.z | apply SetAt.s | apply s_end | exact Kept.nil) | refine qq (hk := ?_) | ((with_reducible first | apply Kept.cons | apply q_blky); rfl) | ((with_reducible apply Kept.skip); rfl) | refine ww (hk := ?_) | (apply c_condP; rfl; exact bpx; all_goals intro hc) | ((first | apply s_gTP | apply s_gFP); rfl; exact bpx; all_goals intro hg) | (apply s_lalloc; rfl) | ((first | apply s_lbox); rfl; rfl; rfl) | (apply s_lstore; rfl; rfl; rfl; rfl; rfl) | (apply s_callB (hm := YC.m _ _); rfl; intro h3 o3 b3)
    rw [List.take_length, vX, vY, ← Int.natCast_mul] at hv
    rw [hv, Int.toNat_natCast]
    exact hq _ (((e1.trans e2).trans he).trans e5)
end
end Am
end Go.Proofs.YtfhlblclcdhbiaaGreatDoor
