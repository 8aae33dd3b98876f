/- The reference's natural numbers: text, sums, products. -/
import Derived.Test.YtfhlblclcdhbiaaGreatDoorK9
namespace Go.Proofs.YtfhlblclcdhbiaaGreatDoor
open Go
set_option linter.unusedVariables false
set_option linter.unusedSimpArgs false
namespace Am
section
variable {B0 : Nat} {Q : Value → AH → Prop} {h : AH}
theorem q_shr24 {x y : X} {fr : Fr} {a : Int} {k' : IntKind} (hx : vl fr x = some (.int .u32 a)) (hy : vl fr y = some (.int k' 24)) : qO (.bin .shr x y) fr h = some (.v (.int .u32 (a / 16777216))) :=
  q_shr hx hy (by simp [IntKind.bits])
theorem k107 {l : List Int} {v : Value} (hb : InB l) (hl0 : l.length ≤ 274877906944) (hu : US .u32 h.ob l v) (hq : ∀ h', Ext h h' → Q (.string (bs (sb (lv l).toNat))) h') : YC Tryz.prog B0 107 [v] Q h := by
  refine enterF mix Tryz.func107 ok107 rfl (tm := [(0, _)]) (bx := []) rfl rfl fun hp => ?_
  repeat' first | (with_reducible first | exact SetAt.z | apply SetAt.s | apply s_end | exact Kept.nil) | refine qq (hk := ?_) | ((with_reducible first | apply Kept.cons | apply q_blky); rfl) | ((with_reducible apply Kept.skip); rfl) | refine ww (hk := ?_) | (apply c_condP; rfl; exact bpx; all_goals intro hc) | ((first | apply s_gTP | apply s_gFP); rfl; exact bpx; all_goals intro hg) | (apply s_lalloc; rfl) | ((first | apply s_lbox); rfl; rfl; rfl) | (apply s_lstore; rfl; rfl; rfl; rfl; rfl) | (apply s_callB (hm := YC.m _ _); rfl; intro h3 o3 b3)
  refine k127 hb (by omega) hu fun v1 hu1 => ?_
  have hl : (li (lv l).toNat).length ≤ 274877906944 := by
    refine Nat.le_trans (li_len (k := l.length) ?_) hl0
    have := lv_lt hb
    have := lv_nonneg hb
    omega
  have hbi := li_in (lv l).toNat
  have hlv := lv_li (lv l).toNat
  generalize li (lv l).toNat = L at *
  repeat' first | (with_reducible first | exact SetAt.z | apply SetAt.s | apply s_end | exact Kept.nil) | refine qq (hk := ?_) | ((with_reducible first | apply Kept.cons | apply q_blky); rfl) | ((with_reducible apply Kept.skip); rfl) | refine ww (hk := ?_) | (apply c_condP; rfl; exact bpx; all_goals intro hc) | ((first | apply s_gTP | apply s_gFP); rfl; exact bpx; all_goals intro hg) | (apply s_lalloc; rfl) | ((first | apply s_lbox); rfl; rfl; rfl) | (apply s_lstore; rfl; rfl; rfl; rfl; rfl) | (apply s_callB (hm := YC.m _ _); rfl; intro h3 o3 b3)
  refine s_mk2 rfl rfl (by omega) fun h1 n1 => ?_
  rw [reps_U] at n1
  have hm : (4 * (L.length : Int)).toNat = 4 * L.length := by omega
  rw [hm] at n1 ⊢
  have hu2 := hu1.ext n1.ext
  repeat' first | (with_reducible first | exact SetAt.z | apply SetAt.s | apply s_end | exact Kept.nil) | refine qq (hk := ?_) | ((with_reducible first | apply Kept.cons | apply q_blky); rfl) | ((with_reducible apply Kept.skip); rfl) | refine ww (hk := ?_) | (apply c_condP; rfl; exact bpx; all_goals intro hc) | ((first | apply s_gTP | apply s_gFP); rfl; exact bpx; all_goals intro hg) | (apply s_lalloc; rfl) | ((first | apply s_lbox); rfl; rfl; rfl) | (apply s_lstore; rfl; rfl; rfl; rfl; rfl) | (apply s_callB (hm := YC.m _ _); rfl; intro h3 o3 b3)
  refine loopI (YC.m _ _) (fun n fr h' => ∃ (A R : List Int), n ≤ L.length ∧ Ext h h' ∧ UA .u8 h'.ob h.ob.length (A ++ R) ∧ A.length = 4 * (L.length - n) ∧ R.length = 4 * n ∧ A.reverse = le4 (L.drop n) ∧
    fr = ⟨[(0, .v v1), (3, .v (.slice (some ⟨h.ob.length, 0, none⟩) (4 * (L.length - n)) (4 * L.length))), (4, .v (.int .i64 ((n : Int) - 1)))], []⟩) L.length ⟨[], List.replicate (4 * L.length) 0, Nat.le_refl _, n1.ext, n1.at, by simp, by simp, by simp [le4], by simp⟩ ?_
  rintro n fr h' ⟨A, R, hn, he, ho, hA, hR, hrev, rfl⟩
  have hu3 := hu1.ext he
  have hbar := he.bar
  by_cases h0 : 0 < n
  · have ex : ((n : Int) - 1).toNat = n - 1 := by omega
    obtain ⟨x, hx⟩ : ∃ x, L.getD (n - 1) 0 = x := ⟨_, rfl⟩
    have hx' : L.getD ((n : Int) - 1).toNat 0 = x := by rw [ex]; exact hx
    repeat' first | (with_reducible first | exact SetAt.z | apply SetAt.s | apply s_end | exact Kept.nil) | refine qq (hk := ?_) | ((with_reducible first | apply Kept.cons | apply q_blky); rfl) | ((with_reducible apply Kept.skip); rfl) | (apply s_q; rfl; (first | ((with_reducible apply q_ldE); rfl; assumption; omega; exact hx') | ((with_reducible apply q_shr24); rfl; rfl) | ((with_reducible apply q_shr16); rfl; rfl) | ((with_reducible apply q_shr8); rfl; rfl))) | refine ww (hk := ?_) | (apply c_condP; rfl; exact bpx; all_goals intro hc) | ((first | apply s_gTP | apply s_gFP); rfl; exact bpx; all_goals intro hg) | (apply s_lalloc; rfl) | ((first | apply s_lbox); rfl; rfl; rfl) | (apply s_lstore; rfl; rfl; rfl; rfl; rfl) | (apply s_callB (hm := YC.m _ _); rfl; intro h3 o3 b3)
    refine s_bsl (ps := [(0, [.int .u8 (x / 16777216 % 256)]), (1, [.int .u8 (x / 65536 % 256)]), (2, [.int .u8 (x / 256 % 256)]), (3, [.int .u8 (x % 256)])]) (cs := [.int .u8 (x / 16777216 % 256), .int .u8 (x / 65536 % 256), .int .u8 (x / 256 % 256), .int .u8 (x % 256)]) rfl rfl fun h2 n2 => ?_
    have e2 := n2.ext
    have ho2 : UA .u8 h2.ob h.ob.length (A ++ R) := e2.row ho
    have hnew : UA .u8 h2.ob h'.ob.length [x / 16777216 % 256, x / 65536 % 256, x / 256 % 256, x % 256] := n2.at
    repeat' first | (with_reducible first | exact SetAt.z | apply SetAt.s | apply s_end | exact Kept.nil) | refine qq (hk := ?_) | ((with_reducible first | apply Kept.cons | apply q_blky); rfl) | ((with_reducible apply Kept.skip); rfl) | refine ww (hk := ?_) | (apply c_condP; rfl; exact bpx; all_goals intro hc) | ((first | apply s_gTP | apply s_gFP); rfl; exact bpx; all_goals intro hg) | (apply s_lalloc; rfl) | ((first | apply s_lbox); rfl; rfl; rfl) | (apply s_lstore; rfl; rfl; rfl; rfl; rfl) | (apply s_callB (hm := YC.m _ _); rfl; intro h3 o3 b3)
    refine s_appI rfl rfl hnew rfl (by omega) (by omega) (by rw [e2.bar]; omega) ho2 hA (by omega) fun h3 s3 => ?_
    repeat' first | (with_reducible first | exact SetAt.z | apply SetAt.s | apply s_end | exact Kept.nil) | refine qq (hk := ?_) | ((with_reducible first | apply Kept.cons | apply q_blky); rfl) | ((with_reducible apply Kept.skip); rfl) | refine ww (hk := ?_) | (apply c_condP; rfl; exact bpx; all_goals intro hc) | ((first | apply s_gTP | apply s_gFP); rfl; exact bpx; all_goals intro hg) | (apply s_lalloc; rfl) | ((first | apply s_lbox); rfl; rfl; rfl) | (apply s_lstore; rfl; rfl; rfl; rfl; rfl) | (apply s_callB (hm := YC.m _ _); rfl; intro h3 o3 b3)
    refine q_seql (m := n - 1) (by omega) ⟨A ++ [x / 16777216 % 256, x / 65536 % 256, x / 256 % 256, x % 256], R.drop 4, by omega, s3.ext (he.trans e2) (Nat.le_refl _), s3.at ho2, by simp; omega, by simp; omega, ?_, ?_⟩
    · have hcons : L.drop (n - 1) = x :: L.drop n := by
        rw [List.drop_eq_getElem_cons (by omega), show n - 1 + 1 = n by omega]
        congr 1
        rw [← hx, List.getD_eq_getElem?_getD, List.getElem?_eq_getElem (by omega)]; rfl
      rw [hcons, le4, ← hrev]
      simp
    · rw [show 4 * (L.length - n) + 4 = 4 * (L.length - (n - 1)) by omega, Int.ofNat_sub (by omega)]; rfl
  · have hn0 : n = 0 := by omega
    subst hn0
    have uB := UA.us (k := .u8) ho (m := 4 * (L.length - 0)) (c := 4 * L.length) (by simp; omega) (by omega)
    rw [← hA, List.take_append_of_le_length (Nat.le_refl _), List.take_length, hA] at uB
    repeat' first | (with_reducible first | exact SetAt.z | apply SetAt.s | apply s_end | exact Kept.nil) | refine qq (hk := ?_) | ((with_reducible first | apply Kept.cons | apply q_blky); rfl) | ((with_reducible apply Kept.skip); rfl) | refine ww (hk := ?_) | (apply c_condP; rfl; exact bpx; all_goals intro hc) | ((first | apply s_gTP | apply s_gFP); rfl; exact bpx; all_goals intro hg) | (apply s_lalloc; rfl) | ((first | apply s_lbox); rfl; rfl; rfl) | (apply s_lstore; rfl; rfl; rfl; rfl; rfl) | (apply s_callB (hm := YC.m _ _); rfl; intro h3 o3 b3)
    refine k101 (by simp; omega) ?_
    repeat' first | (with_reducible first | exact SetAt.z | apply SetAt.s | apply s_end | exact Kept.nil) | refine qq (hk := ?_) | ((with_reducible first | apply Kept.cons | apply q_blky); rfl) | ((with_reducible apply Kept.skip); rfl) | refine ww (hk := ?_) | (apply c_condP; rfl; exact bpx; all_goals intro hc) | ((first | apply s_gTP | apply s_gFP); rfl; exact bpx; all_goals intro hg) | (apply s_lalloc; rfl) | ((first | apply s_lbox); rfl; rfl; rfl) | (apply s_lstore; rfl; rfl; rfl; rfl; rfl) | (apply s_callB (hm := YC.m _ _); rfl; intro h3 o3 b3)
    rw [List.drop_zero] at hrev
    have e2 : bv (A.map byt) = (lv l).toNat := by
      have := bvl_le4 hbi
      rw [← hrev, List.map_reverse] at this
      rw [bv]
      omega
    rw [e2]
    exact hq _ he
/-- the reference's FromUint -/
theorem k73 {u : Nat} (hu : u < 18446744073709551616) (hq : ∀ h', Ext h h' → Q (.string (bs (sb u))) h') : YC Tryz.prog B0 73 [.int .u64 u] Q h := by
  refine enterF mix Tryz.func73 ok73 rfl (tm := [(0, _)]) (bx := []) rfl rfl fun hp => ?_
  repeat' first | (with_reducible first | exact SetAt.z | apply SetAt.s | apply s_end | exact Kept.nil) | refine qq (hk := ?_) | ((with_reducible first | apply Kept.cons | apply q_blky); rfl) | ((with_reducible apply Kept.skip); rfl) | refine ww (hk := ?_) | (apply c_condP; rfl; exact bpx; all_goals intro hc) | ((first | apply s_gTP | apply s_gFP); rfl; exact bpx; all_goals intro hg) | (apply s_lalloc; rfl) | ((first | apply s_lbox); rfl; rfl; rfl) | (apply s_lstore; rfl; rfl; rfl; rfl; rfl) | (apply s_callB (hm := YC.m _ _); rfl; intro h3 o3 b3)
  refine s_bsl (ps := [(0, [.int .u32 ((u : Int) % 4294967296)]), (1, [.int .u32 ((u : Int) / 4294967296)])]) (cs := [.int .u32 ((u : Int) % 4294967296), .int .u32 ((u : Int) / 4294967296)]) rfl rfl fun h1 n1 => ?_
  have u1 : US .u32 h1.ob [(u : Int) % 4294967296, (u : Int) / 4294967296] (.slice (some ⟨h.ob.length, 0, none⟩) 2 2) := UA.all (k := .u32) n1.at rfl (Nat.le_refl _)
  repeat' first | (with_reducible first | exact SetAt.z | apply SetAt.s | apply s_end | exact Kept.nil) | refine qq (hk := ?_) | ((with_reducible first | apply Kept.cons | apply q_blky); rfl) | ((with_reducible apply Kept.skip); rfl) | refine ww (hk := ?_) | (apply c_condP; rfl; exact bpx; all_goals intro hc) | ((first | apply s_gTP | apply s_gFP); rfl; exact bpx; all_goals intro hg) | (apply s_lalloc; rfl) | ((first | apply s_lbox); rfl; rfl; rfl) | (apply s_lstore; rfl; rfl; rfl; rfl; rfl) | (apply s_callB (hm := YC.m _ _); rfl; intro h3 o3 b3)
  refine k107 (InB.cons (by omega) (by omega) (InB.cons (by omega) (by omega) InB.nil)) (by simp) u1 fun h2 e2 => ?_
  repeat' first | (with_reducible first | exact SetAt.z | apply SetAt.s | apply s_end | exact Kept.nil) | refine qq (hk := ?_) | ((with_reducible first | apply Kept.cons | apply q_blky); rfl) | ((with_reducible apply Kept.skip); rfl) | refine ww (hk := ?_) | (apply c_condP; rfl; exact bpx; all_goals intro hc) | ((first | apply s_gTP | apply s_gFP); rfl; exact bpx; all_goals intro hg) | (apply s_lalloc; rfl) | ((first | apply s_lbox); rfl; rfl; rfl) | (apply s_lstore; rfl; rfl; rfl; rfl; rfl) | (apply s_callB (hm := YC.m _ _); rfl; intro h3 o3 b3)
  have : (lv [(u : Int) % 4294967296, (u : Int) / 4294967296]).toNat = u := by simp only [lv]; omega
  rw [this]
  exact hq _ (n1.ext.trans e2)
/-- times -/
theorem k104 {a b : Nat} {v1 v2 : Value} (L1 : (li a).length ≤ 274877906944) (L2 : (li b).length ≤ 274877906944) (u1 : US .u32 h.ob (li a) v1) (u2 : US .u32 h.ob (li b) v2) (hq : ∀ v' h', Ext h h' → US .u32 h'.ob (li (a * b)) v' → Q v' h') : YC Tryz.prog B0 104 [v1, v2] Q h := by
  refine enterF mix Tryz.func104 ok104 rfl (tm := [(0, _), (1, _)]) (bx := []) rfl rfl fun hp => ?_
  have vX := lv_li a
  have vY := lv_li b
  have iX := li_in a
  have iY := li_in b
  generalize li a = X at *
  generalize li b = Y at *
  repeat' first | (with_reducible first | exact SetAt.z | apply SetAt.s | apply s_end | exact Kept.nil) | refine qq (hk := ?_) | ((with_reducible first | apply Kept.cons | apply q_blky); rfl) | ((with_reducible apply Kept.skip); rfl) | refine ww (hk := ?_) | (apply c_condP; rfl; exact bpx; all_goals intro hc) | ((first | apply s_gTP | apply s_gFP); rfl; exact bpx; all_goals intro hg) | (apply s_lalloc; rfl) | ((first | apply s_lbox); rfl; rfl; rfl) | (apply s_lstore; rfl; rfl; rfl; rfl; rfl) | (apply s_callB (hm := YC.m _ _); rfl; intro h3 o3 b3)
  refine s_mk rfl rfl (by omega) fun h3 n3 => ?_
  rw [reps_U, show ((X.length : Int) + Y.length).toNat = X.length + Y.length by omega] at n3
  rw [show ((X.length : Int) + Y.length).toNat = X.length + Y.length by omega]
  have e3 := n3.ext
  have u1'' := u1.ext e3
  have u2'' := u2.ext e3
  obtain ⟨oz, hoz⟩ : ∃ oz, h.ob.length = oz := ⟨_, rfl⟩
  have na := n3.at
  rw [hoz] at na ⊢
  repeat' first | (with_reducible first | exact SetAt.z | apply SetAt.s | apply s_end | exact Kept.nil) | refine qq (hk := ?_) | ((with_reducible first | apply Kept.cons | apply q_blky); rfl) | ((with_reducible apply Kept.skip); rfl) | refine ww (hk := ?_) | (apply c_condP; rfl; exact bpx; all_goals intro hc) | ((first | apply s_gTP | apply s_gFP); rfl; exact bpx; all_goals intro hg) | (apply s_lalloc; rfl) | ((first | apply s_lbox); rfl; rfl; rfl) | (apply s_lstore; rfl; rfl; rfl; rfl; rfl) | (apply s_callB (hm := YC.m _ _); rfl; intro h3 o3 b3)
  refine loopI (YC.m _ _) (fun n fr h' => ∃ (i : Nat) (o : List Int), n = X.length - i ∧ i ≤ X.length ∧ Ext h h' ∧ UA .u32 h'.ob oz o ∧ InB o ∧ o.length = X.length + Y.length ∧ lv o = lv (X.take i) * lv Y ∧
    fr = ⟨[(0, .v v1), (1, .v v2), (5, .v (.slice (some ⟨oz, 0, none⟩) (X.length + Y.length) (X.length + Y.length))), (6, .v (.int .i64 i))], []⟩) X.length ⟨0, _, by omega, by omega, e3, na, InB.replicate _, by simp, by simp [lv, lv_replicate], rfl⟩ ?_
  rintro n fr h' ⟨i, o, rfl, hi, he, ho, hob, hlen, hv, rfl⟩
  have w1 := u1.ext he
  have w2 := u2.ext he
  have wo := ho.all hlen.symm (Nat.le_refl _)
  have hbar' := he.bar
  by_cases hlt : i < X.length
  · have hxi := iX.getD i
    obtain ⟨xi, hxe⟩ : ∃ xi, X.getD i 0 = xi := ⟨_, rfl⟩
    rw [hxe] at hxi
    repeat' first | (with_reducible first | exact SetAt.z | apply SetAt.s | apply s_end | exact Kept.nil) | refine qq (hk := ?_) | ((with_reducible first | apply Kept.cons | apply q_blky); rfl) | ((with_reducible apply Kept.skip); rfl) | refine ww (hk := ?_) | (apply c_condP; rfl; exact bpx; all_goals intro hc) | ((first | apply s_gTP | apply s_gFP); rfl; exact bpx; all_goals intro hg) | (apply s_lalloc; rfl) | ((first | apply s_lbox); rfl; rfl; rfl) | (apply s_lstore; rfl; rfl; rfl; rfl; rfl) | (apply s_callB (hm := YC.m _ _); rfl; intro h3 o3 b3)
    refine loopI (YC.m _ _) (fun n fr h4 => ∃ (k : Nat) (p : List Int) (ca : Int), n = Y.length - k ∧ k ≤ Y.length ∧ Ext h h4 ∧ UA .u32 h4.ob oz p ∧ InB p ∧ p.length = X.length + Y.length ∧ 0 ≤ ca ∧ ca < 4294967296 ∧ p.drop (i + k) = o.drop (i + k) ∧
      lv p + B (i + k) * ca = lv o + B i * (xi * lv (Y.take k)) ∧
      fr = ⟨[(0, .v v1), (1, .v v2), (5, .v (.slice (some ⟨oz, 0, none⟩) (X.length + Y.length) (X.length + Y.length))), (6, .v (.int .i64 i)), (7, .v (.int .u64 ca)), (8, .v (.int .i64 k))], []⟩) Y.length
      ⟨0, o, 0, by omega, by omega, he, ho, hob, hlen, by omega, by omega, rfl, by simp [lv], rfl⟩ ?_
    rintro n fr h4 ⟨k, p, ca, rfl, hk, he4, hpo, hpb, hpl, ca0, ca1, hpd, hpv, rfl⟩
    have w2' := u2.ext he4
    have w1' := u1.ext he4
    have wp := hpo.all hpl.symm (Nat.le_refl _)
    have hbar4 := he4.bar
    by_cases hkl : k < Y.length
    · have hyk := iY.getD k
      have hpk := hpb.getD (i + k)
      have hmul : 0 ≤ xi * Y.getD k 0 ∧ xi * Y.getD k 0 ≤ 18446744065119617025 := by
        refine ⟨Int.mul_nonneg (by omega) (by omega), ?_⟩
        have h1 : xi * Y.getD k 0 ≤ 4294967295 * Y.getD k 0 := Int.mul_le_mul_of_nonneg_right (by omega) (by omega)
        omega
      obtain ⟨pk, hpe⟩ : ∃ pk, p.getD (i + k) 0 = pk := ⟨_, rfl⟩
      have hpe' : p.getD ((i : Int) + k).toNat 0 = pk := by rw [show ((i : Int) + k).toNat = i + k by omega]; exact hpe
      rw [hpe] at hpk
      repeat' first | (with_reducible first | exact SetAt.z | apply SetAt.s | apply s_end | exact Kept.nil) | refine qq (hk := ?_) | ((with_reducible first | apply Kept.cons | apply q_blky); rfl) | ((with_reducible apply Kept.skip); rfl) | (apply s_q; rfl; (first | ((with_reducible apply q_ldE); rfl; assumption; omega; exact hpe') | ((with_reducible apply q_ldE); rfl; assumption; omega; exact hxe))) | refine ww (hk := ?_) | (apply c_condP; rfl; exact bpx; all_goals intro hc) | ((first | apply s_gTP | apply s_gFP); rfl; exact bpx; all_goals intro hg) | (apply s_lalloc; rfl) | ((first | apply s_lbox); rfl; rfl; rfl) | (apply s_lstore; rfl; rfl; rfl; rfl; rfl) | (apply s_callB (hm := YC.m _ _); rfl; intro h3 o3 b3)
      refine s_stW (i + k) ((ca + xi * Y.getD k 0 + pk) % 4294967296) rfl rfl (by omega) hpo (by omega) rfl (by omega) fun h5 s5 => ?_
      repeat' first | (with_reducible first | exact SetAt.z | apply SetAt.s | apply s_end | exact Kept.nil) | refine qq (hk := ?_) | ((with_reducible first | apply Kept.cons | apply q_blky); rfl) | ((with_reducible apply Kept.skip); rfl) | refine ww (hk := ?_) | (apply c_condP; rfl; exact bpx; all_goals intro hc) | ((first | apply s_gTP | apply s_gFP); rfl; exact bpx; all_goals intro hg) | (apply s_lalloc; rfl) | ((first | apply s_lbox); rfl; rfl; rfl) | (apply s_lstore; rfl; rfl; rfl; rfl; rfl) | (apply s_callB (hm := YC.m _ _); rfl; intro h3 o3 b3)
      have hdm := Int.emod_add_mul_ediv (ca + xi * Y.getD k 0 + pk) 4294967296
      refine q_seql (m := Y.length - (k + 1)) (by omega) ⟨k + 1, p.set (i + k) ((ca + xi * Y.getD k 0 + pk) % 4294967296), (ca + xi * Y.getD k 0 + pk) / 4294967296, rfl, by omega, s5.ext he4 (by omega), s5.at hpo, hpb.set _ (by omega) (by omega), by simpa using hpl, by omega, by omega, ?_, ?_, rfl⟩
      · exact drop_set_eq hpd _
      · rw [lv_set (by omega), hpe, lv_take_succ Y k hkl, ← Nat.add_assoc, B_succ]
        rw [B_add] at hpv ⊢
        generalize (ca + xi * Y.getD k 0 + pk) / 4294967296 = c1, (ca + xi * Y.getD k 0 + pk) % 4294967296 = c2 at hdm ⊢
        generalize Y.getD k 0 = yk, lv (Y.take k) = a1, B i = b1, B k = b2, lv p = a2, lv o = a3 at *
        have : c2 = ca + xi * yk + pk - 4294967296 * c1 := by omega
        subst this
        grind
    · have hkn : k = Y.length := by omega
      subst hkn
      rw [List.take_length] at hpv
      have hon : o.getD (i + Y.length) 0 = 0 := by
        have h1 := getD_lt hob (j := i + Y.length) (c := 1) (by omega) (by
          rw [hv, B_add, Int.mul_one]
          have h2 := lv_lt (iX.take i)
          rw [List.length_take, Nat.min_eq_left (by omega)] at h2
          have h3 := lv_lt iY
          have h4 := lv_nonneg iY
          have h5 := lv_nonneg (iX.take i)
          have h6 : lv (X.take i) * lv Y ≤ lv (X.take i) * B Y.length := Int.mul_le_mul_of_nonneg_left (by omega) h5
          have h7 : lv (X.take i) * B Y.length < B i * B Y.length := Int.mul_lt_mul_of_pos_right h2 (B_pos _)
          omega)
        have := (hob.getD (i + Y.length)).1
        omega
      have hpn : p.getD (i + Y.length) 0 = 0 := by rw [getD_drop_eq hpd]; exact hon
      repeat' first | (with_reducible first | exact SetAt.z | apply SetAt.s | apply s_end | exact Kept.nil) | refine qq (hk := ?_) | ((with_reducible first | apply Kept.cons | apply q_blky); rfl) | ((with_reducible apply Kept.skip); rfl) | refine ww (hk := ?_) | (apply c_condP; rfl; exact bpx; all_goals intro hc) | ((first | apply s_gTP | apply s_gFP); rfl; exact bpx; all_goals intro hg) | (apply s_lalloc; rfl) | ((first | apply s_lbox); rfl; rfl; rfl) | (apply s_lstore; rfl; rfl; rfl; rfl; rfl) | (apply s_callB (hm := YC.m _ _); rfl; intro h3 o3 b3)
      refine s_stW (i + Y.length) ca rfl rfl (by omega) hpo (by omega) rfl (by omega) fun h5 s5 => ?_
      repeat' first | (with_reducible first | exact SetAt.z | apply SetAt.s | apply s_end | exact Kept.nil) | refine qq (hk := ?_) | ((with_reducible first | apply Kept.cons | apply q_blky); rfl) | ((with_reducible apply Kept.skip); rfl) | refine ww (hk := ?_) | (apply c_condP; rfl; exact bpx; all_goals intro hc) | ((first | apply s_gTP | apply s_gFP); rfl; exact bpx; all_goals intro hg) | (apply s_lalloc; rfl) | ((first | apply s_lbox); rfl; rfl; rfl) | (apply s_lstore; rfl; rfl; rfl; rfl; rfl) | (apply s_callB (hm := YC.m _ _); rfl; intro h3 o3 b3)
      refine q_seql (m := X.length - (i + 1)) (by omega) ⟨i + 1, p.set (i + Y.length) ca, rfl, by omega, s5.ext he4 (by omega), s5.at hpo, hpb.set _ ca0 ca1, by simpa using hpl, ?_, rfl⟩
      rw [lv_set (by omega), hpn, lv_take_succ X i hlt, hxe]
      rw [Int.sub_zero, hpv, hv]
      grind
  · have : i = X.length := by omega
    subst this
    repeat' first | (with_reducible first | exact SetAt.z | apply SetAt.s | apply s_end | exact Kept.nil) | refine qq (hk := ?_) | ((with_reducible first | apply Kept.cons | apply q_blky); rfl) | ((with_reducible apply Kept.skip); rfl) | refine ww (hk := ?_) | (apply c_condP; rfl; exact bpx; all_goals intro hc) | ((first | apply s_gTP | apply s_gFP); rfl; exact bpx; all_goals intro hg) | (apply s_lalloc; rfl) | ((first | apply s_lbox); rfl; rfl; rfl) | (apply s_lstore; rfl; rfl; rfl; rfl; rfl) | (apply s_callB (hm := YC.m _ _); rfl; intro h3 o3 b3)
    refine k127 hob (by omega) wo fun v' hv' => ?_
    repeat' first | (with_reducible first | exact SetAt.z | apply SetAt.s | apply s_end | exact Kept.nil) | refine qq (hk := ?_) | ((with_reducible first | apply Kept.cons | apply q_blky); rfl) | ((with_reducible apply Kept.skip); rfl) | refine ww (hk := ?_) | (apply c_condP; rfl; exact bpx; all_goals intro hc) | ((first | apply s_gTP | apply s_gFP); rfl; exact bpx; all_goals intro hg) | (apply s_lalloc; rfl) | ((first | apply s_lbox); rfl; rfl; rfl) | (apply s_lstore; rfl; rfl; rfl; rfl; rfl) | (apply s_callB (hm := YC.m _ _); rfl; intro h3 o3 b3)
    rw [List.take_length, vX, vY, ← Int.natCast_mul] at hv
    rw [hv, Int.toNat_natCast] at hv'
    exact hq _ _ he hv'
theorem lv_take_succ' (l : List Int) (n : Nat) : lv (l.take (n + 1)) = lv (l.take n) + B n * l.getD n 0 := by
  by_cases h : n < l.length
  · exact lv_take_succ l n h
  · rw [List.take_of_length_le (by omega), List.take_of_length_le (by omega), List.getD_eq_getElem?_getD, List.getElem?_eq_none (by omega)]
    simp
theorem getD_out {l : List Int} {n : Nat} (h : ¬ n < l.length) : l.getD n 0 = 0 := by
  rw [List.getD_eq_getElem?_getD, List.getElem?_eq_none (by omega)]; rfl
/-- minus -/
theorem k110 {a b : Nat} {v1 v2 : Value} (hab : b ≤ a) (L1 : (li a).length ≤ 274877906944) (u1 : US .u32 h.ob (li a) v1) (u2 : US .u32 h.ob (li b) v2) (hq : ∀ v' h', Ext h h' → US .u32 h'.ob (li (a - b)) v' → Q v' h') : YC Tryz.prog B0 110 [v1, v2] Q h := by
  refine enterF mix Tryz.func110 ok110 rfl (tm := [(0, _), (1, _)]) (bx := []) rfl rfl fun hp => ?_
  have vX := lv_li a
  have vY := lv_li b
  have iX := li_in a
  have iY := li_in b
  have L2 := li_mono hab
  generalize li a = X at *
  generalize li b = Y at *
  repeat' first | (with_reducible first | exact SetAt.z | apply SetAt.s | apply s_end | exact Kept.nil) | refine qq (hk := ?_) | ((with_reducible first | apply Kept.cons | apply q_blky); rfl) | ((with_reducible apply Kept.skip); rfl) | refine ww (hk := ?_) | (apply c_condP; rfl; exact bpx; all_goals intro hc) | ((first | apply s_gTP | apply s_gFP); rfl; exact bpx; all_goals intro hg) | (apply s_lalloc; rfl) | ((first | apply s_lbox); rfl; rfl; rfl) | (apply s_lstore; rfl; rfl; rfl; rfl; rfl) | (apply s_callB (hm := YC.m _ _); rfl; intro h3 o3 b3)
  refine s_mk rfl rfl (by omega) fun h3 n3 => ?_
  rw [reps_U, show ((X.length : Int)).toNat = X.length by omega] at n3
  rw [show ((X.length : Int)).toNat = X.length by omega]
  have e3 := n3.ext
  have u1'' := u1.ext e3
  have u2'' := u2.ext e3
  repeat' first | (with_reducible first | exact SetAt.z | apply SetAt.s | apply s_end | exact Kept.nil) | refine qq (hk := ?_) | ((with_reducible first | apply Kept.cons | apply q_blky); rfl) | ((with_reducible apply Kept.skip); rfl) | refine ww (hk := ?_) | (apply c_condP; rfl; exact bpx; all_goals intro hc) | ((first | apply s_gTP | apply s_gFP); rfl; exact bpx; all_goals intro hg) | (apply s_lalloc; rfl) | ((first | apply s_lbox); rfl; rfl; rfl) | (apply s_lstore; rfl; rfl; rfl; rfl; rfl) | (apply s_callB (hm := YC.m _ _); rfl; intro h3 o3 b3)
  refine loopI (YC.m _ _) (fun n fr h' => ∃ (i : Nat) (o : List Int) (bo : Int), n = X.length - i ∧ i ≤ X.length ∧ Ext h h' ∧ UA .u32 h'.ob h.ob.length o ∧ InB o ∧ o.length = X.length ∧ 0 ≤ bo ∧ bo ≤ 1 ∧ lv (o.take i) + lv (Y.take i) = lv (X.take i) + B i * bo ∧
    fr = ⟨[(0, .v v1), (1, .v v2), (5, .v (.slice (some ⟨h.ob.length, 0, none⟩) X.length X.length)), (6, .v (.int .u64 bo)), (7, .v (.int .i64 i))], []⟩) X.length ⟨0, _, 0, by omega, by omega, e3, n3.at, InB.replicate _, by simp, by omega, by omega, by simp [lv], rfl⟩ ?_
  rintro n fr h' ⟨i, o, bo, rfl, hi, he, ho, hob, hlen, bo0, bo1, hv, rfl⟩
  have w1 := u1.ext he
  have w2 := u2.ext he
  have wo := ho.all hlen.symm (Nat.le_refl _)
  have hbar := he.bar
  by_cases hlt : i < X.length
  · have hxi := iX.getD i
    have hyi := iY.getD i
    have fin : ∀ (bo' : Int) (h2 : AH), 0 ≤ bo' → bo' ≤ 1 → SetO h' h.ob.length (some (1, (o.set i (X.getD i 0 - (bo + Y.getD i 0) + 4294967296 * bo')).map (Value.int .u32))) h2 → 0 ≤ X.getD i 0 - (bo + Y.getD i 0) + 4294967296 * bo' → X.getD i 0 - (bo + Y.getD i 0) + 4294967296 * bo' < 4294967296 →
        ∃ (i' : Nat) (o' : List Int) (b' : Int), X.length - (i + 1) = X.length - i' ∧ i' ≤ X.length ∧ Ext h h2 ∧ UA .u32 h2.ob h.ob.length o' ∧ InB o' ∧ o'.length = X.length ∧ 0 ≤ b' ∧ b' ≤ 1 ∧ lv (o'.take i') + lv (Y.take i') = lv (X.take i') + B i' * b' ∧
          (⟨[(0, .v v1), (1, .v v2), (5, .v (.slice (some ⟨h.ob.length, 0, none⟩) X.length X.length)), (6, .v (.int .u64 bo')), (7, .v (.int .i64 ((i : Int) + 1)))], []⟩ : Fr) = ⟨[(0, .v v1), (1, .v v2), (5, .v (.slice (some ⟨h.ob.length, 0, none⟩) X.length X.length)), (6, .v (.int .u64 b')), (7, .v (.int .i64 i'))], []⟩ := by
      intro bo' h2 c0 c1 s2 d0 d1
      refine ⟨i + 1, o.set i (X.getD i 0 - (bo + Y.getD i 0) + 4294967296 * bo'), bo', rfl, by omega, s2.ext he (Nat.le_refl _), s2.at ho, hob.set _ d0 d1, by simpa using hlen, c0, c1, ?_, rfl⟩
      rw [lv_take_set (by omega), lv_take_succ' X, lv_take_succ' Y, B_succ]
      generalize X.getD i 0 = x, Y.getD i 0 = y, lv (X.take i) = a1, lv (Y.take i) = a2, lv (o.take i) = a3, B i = b1 at *
      grind
    by_cases hyl : i < Y.length
    · by_cases hcmp : X.getD i 0 < bo + Y.getD i 0
      · repeat' first | (with_reducible first | exact SetAt.z | apply SetAt.s | apply s_end | exact Kept.nil) | refine qq (hk := ?_) | ((with_reducible first | apply Kept.cons | apply q_blky); rfl) | ((with_reducible apply Kept.skip); rfl) | refine ww (hk := ?_) | (apply c_condP; rfl; exact bpx; all_goals intro hc) | ((first | apply s_gTP | apply s_gFP); rfl; exact bpx; all_goals intro hg) | (apply s_lalloc; rfl) | ((first | apply s_lbox); rfl; rfl; rfl) | (apply s_lstore; rfl; rfl; rfl; rfl; rfl) | (apply s_callB (hm := YC.m _ _); rfl; intro h3 o3 b3)
        refine s_stW i (X.getD i 0 - (bo + Y.getD i 0) + 4294967296 * 1) rfl rfl (by omega) ho (by omega) (by omega) (by omega) fun h2 s2 => ?_
        repeat' first | (with_reducible first | exact SetAt.z | apply SetAt.s | apply s_end | exact Kept.nil) | refine qq (hk := ?_) | ((with_reducible first | apply Kept.cons | apply q_blky); rfl) | ((with_reducible apply Kept.skip); rfl) | refine ww (hk := ?_) | (apply c_condP; rfl; exact bpx; all_goals intro hc) | ((first | apply s_gTP | apply s_gFP); rfl; exact bpx; all_goals intro hg) | (apply s_lalloc; rfl) | ((first | apply s_lbox); rfl; rfl; rfl) | (apply s_lstore; rfl; rfl; rfl; rfl; rfl) | (apply s_callB (hm := YC.m _ _); rfl; intro h3 o3 b3)
        exact q_seql (m := X.length - (i + 1)) (by omega) (fin 1 h2 (by omega) (by omega) s2 (by omega) (by omega))
      · repeat' first | (with_reducible first | exact SetAt.z | apply SetAt.s | apply s_end | exact Kept.nil) | refine qq (hk := ?_) | ((with_reducible first | apply Kept.cons | apply q_blky); rfl) | ((with_reducible apply Kept.skip); rfl) | refine ww (hk := ?_) | (apply c_condP; rfl; exact bpx; all_goals intro hc) | ((first | apply s_gTP | apply s_gFP); rfl; exact bpx; all_goals intro hg) | (apply s_lalloc; rfl) | ((first | apply s_lbox); rfl; rfl; rfl) | (apply s_lstore; rfl; rfl; rfl; rfl; rfl) | (apply s_callB (hm := YC.m _ _); rfl; intro h3 o3 b3)
        refine s_stW i (X.getD i 0 - (bo + Y.getD i 0) + 4294967296 * 0) rfl rfl (by omega) ho (by omega) (by omega) (by omega) fun h2 s2 => ?_
        repeat' first | (with_reducible first | exact SetAt.z | apply SetAt.s | apply s_end | exact Kept.nil) | refine qq (hk := ?_) | ((with_reducible first | apply Kept.cons | apply q_blky); rfl) | ((with_reducible apply Kept.skip); rfl) | refine ww (hk := ?_) | (apply c_condP; rfl; exact bpx; all_goals intro hc) | ((first | apply s_gTP | apply s_gFP); rfl; exact bpx; all_goals intro hg) | (apply s_lalloc; rfl) | ((first | apply s_lbox); rfl; rfl; rfl) | (apply s_lstore; rfl; rfl; rfl; rfl; rfl) | (apply s_callB (hm := YC.m _ _); rfl; intro h3 o3 b3)
        exact q_seql (m := X.length - (i + 1)) (by omega) (fin 0 h2 (by omega) (by omega) s2 (by omega) (by omega))
    · have hy0 := getD_out hyl
      by_cases hcmp : X.getD i 0 < bo
      · repeat' first | (with_reducible first | exact SetAt.z | apply SetAt.s | apply s_end | exact Kept.nil) | refine qq (hk := ?_) | ((with_reducible first | apply Kept.cons | apply q_blky); rfl) | ((with_reducible apply Kept.skip); rfl) | refine ww (hk := ?_) | (apply c_condP; rfl; exact bpx; all_goals intro hc) | ((first | apply s_gTP | apply s_gFP); rfl; exact bpx; all_goals intro hg) | (apply s_lalloc; rfl) | ((first | apply s_lbox); rfl; rfl; rfl) | (apply s_lstore; rfl; rfl; rfl; rfl; rfl) | (apply s_callB (hm := YC.m _ _); rfl; intro h3 o3 b3)
        refine s_stW i (X.getD i 0 - (bo + Y.getD i 0) + 4294967296 * 1) rfl rfl (by omega) ho (by omega) (by omega) (by omega) fun h2 s2 => ?_
        repeat' first | (with_reducible first | exact SetAt.z | apply SetAt.s | apply s_end | exact Kept.nil) | refine qq (hk := ?_) | ((with_reducible first | apply Kept.cons | apply q_blky); rfl) | ((with_reducible apply Kept.skip); rfl) | refine ww (hk := ?_) | (apply c_condP; rfl; exact bpx; all_goals intro hc) | ((first | apply s_gTP | apply s_gFP); rfl; exact bpx; all_goals intro hg) | (apply s_lalloc; rfl) | ((first | apply s_lbox); rfl; rfl; rfl) | (apply s_lstore; rfl; rfl; rfl; rfl; rfl) | (apply s_callB (hm := YC.m _ _); rfl; intro h3 o3 b3)
        exact q_seql (m := X.length - (i + 1)) (by omega) (fin 1 h2 (by omega) (by omega) s2 (by omega) (by omega))
      · repeat' first | (with_reducible first | exact SetAt.z | apply SetAt.s | apply s_end | exact Kept.nil) | refine qq (hk := ?_) | ((with_reducible first | apply Kept.cons | apply q_blky); rfl) | ((with_reducible apply Kept.skip); rfl) | refine ww (hk := ?_) | (apply c_condP; rfl; exact bpx; all_goals intro hc) | ((first | apply s_gTP | apply s_gFP); rfl; exact bpx; all_goals intro hg) | (apply s_lalloc; rfl) | ((first | apply s_lbox); rfl; rfl; rfl) | (apply s_lstore; rfl; rfl; rfl; rfl; rfl) | (apply s_callB (hm := YC.m _ _); rfl; intro h3 o3 b3)
        refine s_stW i (X.getD i 0 - (bo + Y.getD i 0) + 4294967296 * 0) rfl rfl (by omega) ho (by omega) (by omega) (by omega) fun h2 s2 => ?_
        repeat' first | (with_reducible first | exact SetAt.z | apply SetAt.s | apply s_end | exact Kept.nil) | refine qq (hk := ?_) | ((with_reducible first | apply Kept.cons | apply q_blky); rfl) | ((with_reducible apply Kept.skip); rfl) | refine ww (hk := ?_) | (apply c_condP; rfl; exact bpx; all_goals intro hc) | ((first | apply s_gTP | apply s_gFP); rfl; exact bpx; all_goals intro hg) | (apply s_lalloc; rfl) | ((first | apply s_lbox); rfl; rfl; rfl) | (apply s_lstore; rfl; rfl; rfl; rfl; rfl) | (apply s_callB (hm := YC.m _ _); rfl; intro h3 o3 b3)
        exact q_seql (m := X.length - (i + 1)) (by omega) (fin 0 h2 (by omega) (by omega) s2 (by omega) (by omega))
  · have : i = X.length := by omega
    subst this
    repeat' first | (with_reducible first | exact SetAt.z | apply SetAt.s | apply s_end | exact Kept.nil) | refine qq (hk := ?_) | ((with_reducible first | apply Kept.cons | apply q_blky); rfl) | ((with_reducible apply Kept.skip); rfl) | refine ww (hk := ?_) | (apply c_condP; rfl; exact bpx; all_goals intro hc) | ((first | apply s_gTP | apply s_gFP); rfl; exact bpx; all_goals intro hg) | (apply s_lalloc; rfl) | ((first | apply s_lbox); rfl; rfl; rfl) | (apply s_lstore; rfl; rfl; rfl; rfl; rfl) | (apply s_callB (hm := YC.m _ _); rfl; intro h3 o3 b3)
    refine k127 hob (by omega) wo fun v' hv' => ?_
    repeat' first | (with_reducible first | exact SetAt.z | apply SetAt.s | apply s_end | exact Kept.nil) | refine qq (hk := ?_) | ((with_reducible first | apply Kept.cons | apply q_blky); rfl) | ((with_reducible apply Kept.skip); rfl) | refine ww (hk := ?_) | (apply c_condP; rfl; exact bpx; all_goals intro hc) | ((first | apply s_gTP | apply s_gFP); rfl; exact bpx; all_goals intro hg) | (apply s_lalloc; rfl) | ((first | apply s_lbox); rfl; rfl; rfl) | (apply s_lstore; rfl; rfl; rfl; rfl; rfl) | (apply s_callB (hm := YC.m _ _); rfl; intro h3 o3 b3)
    rw [List.take_length, List.take_of_length_le (by omega), List.take_of_length_le (by omega), vX, vY] at hv
    have hlt2 := lv_lt hob
    rw [hlen] at hlt2
    have hBp := B_pos X.length
    have hbo : bo = 0 := by
      apply Classical.byContradiction
      intro hne
      have : bo = 1 := by omega
      subst this
      omega
    subst hbo
    have e : (lv o).toNat = a - b := by omega
    rw [e] at hv'
    exact hq _ _ he hv'
/-- plus -/
theorem k108 {a b : Nat} {v1 v2 : Value} (L1 : (li a).length ≤ 274877906944) (L2 : (li b).length ≤ 274877906944) (u1 : US .u32 h.ob (li a) v1) (u2 : US .u32 h.ob (li b) v2) (hq : ∀ v' h', Ext h h' → US .u32 h'.ob (li (a + b)) v' → Q v' h') : YC Tryz.prog B0 108 [v1, v2] Q h := by
  refine enterF mix Tryz.func108 ok108 rfl (tm := [(0, _), (1, _)]) (bx := []) rfl rfl fun hp => ?_
  have vX := lv_li a
  have vY := lv_li b
  have iX := li_in a
  have iY := li_in b
  have tX := li_trim a
  have tY := li_trim b
  generalize li a = X at *
  generalize li b = Y at *
  obtain ⟨M, hM⟩ : ∃ M, M = max X.length Y.length := ⟨_, rfl⟩
  repeat' first | (with_reducible first | exact SetAt.z | apply SetAt.s | apply s_end | exact Kept.nil) | refine qq (hk := ?_) | ((with_reducible first | apply Kept.cons | apply q_blky); rfl) | ((with_reducible apply Kept.skip); rfl) | refine ww (hk := ?_) | (apply c_condP; rfl; exact bpx; all_goals intro hc) | ((first | apply s_gTP | apply s_gFP); rfl; exact bpx; all_goals intro hg) | (apply s_lalloc; rfl) | ((first | apply s_lbox); rfl; rfl; rfl) | (apply s_lstore; rfl; rfl; rfl; rfl; rfl) | (apply s_callB (hm := YC.m _ _); rfl; intro h3 o3 b3)
  refine loopI (YC.m _ _) (fun n fr h' => ∃ (i : Nat) (o : List Int) (v : Value) (ca : Int), n = M + 1 - i ∧ i ≤ M + 1 ∧ Ext h h' ∧ OwnL (fun x : Int => [Value.int .u32 x]) 1 h h' v o ∧ InB o ∧ o.length = i ∧ 0 ≤ ca ∧ ca ≤ 1 ∧ (i = M + 1 → ca = 0 ∧ B M ≤ lv X + lv Y) ∧ lv o + B i * ca = lv (X.take i) + lv (Y.take i) ∧
    fr = ⟨[(0, .v v1), (1, .v v2), (5, .v v), (6, .v (.int .u64 ca)), (7, .v (.int .i64 i))], []⟩) (M + 1) ⟨0, [], _, 0, by omega, by omega, Ext.refl h, OwnL.nil, InB.nil, rfl, by omega, by omega, by omega, by simp [lv], rfl⟩ ?_
  rintro n fr h' ⟨i, o, v, ca, rfl, hi, he, hO, hob, hlen, ca0, ca1, hlast, hv, rfl⟩
  have w1 := u1.ext he
  have w2 := u2.ext he
  have hxi := iX.getD i
  have hyi := iY.getD i
  by_cases hstop : M ≤ i ∧ ca = 0
  · obtain ⟨hMi, rfl⟩ := hstop
    have uo : US .u32 h'.ob o v := OwnL.ts (by intro x; rfl) hO
    repeat' first | (with_reducible first | exact SetAt.z | apply SetAt.s | apply s_end | exact Kept.nil) | refine qq (hk := ?_) | ((with_reducible first | apply Kept.cons | apply q_blky); rfl) | ((with_reducible apply Kept.skip); rfl) | refine ww (hk := ?_) | (apply c_condP; rfl; exact bpx; all_goals intro hc) | ((first | apply s_gTP | apply s_gFP); rfl; exact bpx; all_goals intro hg) | (apply s_lalloc; rfl) | ((first | apply s_lbox); rfl; rfl; rfl) | (apply s_lstore; rfl; rfl; rfl; rfl; rfl) | (apply s_callB (hm := YC.m _ _); rfl; intro h3 o3 b3)
    refine hq _ _ he ?_
    rw [List.take_of_length_le (by omega), List.take_of_length_le (by omega)] at hv
    have hv2 : lv o = ((a + b : Nat) : Int) := by omega
    have ht : Trim o := trim_of_ge hob fun hl => by
      by_cases hi1 : i = M + 1
      · have := (hlast hi1).2
        rw [hlen, hi1, Nat.add_sub_cancel]
        omega
      · have hi2 : i = M := by omega
        have nX := lv_nonneg iX
        have nY := lv_nonneg iY
        rw [hlen, hi2]
        by_cases hxy : Y.length ≤ X.length
        · have := tX.ge iX (by omega)
          rw [show M - 1 = X.length - 1 by omega]
          omega
        · have := tY.ge iY (by omega)
          rw [show M - 1 = Y.length - 1 by omega]
          omega
    have e := li_of hob ht
    rw [hv2, Int.toNat_natCast] at e
    rw [e]
    exact uo
  · have hiM : i ≤ M := by
      apply Classical.byContradiction
      intro hn
      have := (hlast (by omega)).1
      exact hstop ⟨by omega, this⟩
    have hT : 0 ≤ ca + X.getD i 0 + Y.getD i 0 ∧ ca + X.getD i 0 + Y.getD i 0 ≤ 8589934591 := by omega
    have fin : ∀ v' h2, Ext h h2 → OwnL (fun x : Int => [Value.int .u32 x]) 1 h h2 v' (o ++ [(ca + X.getD i 0 + Y.getD i 0) % 4294967296]) →
        ∃ (i' : Nat) (o' : List Int) (w' : Value) (c' : Int), M + 1 - (i + 1) = M + 1 - i' ∧ i' ≤ M + 1 ∧ Ext h h2 ∧ OwnL (fun x : Int => [Value.int .u32 x]) 1 h h2 w' o' ∧ InB o' ∧ o'.length = i' ∧ 0 ≤ c' ∧ c' ≤ 1 ∧ (i' = M + 1 → c' = 0 ∧ B M ≤ lv X + lv Y) ∧ lv o' + B i' * c' = lv (X.take i') + lv (Y.take i') ∧
          (⟨[(0, .v v1), (1, .v v2), (5, .v v'), (6, .v (.int .u64 ((ca + X.getD i 0 + Y.getD i 0) / 4294967296))), (7, .v (.int .i64 ((i : Int) + 1)))], []⟩ : Fr) = ⟨[(0, .v v1), (1, .v v2), (5, .v w'), (6, .v (.int .u64 c')), (7, .v (.int .i64 i'))], []⟩ := by
      intro v' h2 e2 hO2
      have hdm := Int.emod_add_mul_ediv (ca + X.getD i 0 + Y.getD i 0) 4294967296
      refine ⟨i + 1, _, v', (ca + X.getD i 0 + Y.getD i 0) / 4294967296, rfl, by omega, e2, hO2, hob.append (InB.cons (by omega) (by omega) InB.nil), by simp [hlen], by omega, by omega, fun hi1 => ?_, ?_, rfl⟩
      · have hi2 : i = M := by omega
        have hx0 : X.getD i 0 = 0 := getD_out (by omega)
        have hy0 : Y.getD i 0 = 0 := getD_out (by omega)
        have hc1 : ca = 1 := by
          apply Classical.byContradiction
          intro hn
          exact hstop ⟨by omega, by omega⟩
        refine ⟨by omega, ?_⟩
        rw [List.take_of_length_le (by omega), List.take_of_length_le (by omega), hc1, hi2] at hv
        have := lv_nonneg hob
        omega
      · rw [lv_snoc, hlen, lv_take_succ' X, lv_take_succ' Y, B_succ]
        generalize (ca + X.getD i 0 + Y.getD i 0) / 4294967296 = c1, (ca + X.getD i 0 + Y.getD i 0) % 4294967296 = c2 at hdm ⊢
        have : c2 = ca + X.getD i 0 + Y.getD i 0 - 4294967296 * c1 := by omega
        subst this
        generalize X.getD i 0 = x, Y.getD i 0 = y, lv (X.take i) = a1, lv (Y.take i) = a2, lv o = a3, B i = b1 at *
        grind
    by_cases hxl : i < X.length
    · by_cases hyl : i < Y.length
      · repeat' first | (with_reducible first | exact SetAt.z | apply SetAt.s | apply s_end | exact Kept.nil) | refine qq (hk := ?_) | ((with_reducible first | apply Kept.cons | apply q_blky); rfl) | ((with_reducible apply Kept.skip); rfl) | refine ww (hk := ?_) | (apply c_condP; rfl; exact bpx; all_goals intro hc) | ((first | apply s_gTP | apply s_gFP); rfl; exact bpx; all_goals intro hg) | (apply s_lalloc; rfl) | ((first | apply s_lbox); rfl; rfl; rfl) | (apply s_lstore; rfl; rfl; rfl; rfl; rfl) | (apply s_callB (hm := YC.m _ _); rfl; intro h3 o3 b3)
        refine s_bsl (ps := [(0, [.int .u32 ((ca + X.getD i 0 + Y.getD i 0) % 4294967296)])]) (cs := [.int .u32 ((ca + X.getD i 0 + Y.getD i 0) % 4294967296)]) rfl rfl fun h2 n2 => ?_
        repeat' first | (with_reducible first | exact SetAt.z | apply SetAt.s | apply s_end | exact Kept.nil) | refine qq (hk := ?_) | ((with_reducible first | apply Kept.cons | apply q_blky); rfl) | ((with_reducible apply Kept.skip); rfl) | refine ww (hk := ?_) | (apply c_condP; rfl; exact bpx; all_goals intro hc) | ((first | apply s_gTP | apply s_gFP); rfl; exact bpx; all_goals intro hg) | (apply s_lalloc; rfl) | ((first | apply s_lbox); rfl; rfl; rfl) | (apply s_lstore; rfl; rfl; rfl; rfl; rfl) | (apply s_callB (hm := YC.m _ _); rfl; intro h3 o3 b3)
        refine s_appG rfl rfl (fun _ => rfl) (hO.ext n2.ext) n2.at (by omega) (he.trans n2.ext) hp (by omega) fun v' h3 e3 hO3 => ?_
        repeat' first | (with_reducible first | exact SetAt.z | apply SetAt.s | apply s_end | exact Kept.nil) | refine qq (hk := ?_) | ((with_reducible first | apply Kept.cons | apply q_blky); rfl) | ((with_reducible apply Kept.skip); rfl) | refine ww (hk := ?_) | (apply c_condP; rfl; exact bpx; all_goals intro hc) | ((first | apply s_gTP | apply s_gFP); rfl; exact bpx; all_goals intro hg) | (apply s_lalloc; rfl) | ((first | apply s_lbox); rfl; rfl; rfl) | (apply s_lstore; rfl; rfl; rfl; rfl; rfl) | (apply s_callB (hm := YC.m _ _); rfl; intro h3 o3 b3)
        exact q_seql (m := M + 1 - (i + 1)) (by omega) (fin v' h3 e3 hO3)
      · have hy0 : Y.getD i 0 = 0 := getD_out hyl
        rw [hy0, Int.add_zero] at fin
        repeat' first | (with_reducible first | exact SetAt.z | apply SetAt.s | apply s_end | exact Kept.nil) | refine qq (hk := ?_) | ((with_reducible first | apply Kept.cons | apply q_blky); rfl) | ((with_reducible apply Kept.skip); rfl) | refine ww (hk := ?_) | (apply c_condP; rfl; exact bpx; all_goals intro hc) | ((first | apply s_gTP | apply s_gFP); rfl; exact bpx; all_goals intro hg) | (apply s_lalloc; rfl) | ((first | apply s_lbox); rfl; rfl; rfl) | (apply s_lstore; rfl; rfl; rfl; rfl; rfl) | (apply s_callB (hm := YC.m _ _); rfl; intro h3 o3 b3)
        refine s_bsl (ps := [(0, [.int .u32 ((ca + X.getD i 0) % 4294967296)])]) (cs := [.int .u32 ((ca + X.getD i 0) % 4294967296)]) rfl rfl fun h2 n2 => ?_
        repeat' first | (with_reducible first | exact SetAt.z | apply SetAt.s | apply s_end | exact Kept.nil) | refine qq (hk := ?_) | ((with_reducible first | apply Kept.cons | apply q_blky); rfl) | ((with_reducible apply Kept.skip); rfl) | refine ww (hk := ?_) | (apply c_condP; rfl; exact bpx; all_goals intro hc) | ((first | apply s_gTP | apply s_gFP); rfl; exact bpx; all_goals intro hg) | (apply s_lalloc; rfl) | ((first | apply s_lbox); rfl; rfl; rfl) | (apply s_lstore; rfl; rfl; rfl; rfl; rfl) | (apply s_callB (hm := YC.m _ _); rfl; intro h3 o3 b3)
        refine s_appG rfl rfl (fun _ => rfl) (hO.ext n2.ext) n2.at (by omega) (he.trans n2.ext) hp (by omega) fun v' h3 e3 hO3 => ?_
        repeat' first | (with_reducible first | exact SetAt.z | apply SetAt.s | apply s_end | exact Kept.nil) | refine qq (hk := ?_) | ((with_reducible first | apply Kept.cons | apply q_blky); rfl) | ((with_reducible apply Kept.skip); rfl) | refine ww (hk := ?_) | (apply c_condP; rfl; exact bpx; all_goals intro hc) | ((first | apply s_gTP | apply s_gFP); rfl; exact bpx; all_goals intro hg) | (apply s_lalloc; rfl) | ((first | apply s_lbox); rfl; rfl; rfl) | (apply s_lstore; rfl; rfl; rfl; rfl; rfl) | (apply s_callB (hm := YC.m _ _); rfl; intro h3 o3 b3)
        exact q_seql (m := M + 1 - (i + 1)) (by omega) (fin v' h3 e3 hO3)
    · have hx0 : X.getD i 0 = 0 := getD_out hxl
      rw [hx0, Int.add_zero] at fin
      by_cases hyl : i < Y.length
      · repeat' first | (with_reducible first | exact SetAt.z | apply SetAt.s | apply s_end | exact Kept.nil) | refine qq (hk := ?_) | ((with_reducible first | apply Kept.cons | apply q_blky); rfl) | ((with_reducible apply Kept.skip); rfl) | refine ww (hk := ?_) | (apply c_condP; rfl; exact bpx; all_goals intro hc) | ((first | apply s_gTP | apply s_gFP); rfl; exact bpx; all_goals intro hg) | (apply s_lalloc; rfl) | ((first | apply s_lbox); rfl; rfl; rfl) | (apply s_lstore; rfl; rfl; rfl; rfl; rfl) | (apply s_callB (hm := YC.m _ _); rfl; intro h3 o3 b3)
        refine s_bsl (ps := [(0, [.int .u32 ((ca + Y.getD i 0) % 4294967296)])]) (cs := [.int .u32 ((ca + Y.getD i 0) % 4294967296)]) rfl rfl fun h2 n2 => ?_
        repeat' first | (with_reducible first | exact SetAt.z | apply SetAt.s | apply s_end | exact Kept.nil) | refine qq (hk := ?_) | ((with_reducible first | apply Kept.cons | apply q_blky); rfl) | ((with_reducible apply Kept.skip); rfl) | refine ww (hk := ?_) | (apply c_condP; rfl; exact bpx; all_goals intro hc) | ((first | apply s_gTP | apply s_gFP); rfl; exact bpx; all_goals intro hg) | (apply s_lalloc; rfl) | ((first | apply s_lbox); rfl; rfl; rfl) | (apply s_lstore; rfl; rfl; rfl; rfl; rfl) | (apply s_callB (hm := YC.m _ _); rfl; intro h3 o3 b3)
        refine s_appG rfl rfl (fun _ => rfl) (hO.ext n2.ext) n2.at (by omega) (he.trans n2.ext) hp (by omega) fun v' h3 e3 hO3 => ?_
        repeat' first | (with_reducible first | exact SetAt.z | apply SetAt.s | apply s_end | exact Kept.nil) | refine qq (hk := ?_) | ((with_reducible first | apply Kept.cons | apply q_blky); rfl) | ((with_reducible apply Kept.skip); rfl) | refine ww (hk := ?_) | (apply c_condP; rfl; exact bpx; all_goals intro hc) | ((first | apply s_gTP | apply s_gFP); rfl; exact bpx; all_goals intro hg) | (apply s_lalloc; rfl) | ((first | apply s_lbox); rfl; rfl; rfl) | (apply s_lstore; rfl; rfl; rfl; rfl; rfl) | (apply s_callB (hm := YC.m _ _); rfl; intro h3 o3 b3)
        exact q_seql (m := M + 1 - (i + 1)) (by omega) (fin v' h3 e3 hO3)
      · have hy0 : Y.getD i 0 = 0 := getD_out hyl
        rw [hy0, Int.add_zero] at fin
        have hcp : ca > 0 := by
          apply Classical.byContradiction
          intro hn
          exact hstop ⟨by omega, by omega⟩
        have hcm : ca % 4294967296 = ca := by omega
        rw [hcm] at fin
        repeat' first | (with_reducible first | exact SetAt.z | apply SetAt.s | apply s_end | exact Kept.nil) | refine qq (hk := ?_) | ((with_reducible first | apply Kept.cons | apply q_blky); rfl) | ((with_reducible apply Kept.skip); rfl) | refine ww (hk := ?_) | (apply c_condP; rfl; exact bpx; all_goals intro hc) | ((first | apply s_gTP | apply s_gFP); rfl; exact bpx; all_goals intro hg) | (apply s_lalloc; rfl) | ((first | apply s_lbox); rfl; rfl; rfl) | (apply s_lstore; rfl; rfl; rfl; rfl; rfl) | (apply s_callB (hm := YC.m _ _); rfl; intro h3 o3 b3)
        refine s_bsl (ps := [(0, [.int .u32 ca])]) (cs := [.int .u32 ca]) rfl rfl fun h2 n2 => ?_
        repeat' first | (with_reducible first | exact SetAt.z | apply SetAt.s | apply s_end | exact Kept.nil) | refine qq (hk := ?_) | ((with_reducible first | apply Kept.cons | apply q_blky); rfl) | ((with_reducible apply Kept.skip); rfl) | refine ww (hk := ?_) | (apply c_condP; rfl; exact bpx; all_goals intro hc) | ((first | apply s_gTP | apply s_gFP); rfl; exact bpx; all_goals intro hg) | (apply s_lalloc; rfl) | ((first | apply s_lbox); rfl; rfl; rfl) | (apply s_lstore; rfl; rfl; rfl; rfl; rfl) | (apply s_callB (hm := YC.m _ _); rfl; intro h3 o3 b3)
        refine s_appG rfl rfl (fun _ => rfl) (hO.ext n2.ext) n2.at (by omega) (he.trans n2.ext) hp (by omega) fun v' h3 e3 hO3 => ?_
        repeat' first | (with_reducible first | exact SetAt.z | apply SetAt.s | apply s_end | exact Kept.nil) | refine qq (hk := ?_) | ((with_reducible first | apply Kept.cons | apply q_blky); rfl) | ((with_reducible apply Kept.skip); rfl) | refine ww (hk := ?_) | (apply c_condP; rfl; exact bpx; all_goals intro hc) | ((first | apply s_gTP | apply s_gFP); rfl; exact bpx; all_goals intro hg) | (apply s_lalloc; rfl) | ((first | apply s_lbox); rfl; rfl; rfl) | (apply s_lstore; rfl; rfl; rfl; rfl; rfl) | (apply s_callB (hm := YC.m _ _); rfl; intro h3 o3 b3)
        exact q_seql (m := M + 1 - (i + 1)) (by omega) (fin v' h3 e3 hO3)
end
end Am
end Go.Proofs.YtfhlblclcdhbiaaGreatDoor
