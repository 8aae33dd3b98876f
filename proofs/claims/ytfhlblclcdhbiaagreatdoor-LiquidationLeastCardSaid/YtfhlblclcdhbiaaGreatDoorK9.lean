/- The reference's natural numbers. -/
import Derived.Test.YtfhlblclcdhbiaaGreatDoorS2
namespace Go.Proofs.YtfhlblclcdhbiaaGreatDoor
open Go
set_option linter.unusedVariables false
set_option linter.unusedSimpArgs false
namespace Am
section
variable {B0 : Nat} {Q : Value → AH → Prop} {h : AH}
theorem k127 {l : List Int} {v : Value} (hb : InB l) (hl : l.length ≤ 1152921504606846976) (hu : US .u32 h.ob l v) (hq : ∀ v', US .u32 h.ob (li (lv l).toNat) v' → Q v' h) : YC Tryz.prog B0 127 [v] Q h := by
  refine enterF mix Tryz.func127 ok127 rfl (tm := [(0, _)]) (bx := []) rfl rfl fun hp => ?_
  repeat' first | (with_reducible first | exact SetAt.z | apply SetAt.s | apply s_end | exact Kept.nil) | refine qq (hk := ?_) | ((with_reducible first | apply Kept.cons | apply q_blky); rfl) | ((with_reducible apply Kept.skip); rfl) | refine ww (hk := ?_) | (apply c_condP; rfl; exact bpx; all_goals intro hc) | ((first | apply s_gTP | apply s_gFP); rfl; exact bpx; all_goals intro hg) | (apply s_lalloc; rfl) | ((first | apply s_lbox); rfl; rfl; rfl) | (apply s_lstore; rfl; rfl; rfl; rfl; rfl) | (apply s_callB (hm := YC.m _ _); rfl; intro h3 o3 b3)
  refine loopI (YC.m _ _) (fun n fr h' => h' = h ∧ n ≤ l.length ∧ lv (l.take n) = lv l ∧ fr = ⟨[(0, .v v), (3, .v (.int .i64 n))], []⟩) l.length ⟨rfl, by omega, by simp, rfl⟩ ?_
  rintro n fr h' ⟨rfl, hn, hv, rfl⟩
  repeat' first | (with_reducible first | exact SetAt.z | apply SetAt.s | apply s_end | exact Kept.nil) | refine qq (hk := ?_) | ((with_reducible first | apply Kept.cons | apply q_blky); rfl) | ((with_reducible apply Kept.skip); rfl) | refine ww (hk := ?_) | (apply c_condP; rfl; exact bpx; all_goals intro hc) | ((first | apply s_gTP | apply s_gFP); rfl; exact bpx; all_goals intro hg) | (apply s_lalloc; rfl) | ((first | apply s_lbox); rfl; rfl; rfl) | (apply s_lstore; rfl; rfl; rfl; rfl; rfl) | (apply s_callB (hm := YC.m _ _); rfl; intro h3 o3 b3)
  · refine q_seql (m := n - 1) (by omega) ⟨rfl, by omega, ?_, by rw [Int.ofNat_sub (by omega)]; rfl⟩
    have := lv_take_succ l (n - 1) (by omega)
    rw [show (((n : Int) - 1).toNat) = n - 1 by omega] at hc
    rw [show n - 1 + 1 = n by omega, hc] at this
    omega
  · refine hq _ ?_
    rw [li_take hb hn hv fun _ => by rwa [show (((n : Int) - 1).toNat) = n - 1 by omega] at hc]
    exact hu.upto hn
  · refine hq _ ?_
    rw [li_take hb hn hv fun _ => by omega]
    exact hu.upto hn
theorem k147 {l : List Int} {v : Value} {d : Int} (hb : InB l) (hl : l.length ≤ 1099511627776) (hu : US .u32 h.ob l v) (hd : 0 < d ∧ d < 4294967296)
    (hq : ∀ v' h', Ext h h' → US .u32 h'.ob (li (lv l / d).toNat) v' → Q (.tuple #[v', .int .u32 (lv l % d)]) h') : YC Tryz.prog B0 147 [v, .int .u32 d] Q h := by
  refine enterF mix Tryz.func147 ok147 rfl (tm := [(0, _), (1, _)]) (bx := []) rfl rfl fun hp => ?_
  repeat' first | (with_reducible first | exact SetAt.z | apply SetAt.s | apply s_end | exact Kept.nil) | refine qq (hk := ?_) | ((with_reducible first | apply Kept.cons | apply q_blky); rfl) | ((with_reducible apply Kept.skip); rfl) | refine ww (hk := ?_) | (apply c_condP; rfl; exact bpx; all_goals intro hc) | ((first | apply s_gTP | apply s_gFP); rfl; exact bpx; all_goals intro hg) | (apply s_lalloc; rfl) | ((first | apply s_lbox); rfl; rfl; rfl) | (apply s_lstore; rfl; rfl; rfl; rfl; rfl) | (apply s_callB (hm := YC.m _ _); rfl; intro h3 o3 b3)
  refine s_mk rfl rfl (by omega) fun h1 n1 => ?_
  rw [reps_U] at n1
  rw [show ((l.length : Int)).toNat = l.length by omega] at n1 ⊢
  have hu1 := hu.ext n1.ext
  repeat' first | (with_reducible first | exact SetAt.z | apply SetAt.s | apply s_end | exact Kept.nil) | refine qq (hk := ?_) | ((with_reducible first | apply Kept.cons | apply q_blky); rfl) | ((with_reducible apply Kept.skip); rfl) | refine ww (hk := ?_) | (apply c_condP; rfl; exact bpx; all_goals intro hc) | ((first | apply s_gTP | apply s_gFP); rfl; exact bpx; all_goals intro hg) | (apply s_lalloc; rfl) | ((first | apply s_lbox); rfl; rfl; rfl) | (apply s_lstore; rfl; rfl; rfl; rfl; rfl) | (apply s_callB (hm := YC.m _ _); rfl; intro h3 o3 b3)
  refine loopI (YC.m _ _) (fun n fr h' => ∃ (o : List Int) (r : Int), n ≤ l.length ∧ Ext h h' ∧ UA .u32 h'.ob h.ob.length o ∧ InB o ∧ o.length = l.length ∧ 0 ≤ r ∧ r < d ∧ lv (l.drop n) = d * lv (o.drop n) + r ∧
    fr = ⟨[(0, .v v), (1, .v (.int .u32 d)), (6, .v (.slice (some ⟨h.ob.length, 0, none⟩) l.length l.length)), (7, .v (.int .u64 r)), (8, .v (.int .i64 ((n : Int) - 1)))], []⟩) l.length ⟨_, 0, by omega, n1.ext, n1.at, InB.replicate _, by simp, by omega, by omega, by simp [lv], by simp⟩ ?_
  rintro n fr h' ⟨o, r, hn, he, ho, hob, hlen, hr0, hr1, hv, rfl⟩
  have hu2 := hu.ext he
  have u2 := ho.all hlen.symm (Nat.le_refl _)
  by_cases h0 : 0 < n
  · have ex : ((n : Int) - 1).toNat = n - 1 := by omega
    have hx := hb.getD (n - 1)
    have hx' := hx
    rw [← ex] at hx'
    repeat' first | (with_reducible first | exact SetAt.z | apply SetAt.s | apply s_end | exact Kept.nil) | refine qq (hk := ?_) | ((with_reducible first | apply Kept.cons | apply q_blky); rfl) | ((with_reducible apply Kept.skip); rfl) | refine ww (hk := ?_) | (apply c_condP; rfl; exact bpx; all_goals intro hc) | ((first | apply s_gTP | apply s_gFP); rfl; exact bpx; all_goals intro hg) | (apply s_lalloc; rfl) | ((first | apply s_lbox); rfl; rfl; rfl) | (apply s_lstore; rfl; rfl; rfl; rfl; rfl) | (apply s_callB (hm := YC.m _ _); rfl; intro h3 o3 b3)
    have hq0 : 0 ≤ (r * 4294967296 + l.getD (n - 1) 0) / d := Int.ediv_nonneg (by omega) (by omega)
    have hq1 : (r * 4294967296 + l.getD (n - 1) 0) / d < 4294967296 := by
      refine Int.ediv_lt_of_lt_mul hd.1 ?_
      have : (r + 1) * 4294967296 ≤ d * 4294967296 := Int.mul_le_mul_of_nonneg_right (by omega) (by decide)
      omega
    refine s_stU rfl rfl (by have := he.bar; omega) ho (by omega) fun h2 s2 => ?_
    rw [show 0 + ((n : Int) - 1).toNat = n - 1 by omega, ex, Int.emod_eq_of_lt hq0 hq1] at s2
    repeat' first | (with_reducible first | exact SetAt.z | apply SetAt.s | apply s_end | exact Kept.nil) | refine qq (hk := ?_) | ((with_reducible first | apply Kept.cons | apply q_blky); rfl) | ((with_reducible apply Kept.skip); rfl) | refine ww (hk := ?_) | (apply c_condP; rfl; exact bpx; all_goals intro hc) | ((first | apply s_gTP | apply s_gFP); rfl; exact bpx; all_goals intro hg) | (apply s_lalloc; rfl) | ((first | apply s_lbox); rfl; rfl; rfl) | (apply s_lstore; rfl; rfl; rfl; rfl; rfl) | (apply s_callB (hm := YC.m _ _); rfl; intro h3 o3 b3)
    have hr2 := Int.emod_nonneg (r * 4294967296 + l.getD (n - 1) 0) (b := d) (by omega)
    have hr3 := Int.emod_lt_of_pos (r * 4294967296 + l.getD (n - 1) 0) hd.1
    have hdm := ediv_mul_le' (a := r * 4294967296 + l.getD (n - 1) 0) hd.1
    refine q_seql (m := n - 1) (by omega) ⟨o.set (n - 1) ((r * 4294967296 + l.getD (n - 1) 0) / d), (r * 4294967296 + l.getD (n - 1) 0) % d, by omega, s2.ext he (Nat.le_refl _), s2.at ho, hob.set _ hq0 hq1, by simpa using hlen, hr2, hr3, ?_, by rw [ex, Int.ofNat_sub (by omega)]; rfl⟩
    rw [drop_set (by omega), lv, lv_drop_succ l (n - 1) (by omega), show n - 1 + 1 = n by omega, hv]
    generalize (r * 4294967296 + l.getD (n - 1) 0) / d = q at *
    grind
  · have : n = 0 := by omega
    subst this
    repeat' first | (with_reducible first | exact SetAt.z | apply SetAt.s | apply s_end | exact Kept.nil) | refine qq (hk := ?_) | ((with_reducible first | apply Kept.cons | apply q_blky); rfl) | ((with_reducible apply Kept.skip); rfl) | refine ww (hk := ?_) | (apply c_condP; rfl; exact bpx; all_goals intro hc) | ((first | apply s_gTP | apply s_gFP); rfl; exact bpx; all_goals intro hg) | (apply s_lalloc; rfl) | ((first | apply s_lbox); rfl; rfl; rfl) | (apply s_lstore; rfl; rfl; rfl; rfl; rfl) | (apply s_callB (hm := YC.m _ _); rfl; intro h3 o3 b3)
    refine k127 hob (by omega) u2 fun v' hv' => ?_
    repeat' first | (with_reducible first | exact SetAt.z | apply SetAt.s | apply s_end | exact Kept.nil) | refine qq (hk := ?_) | ((with_reducible first | apply Kept.cons | apply q_blky); rfl) | ((with_reducible apply Kept.skip); rfl) | refine ww (hk := ?_) | (apply c_condP; rfl; exact bpx; all_goals intro hc) | ((first | apply s_gTP | apply s_gFP); rfl; exact bpx; all_goals intro hg) | (apply s_lalloc; rfl) | ((first | apply s_lbox); rfl; rfl; rfl) | (apply s_lstore; rfl; rfl; rfl; rfl; rfl) | (apply s_callB (hm := YC.m _ _); rfl; intro h3 o3 b3)
    simp only [List.drop_zero] at hv
    have e1 : lv l / d = lv o := by rw [hv, Int.add_comm, Int.add_mul_ediv_left _ _ (by omega), Int.ediv_eq_zero_of_lt hr0 hr1, Int.zero_add]
    have e2 : lv l % d = r := by rw [hv, Int.add_comm, Int.add_mul_emod_self_left, Int.emod_eq_of_lt hr0 hr1]
    rw [e1, e2] at hq
    exact hq _ _ he hv'
theorem k109 {a b : Nat} {v w : Value} (ha : (li a).length ≤ 1099511627776) (hb : (li b).length ≤ 1099511627776) (hv : US .u32 h.ob (li a) v) (hw : US .u32 h.ob (li b) w) (hq : Q (.int .i64 (cmpv a b)) h) : YC Tryz.prog B0 109 [v, w] Q h := by
  refine enterF mix Tryz.func109 ok109 rfl (tm := [(0, _), (1, _)]) (bx := []) rfl rfl fun hp => ?_
  have ia := li_in a
  have ib := li_in b
  have ta := li_trim a
  have tb := li_trim b
  have va := lv_li a
  have vb := lv_li b
  generalize li a = l at *
  generalize li b = m at *
  by_cases hn : l.length = m.length
  · repeat' first | (with_reducible first | exact SetAt.z | apply SetAt.s | apply s_end | exact Kept.nil) | refine qq (hk := ?_) | ((with_reducible first | apply Kept.cons | apply q_blky); rfl) | ((with_reducible apply Kept.skip); rfl) | refine ww (hk := ?_) | (apply c_condP; rfl; exact bpx; all_goals intro hc) | ((first | apply s_gTP | apply s_gFP); rfl; exact bpx; all_goals intro hg) | (apply s_lalloc; rfl) | ((first | apply s_lbox); rfl; rfl; rfl) | (apply s_lstore; rfl; rfl; rfl; rfl; rfl) | (apply s_callB (hm := YC.m _ _); rfl; intro h3 o3 b3)
    refine loopI (YC.m _ _) (fun n fr h' => h' = h ∧ n ≤ l.length ∧ l.drop n = m.drop n ∧ fr = ⟨[(0, .v v), (1, .v w), (5, .v (.int .i64 ((n : Int) - 1)))], []⟩) l.length ⟨rfl, Nat.le_refl _, by rw [List.drop_length, hn, List.drop_length], rfl⟩ ?_
    rintro n fr h' ⟨rfl, hle, hd, rfl⟩
    by_cases h0 : n = 0
    · subst h0
      repeat' first | (with_reducible first | exact SetAt.z | apply SetAt.s | apply s_end | exact Kept.nil) | refine qq (hk := ?_) | ((with_reducible first | apply Kept.cons | apply q_blky); rfl) | ((with_reducible apply Kept.skip); rfl) | refine ww (hk := ?_) | (apply c_condP; rfl; exact bpx; all_goals intro hc) | ((first | apply s_gTP | apply s_gFP); rfl; exact bpx; all_goals intro hg) | (apply s_lalloc; rfl) | ((first | apply s_lbox); rfl; rfl; rfl) | (apply s_lstore; rfl; rfl; rfl; rfl; rfl) | (apply s_callB (hm := YC.m _ _); rfl; intro h3 o3 b3)
      have e : l = m := by simpa using hd
      subst e
      rwa [show cmpv a b = 0 by rw [cmpv, if_neg (by omega), if_neg (by omega)]] at hq
    · have ex : ((n : Int) - 1).toNat = n - 1 := by omega
      have en : n - 1 + 1 = n := by omega
      repeat' first | (with_reducible first | exact SetAt.z | apply SetAt.s | apply s_end | exact Kept.nil) | refine qq (hk := ?_) | ((with_reducible first | apply Kept.cons | apply q_blky); rfl) | ((with_reducible apply Kept.skip); rfl) | refine ww (hk := ?_) | (apply c_condP; rfl; exact bpx; all_goals intro hc) | ((first | apply s_gTP | apply s_gFP); rfl; exact bpx; all_goals intro hg) | (apply s_lalloc; rfl) | ((first | apply s_lbox); rfl; rfl; rfl) | (apply s_lstore; rfl; rfl; rfl; rfl; rfl) | (apply s_callB (hm := YC.m _ _); rfl; intro h3 o3 b3)
      · rename_i hne
        rw [ex] at hc
        have := lv_less ia ib hn (k := n - 1) (by omega) (by rw [en]; exact hd) hc
        rwa [show cmpv a b = -1 by rw [cmpv, if_pos (by omega)]] at hq
      · rename_i hne
        rw [ex] at hc hne
        have := lv_less ib ia hn.symm (k := n - 1) (by omega) (by rw [en]; exact hd.symm) (by omega)
        rwa [show cmpv a b = 1 by rw [cmpv, if_neg (by omega), if_pos (by omega)]] at hq
      · refine q_seql (m := n - 1) (by omega) ⟨rfl, by omega, ?_, by rw [Int.ofNat_sub (by omega)]; rfl⟩
        rw [ex] at hc
        rw [List.drop_eq_getElem_cons (by omega), List.drop_eq_getElem_cons (l := m) (by omega), en, hd]
        congr 1
        have h1 := getD_some (l := l) (j := n - 1) (by omega)
        have h2 := getD_some (l := m) (j := n - 1) (by omega)
        rw [List.getElem?_eq_getElem (by omega)] at h1 h2
        rw [Option.some.inj h1, Option.some.inj h2]
        omega
  · repeat' first | (with_reducible first | exact SetAt.z | apply SetAt.s | apply s_end | exact Kept.nil) | refine qq (hk := ?_) | ((with_reducible first | apply Kept.cons | apply q_blky); rfl) | ((with_reducible apply Kept.skip); rfl) | refine ww (hk := ?_) | (apply c_condP; rfl; exact bpx; all_goals intro hc) | ((first | apply s_gTP | apply s_gFP); rfl; exact bpx; all_goals intro hg) | (apply s_lalloc; rfl) | ((first | apply s_lbox); rfl; rfl; rfl) | (apply s_lstore; rfl; rfl; rfl; rfl; rfl) | (apply s_callB (hm := YC.m _ _); rfl; intro h3 o3 b3)
    · have := lv_less_len ia ib tb (by omega)
      rw [show cmpv a b = -1 by rw [cmpv, if_pos (by omega)]] at hq
      exact hq
    · have := lv_less_len ib ia ta (by omega)
      rw [show cmpv a b = 1 by rw [cmpv, if_neg (by omega), if_pos (by omega)]] at hq
      exact hq
theorem k101 {l : List UInt8} (hl : l.length ≤ 1099511627776) (hq : Q (.string (bs (sb (bv l)))) h) : YC Tryz.prog B0 101 [.string (bs l)] Q h := by
  refine enterF mix Tryz.func101 ok101 rfl (tm := [(0, _)]) (bx := []) rfl rfl fun hp => ?_
  rw [sb_bv] at hq
  repeat' first | (with_reducible first | exact SetAt.z | apply SetAt.s | apply s_end | exact Kept.nil) | refine qq (hk := ?_) | ((with_reducible first | apply Kept.cons | apply q_blky); rfl) | ((with_reducible apply Kept.skip); rfl) | refine ww (hk := ?_) | (apply c_condP; rfl; exact bpx; all_goals intro hc) | ((first | apply s_gTP | apply s_gFP); rfl; exact bpx; all_goals intro hg) | (apply s_lalloc; rfl) | ((first | apply s_lbox); rfl; rfl; rfl) | (apply s_lstore; rfl; rfl; rfl; rfl; rfl) | (apply s_callB (hm := YC.m _ _); rfl; intro h3 o3 b3)
  refine loopI (YC.m _ _) (fun n fr h' => ∃ i : Nat, n = l.length - i ∧ h' = h ∧ i ≤ l.length ∧ l.dropWhile (· == 0) = (l.drop i).dropWhile (· == 0) ∧ fr = ⟨[(0, .v (.string (bs l))), (3, .v (.int .i64 i))], []⟩) l.length ⟨0, by omega, rfl, by omega, rfl, rfl⟩ ?_
  rintro n fr h' ⟨i, rfl, rfl, hi, hd, rfl⟩
  by_cases hlt : i < l.length
  · have hcons : l.drop i = l.getD i 0 :: l.drop (i + 1) := by
      rw [List.drop_eq_getElem_cons hlt, List.getD_eq_getElem?_getD, List.getElem?_eq_getElem hlt]; rfl
    rw [hcons] at hd
    repeat' first | (with_reducible first | exact SetAt.z | apply SetAt.s | apply s_end | exact Kept.nil) | refine qq (hk := ?_) | ((with_reducible first | apply Kept.cons | apply q_blky); rfl) | ((with_reducible apply Kept.skip); rfl) | refine ww (hk := ?_) | (apply c_condP; rfl; exact bpx; all_goals intro hc) | ((first | apply s_gTP | apply s_gFP); rfl; exact bpx; all_goals intro hg) | (apply s_lalloc; rfl) | ((first | apply s_lbox); rfl; rfl; rfl) | (apply s_lstore; rfl; rfl; rfl; rfl; rfl) | (apply s_callB (hm := YC.m _ _); rfl; intro h3 o3 b3)
    · refine q_seql (m := l.length - (i + 1)) (by omega) ⟨i + 1, rfl, rfl, by omega, ?_, rfl⟩
      have hz : l.getD i 0 = 0 := UInt8.toNat_inj.mp (show (l.getD i 0).toNat = 0 by omega)
      rw [hd, hz, List.dropWhile_cons_of_pos (by rfl)]
    · have hz : l.getD i 0 ≠ 0 := fun e => hc (by rw [e]; rfl)
      rw [List.dropWhile_cons_of_neg (by simpa using hz)] at hd
      rw [hd, ← hcons] at hq
      exact hq
  · have : i = l.length := by omega
    subst this
    repeat' first | (with_reducible first | exact SetAt.z | apply SetAt.s | apply s_end | exact Kept.nil) | refine qq (hk := ?_) | ((with_reducible first | apply Kept.cons | apply q_blky); rfl) | ((with_reducible apply Kept.skip); rfl) | refine ww (hk := ?_) | (apply c_condP; rfl; exact bpx; all_goals intro hc) | ((first | apply s_gTP | apply s_gFP); rfl; exact bpx; all_goals intro hg) | (apply s_lalloc; rfl) | ((first | apply s_lbox); rfl; rfl; rfl) | (apply s_lstore; rfl; rfl; rfl; rfl; rfl) | (apply s_callB (hm := YC.m _ _); rfl; intro h3 o3 b3)
    rw [hd] at hq
    simpa [one] using hq
theorem sb_ge {n : Nat} (h : 0 < (sb n).length) : 256 ^ ((sb n).length - 1) ≤ n := by
  apply Classical.byContradiction
  intro hn
  have := sb_len (n := n) (k := (sb n).length - 1) (by omega)
  omega
theorem trim_of_ge {o : List Int} (hb : InB o) (h : 0 < o.length → B (o.length - 1) ≤ lv o) : Trim o := by
  refine Trim.of_getD fun hl hz => ?_
  have h1 := h hl
  have h2 := lv_last (V := o) (n := o.length - 1) (by omega)
  have h3 := lv_lt (hb.take (o.length - 1))
  rw [List.length_take, Nat.min_eq_left (by omega)] at h3
  rw [hz] at h2
  omega
theorem k105 {l : List UInt8} (hl0 : l.length ≤ 1099511627776) (hq : ∀ v h', Ext h h' → US .u32 h'.ob (li (bv l)) v → Q v h') : YC Tryz.prog B0 105 [.string (bs l)] Q h := by
  refine enterF mix Tryz.func105 ok105 rfl (tm := [(0, _)]) (bx := []) rfl rfl fun hp => ?_
  have hl : (sb (bv l)).length ≤ 1099511627776 := Nat.le_trans (sb_len (bv_lt l)) hl0
  have hge := sb_ge (n := bv l)
  have hbv := bv_sb (bv l)
  repeat' first | (with_reducible first | exact SetAt.z | apply SetAt.s | apply s_end | exact Kept.nil) | refine qq (hk := ?_) | ((with_reducible first | apply Kept.cons | apply q_blky); rfl) | ((with_reducible apply Kept.skip); rfl) | refine ww (hk := ?_) | (apply c_condP; rfl; exact bpx; all_goals intro hc) | ((first | apply s_gTP | apply s_gFP); rfl; exact bpx; all_goals intro hg) | (apply s_lalloc; rfl) | ((first | apply s_lbox); rfl; rfl; rfl) | (apply s_lstore; rfl; rfl; rfl; rfl; rfl) | (apply s_callB (hm := YC.m _ _); rfl; intro h3 o3 b3) | ((with_reducible refine YCi (f := 101) ?_); refine k101 hl0 ?_)
  generalize sb (bv l) = L at *
  refine s_mk rfl rfl (by omega) fun h1 n1 => ?_
  rw [reps_U] at n1
  generalize hm : ((L.length : Int) + 3) / 4 = m at *
  have hm0 : m.toNat = (L.length + 3) / 4 := by omega
  generalize m.toNat = N at *
  repeat' first | (with_reducible first | exact SetAt.z | apply SetAt.s | apply s_end | exact Kept.nil) | refine qq (hk := ?_) | ((with_reducible first | apply Kept.cons | apply q_blky); rfl) | ((with_reducible apply Kept.skip); rfl) | refine ww (hk := ?_) | (apply c_condP; rfl; exact bpx; all_goals intro hc) | ((first | apply s_gTP | apply s_gFP); rfl; exact bpx; all_goals intro hg) | (apply s_lalloc; rfl) | ((first | apply s_lbox); rfl; rfl; rfl) | (apply s_lstore; rfl; rfl; rfl; rfl; rfl) | (apply s_callB (hm := YC.m _ _); rfl; intro h3 o3 b3)
  refine loopI (YC.m _ _) (fun n fr h' => ∃ (i : Nat) (o : List Int), n = L.length - i ∧ i ≤ L.length ∧ Ext h h' ∧ UA .u32 h'.ob h.ob.length o ∧ InB o ∧ o.length = N ∧ lv o = bvl (L.reverse.take i) ∧
    fr = ⟨[(0, .v (.string (bs L))), (3, .v (.slice (some ⟨h.ob.length, 0, none⟩) N N)), (4, .v (.int .i64 i))], []⟩) L.length ⟨0, _, by omega, by omega, n1.ext, n1.at, InB.replicate _, by simp, by simp [lv_replicate, bvl], rfl⟩ ?_
  rintro n fr h' ⟨i, o, rfl, hi, he, ho, hb, hlen, hv, rfl⟩
  have hu := ho.all hlen.symm (Nat.le_refl _)
  by_cases hlt : i < L.length
  · have hs : (8 * ((i : Int) % 4)).toNat = 8 * (i % 4) := by omega
    have hj : ((i : Int) / 4).toNat = i / 4 := by omega
    have hold : o.getD (i / 4) 0 < 2 ^ (8 * (i % 4)) := by
      refine getD_lt hb (by omega) ?_
      rw [← pow256, hv]
      have := bvl_lt (L.reverse.take i)
      rw [List.length_take, List.length_reverse, Nat.min_eq_left hi] at this
      exact_mod_cast this
    have hold0 := (hb.getD (i / 4)).1
    have h8 := (L.getD (((L.length : Int) - 1 - i).toNat) 0).toNat_lt
    have hbits := bits4 (s := 8 * (i % 4)) (by omega) (x := ((L.getD (((L.length : Int) - 1 - i).toNat) 0).toNat : Int)) (by omega) (by omega) hold
    have hshl : 0 ≤ ((L.getD (((L.length : Int) - 1 - i).toNat) 0).toNat : Int) * 2 ^ (8 * ((i : Int) % 4)).toNat ∧ ((L.getD (((L.length : Int) - 1 - i).toNat) 0).toNat : Int) * 2 ^ (8 * ((i : Int) % 4)).toNat ≤ 4294967295 := by
      rw [hs]; omega
    repeat' first | (with_reducible first | exact SetAt.z | apply SetAt.s | apply s_end | exact Kept.nil) | refine qq (hk := ?_) | ((with_reducible first | apply Kept.cons | apply q_blky); rfl) | ((with_reducible apply Kept.skip); rfl) | (apply s_q; rfl; (first | ((with_reducible apply q_shlU); rfl; rfl; omega; exact hshl) | ((with_reducible apply q_or' (8 * (i % 4))); rfl; rfl; rw [hs]; rw [hj]; exact hold0; rw [hj]; exact hold; omega; rw [hj]; exact hbits.1; rfl))) | refine ww (hk := ?_) | (apply c_condP; rfl; exact bpx; all_goals intro hc) | ((first | apply s_gTP | apply s_gFP); rfl; exact bpx; all_goals intro hg) | (apply s_lalloc; rfl) | ((first | apply s_lbox); rfl; rfl; rfl) | (apply s_lstore; rfl; rfl; rfl; rfl; rfl) | (apply s_callB (hm := YC.m _ _); rfl; intro h3 o3 b3)
    refine s_stU rfl rfl (by have := he.bar; omega) ho (by omega) fun h2 s2 => ?_
    rw [hj, Nat.zero_add] at s2
    repeat' first | (with_reducible first | exact SetAt.z | apply SetAt.s | apply s_end | exact Kept.nil) | refine qq (hk := ?_) | ((with_reducible first | apply Kept.cons | apply q_blky); rfl) | ((with_reducible apply Kept.skip); rfl) | refine ww (hk := ?_) | (apply c_condP; rfl; exact bpx; all_goals intro hc) | ((first | apply s_gTP | apply s_gFP); rfl; exact bpx; all_goals intro hg) | (apply s_lalloc; rfl) | ((first | apply s_lbox); rfl; rfl; rfl) | (apply s_lstore; rfl; rfl; rfl; rfl; rfl) | (apply s_callB (hm := YC.m _ _); rfl; intro h3 o3 b3)
    refine q_seql (m := L.length - (i + 1)) (by omega) ⟨i + 1, _, rfl, by omega, s2.ext he (Nat.le_refl _), s2.at ho, hb.set _ (by omega) hbits.1, by simpa using hlen, ?_, rfl⟩
    rw [lv_set (by omega), hv, bvl_take _ _ (by simpa using hlt), rev_getD _ _ hlt, Int.natCast_add, Int.natCast_mul, pow256]
    rw [show ((L.length : Int) - 1 - i).toNat = L.length - 1 - i by omega]
    grind
  · have : i = L.length := by omega
    subst this
    repeat' first | (with_reducible first | exact SetAt.z | apply SetAt.s | apply s_end | exact Kept.nil) | refine qq (hk := ?_) | ((with_reducible first | apply Kept.cons | apply q_blky); rfl) | ((with_reducible apply Kept.skip); rfl) | refine ww (hk := ?_) | (apply c_condP; rfl; exact bpx; all_goals intro hc) | ((first | apply s_gTP | apply s_gFP); rfl; exact bpx; all_goals intro hg) | (apply s_lalloc; rfl) | ((first | apply s_lbox); rfl; rfl; rfl) | (apply s_lstore; rfl; rfl; rfl; rfl; rfl) | (apply s_callB (hm := YC.m _ _); rfl; intro h3 o3 b3)
    refine hq _ _ he ?_
    rw [List.take_of_length_le (by simp)] at hv
    have hv2 : lv o = (bv l : Nat) := by rw [hv, ← hbv]; rfl
    have ht : Trim o := trim_of_ge hb fun hl1 => by
      have h1 := hge (by omega)
      rw [hv2]
      have h2 : (256 : Nat) ^ (4 * (o.length - 1)) ≤ 256 ^ (L.length - 1) := Nat.pow_le_pow_right (by decide) (by omega)
      have h3 : ((256 ^ (4 * (o.length - 1)) : Nat) : Int) = B (o.length - 1) := by
        rw [pow256]
        rw [show 4 * (o.length - 1) / 4 = o.length - 1 by omega, show 8 * (4 * (o.length - 1) % 4) = 0 by omega]
        simp
      rw [← h3]
      omega
    have e := li_of hb ht
    rw [hv2, Int.toNat_natCast] at e
    rw [e]
    exact hu
end
end Am
end Go.Proofs.YtfhlblclcdhbiaaGreatDoor
