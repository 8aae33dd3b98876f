/- compare, division by one limb, shifts. -/
import Derived.Test.YtfhlblclcdhbiaaGreatDoorK2
namespace Go.Proofs.YtfhlblclcdhbiaaGreatDoor
open Go
set_option linter.unusedVariables false
set_option linter.unusedSimpArgs false
namespace Am
section
variable {B0 : Nat} {Q : Value → AH → Prop} {h : AH}
def cmpv (a b : Nat) : Int := if a < b then -1 else if b < a then 1 else 0
theorem lv_less {l m : List Int} (hl : InB l) (hm : InB m) (he : l.length = m.length) {k : Nat} (hk : k < l.length) (hd : l.drop (k + 1) = m.drop (k + 1)) (hlt : l.getD k 0 < m.getD k 0) : lv l < lv m := by
  have h1 := lv_split l k (by omega)
  have h2 := lv_split m k (by omega)
  have h3 := lv_drop_succ l k hk
  have h4 := lv_drop_succ m k (by omega)
  have h5 := lv_lt (hl.take k)
  have h6 := lv_nonneg (hm.take k)
  rw [List.length_take, Nat.min_eq_left (by omega)] at h5
  rw [hd] at h3
  have h7 : B k * (lv (l.drop k) + 1) ≤ B k * lv (m.drop k) := Int.mul_le_mul_of_nonneg_left (by omega) (by have := B_pos k; omega)
  rw [Int.mul_add] at h7
  omega
theorem lv_less_len {l m : List Int} (hl : InB l) (hm : InB m) (hT : Trim m) (he : l.length < m.length) : lv l < lv m := by
  have h1 := lv_lt hl
  have h2 := hT.ge hm (by omega)
  have h3 := B_mono (show l.length ≤ m.length - 1 by omega)
  omega
theorem k141 {a b : Nat} {v w : Value} (ha : (li a).length ≤ 1099511627776) (hb : (li b).length ≤ 1099511627776) (hv : US .u32 h.ob (li a) v) (hw : US .u32 h.ob (li b) w) (hq : Q (.int .i64 (cmpv a b)) h) : YC Tryz.prog B0 141 [v, w] Q h := by
  refine enterF mix Tryz.func141 ok141 rfl (tm := [(0, _), (1, _)]) (bx := []) rfl rfl fun hp => ?_
  have ia := li_in a
  have ib := li_in b
  have ta := li_trim a
  have tb := li_trim b
  have va := lv_li a
  have vb := lv_li b
  generalize li a = l at *
  generalize li b = m at *
  by_cases hn : l.length = m.length
  · repeat' first | (with_reducible first | exact SetAt.z | apply SetAt.s | apply s_end | exact Kept.nil) | refine qq (hk := ?_) | ((with_reducible first | apply Kept.cons | apply q_blky); rfl) | ((with_reducible apply Kept.skip); rfl) | refine ww (hk := ?_) | (apply c_condP; rfl; exact bpx; all_goals intro hc) | ((first | apply s_gTP | apply s_gFP); rfl; exact bpx; all_goals intro hg) | (apply s_lalloc; rfl) | ((first | apply s_lbox); rfl; rfl; rfl) | (apply s_lstore; rfl; rfl; rfl; rfl; rfl) | (apply s_callB (hm := YC.m _ _); rfl; intro h3 o3 b3)
    refine loopI (YC.m _ _) (fun n fr h' => h' = h ∧ n ≤ l.length ∧ l.drop n = m.drop n ∧ fr = ⟨[(0, .v v), (1, .v w), (5, .v (.int .i64 ((n : Int) - 1)))], []⟩) l.length ⟨rfl, Nat.le_refl _, by rw [List.drop_length, hn, List.drop_length], rfl⟩ ?_
    rintro n fr h' ⟨rfl, hle, hd, rfl⟩
    by_cases h0 : n = 0
    · subst h0
      repeat' first | (with_reducible first | exact SetAt.z | apply SetAt.s | apply s_end | exact Kept.nil) | refine qq (hk := ?_) | ((with_reducible first | apply Kept.cons | apply q_blky); rfl) | ((with_reducible apply Kept.skip); rfl) | refine ww (hk := ?_) | (apply c_condP; rfl; exact bpx; all_goals intro hc) | ((first | apply s_gTP | apply s_gFP); rfl; exact bpx; all_goals intro hg) | (apply s_lalloc; rfl) | ((first | apply s_lbox); rfl; rfl; rfl) | (apply s_lstore; rfl; rfl; rfl; rfl; rfl) | (apply s_callB (hm := YC.m _ _); rfl; intro h3 o3 b3)
      have e : l = m := by simpa using hd
      subst e
      rwa [show cmpv a b = 0 by rw [cmpv, if_neg (by omega), if_neg (by omega)]] at hq
    · have ex : ((n : Int) - 1).toNat = n - 1 := by omega
      have en : n - 1 + 1 = n := by omega
      repeat' first | (with_reducible first | exact SetAt.z | apply SetAt.s | apply s_end | exact Kept.nil) | refine qq (hk := ?_) | ((with_reducible first | apply Kept.cons | apply q_blky); rfl) | ((with_reducible apply Kept.skip); rfl) | refine ww (hk := ?_) | (apply c_condP; rfl; exact bpx; all_goals intro hc) | ((first | apply s_gTP | apply s_gFP); rfl; exact bpx; all_goals intro hg) | (apply s_lalloc; rfl) | ((first | apply s_lbox); rfl; rfl; rfl) | (apply s_lstore; rfl; rfl; rfl; rfl; rfl) | (apply s_callB (hm := YC.m _ _); rfl; intro h3 o3 b3)
      · rename_i hne
        rw [ex] at hc
        have := lv_less ia ib hn (k := n - 1) (by omega) (by rw [en]; exact hd) hc
        rwa [show cmpv a b = -1 by rw [cmpv, if_pos (by omega)]] at hq
      · rename_i hne
        rw [ex] at hc hne
        have := lv_less ib ia hn.symm (k := n - 1) (by omega) (by rw [en]; exact hd.symm) (by omega)
        rwa [show cmpv a b = 1 by rw [cmpv, if_neg (by omega), if_pos (by omega)]] at hq
      · refine q_seql (m := n - 1) (by omega) ⟨rfl, by omega, ?_, by rw [Int.ofNat_sub (by omega)]; rfl⟩
        rw [ex] at hc
        rw [List.drop_eq_getElem_cons (by omega), List.drop_eq_getElem_cons (l := m) (by omega), en, hd]
        congr 1
        have h1 := getD_some (l := l) (j := n - 1) (by omega)
        have h2 := getD_some (l := m) (j := n - 1) (by omega)
        rw [List.getElem?_eq_getElem (by omega)] at h1 h2
        rw [Option.some.inj h1, Option.some.inj h2]
        omega
  · repeat' first | (with_reducible first | exact SetAt.z | apply SetAt.s | apply s_end | exact Kept.nil) | refine qq (hk := ?_) | ((with_reducible first | apply Kept.cons | apply q_blky); rfl) | ((with_reducible apply Kept.skip); rfl) | refine ww (hk := ?_) | (apply c_condP; rfl; exact bpx; all_goals intro hc) | ((first | apply s_gTP | apply s_gFP); rfl; exact bpx; all_goals intro hg) | (apply s_lalloc; rfl) | ((first | apply s_lbox); rfl; rfl; rfl) | (apply s_lstore; rfl; rfl; rfl; rfl; rfl) | (apply s_callB (hm := YC.m _ _); rfl; intro h3 o3 b3) | ((with_reducible refine YCi (f := 121) ?_); refine k121 ?_)
    rcases Nat.lt_or_ge l.length m.length with hlt | hge
    · have := lv_less_len ia ib tb hlt
      rw [show cmpv a b = -1 by rw [cmpv, if_pos (by omega)]] at hq
      rwa [if_pos (by omega)]
    · have := lv_less_len ib ia ta (by omega)
      rw [show cmpv a b = 1 by rw [cmpv, if_neg (by omega), if_pos (by omega)]] at hq
      rwa [if_neg (by omega), if_pos (by omega)]
theorem ediv_mul_le' {a b : Int} (hb : 0 < b) : b * (a / b) + a % b = a := by rw [Int.add_comm]; exact Int.emod_add_mul_ediv a b
theorem drop_set {o : List Int} {i : Nat} (hi : i < o.length) (x : Int) : (o.set i x).drop i = x :: o.drop (i + 1) := by
  rw [List.drop_eq_getElem_cons (by simpa using hi), List.getElem_set_self, List.drop_set_of_lt (by omega)]
theorem k142 {l : List Int} {v : Value} {d : Int} (hb : InB l) (hl : l.length ≤ 1099511627776) (hu : US .u32 h.ob l v) (hd : 0 < d ∧ d < 4294967296)
    (hq : ∀ v' h', Ext h h' → US .u32 h'.ob (li (lv l / d).toNat) v' → Q (.tuple #[v', .int .u32 (lv l % d)]) h') : YC Tryz.prog B0 142 [v, .int .u32 d] Q h := by
  refine enterF mix Tryz.func142 ok142 rfl (tm := [(0, _), (1, _)]) (bx := []) rfl rfl fun hp => ?_
  repeat' first | (with_reducible first | exact SetAt.z | apply SetAt.s | apply s_end | exact Kept.nil) | refine qq (hk := ?_) | ((with_reducible first | apply Kept.cons | apply q_blky); rfl) | ((with_reducible apply Kept.skip); rfl) | refine ww (hk := ?_) | (apply c_condP; rfl; exact bpx; all_goals intro hc) | ((first | apply s_gTP | apply s_gFP); rfl; exact bpx; all_goals intro hg) | (apply s_lalloc; rfl) | ((first | apply s_lbox); rfl; rfl; rfl) | (apply s_lstore; rfl; rfl; rfl; rfl; rfl) | (apply s_callB (hm := YC.m _ _); rfl; intro h3 o3 b3)
  refine s_mk rfl rfl (by omega) fun h1 n1 => ?_
  rw [reps_U] at n1
  rw [show ((l.length : Int)).toNat = l.length by omega] at n1 ⊢
  have hu1 := hu.ext n1.ext
  repeat' first | (with_reducible first | exact SetAt.z | apply SetAt.s | apply s_end | exact Kept.nil) | refine qq (hk := ?_) | ((with_reducible first | apply Kept.cons | apply q_blky); rfl) | ((with_reducible apply Kept.skip); rfl) | refine ww (hk := ?_) | (apply c_condP; rfl; exact bpx; all_goals intro hc) | ((first | apply s_gTP | apply s_gFP); rfl; exact bpx; all_goals intro hg) | (apply s_lalloc; rfl) | ((first | apply s_lbox); rfl; rfl; rfl) | (apply s_lstore; rfl; rfl; rfl; rfl; rfl) | (apply s_callB (hm := YC.m _ _); rfl; intro h3 o3 b3)
  refine loopI (YC.m _ _) (fun n fr h' => ∃ (o : List Int) (r : Int), n ≤ l.length ∧ Ext h h' ∧ UA .u32 h'.ob h.ob.length o ∧ InB o ∧ o.length = l.length ∧ 0 ≤ r ∧ r < d ∧ lv (l.drop n) = d * lv (o.drop n) + r ∧
    fr = ⟨[(0, .v v), (1, .v (.int .u32 d)), (6, .v (.slice (some ⟨h.ob.length, 0, none⟩) l.length l.length)), (7, .v (.int .u64 r)), (8, .v (.int .i64 ((n : Int) - 1)))], []⟩) l.length ⟨_, 0, by omega, n1.ext, n1.at, InB.replicate _, by simp, by omega, by omega, by simp [lv], by simp⟩ ?_
  rintro n fr h' ⟨o, r, hn, he, ho, hob, hlen, hr0, hr1, hv, rfl⟩
  have hu2 := hu.ext he
  have u2 := ho.all hlen.symm (Nat.le_refl _)
  by_cases h0 : 0 < n
  · have ex : ((n : Int) - 1).toNat = n - 1 := by omega
    have hx := hb.getD (n - 1)
    have hx' := hx
    rw [← ex] at hx'
    repeat' first | (with_reducible first | exact SetAt.z | apply SetAt.s | apply s_end | exact Kept.nil) | refine qq (hk := ?_) | ((with_reducible first | apply Kept.cons | apply q_blky); rfl) | ((with_reducible apply Kept.skip); rfl) | refine ww (hk := ?_) | (apply c_condP; rfl; exact bpx; all_goals intro hc) | ((first | apply s_gTP | apply s_gFP); rfl; exact bpx; all_goals intro hg) | (apply s_lalloc; rfl) | ((first | apply s_lbox); rfl; rfl; rfl) | (apply s_lstore; rfl; rfl; rfl; rfl; rfl) | (apply s_callB (hm := YC.m _ _); rfl; intro h3 o3 b3)
    have hq0 : 0 ≤ (r * 4294967296 + l.getD (n - 1) 0) / d := Int.ediv_nonneg (by omega) (by omega)
    have hq1 : (r * 4294967296 + l.getD (n - 1) 0) / d < 4294967296 := by
      refine Int.ediv_lt_of_lt_mul hd.1 ?_
      have : (r + 1) * 4294967296 ≤ d * 4294967296 := Int.mul_le_mul_of_nonneg_right (by omega) (by decide)
      omega
    refine s_stU rfl rfl (by have := he.bar; omega) ho (by omega) fun h2 s2 => ?_
    rw [show 0 + ((n : Int) - 1).toNat = n - 1 by omega, ex, Int.emod_eq_of_lt hq0 hq1] at s2
    repeat' first | (with_reducible first | exact SetAt.z | apply SetAt.s | apply s_end | exact Kept.nil) | refine qq (hk := ?_) | ((with_reducible first | apply Kept.cons | apply q_blky); rfl) | ((with_reducible apply Kept.skip); rfl) | refine ww (hk := ?_) | (apply c_condP; rfl; exact bpx; all_goals intro hc) | ((first | apply s_gTP | apply s_gFP); rfl; exact bpx; all_goals intro hg) | (apply s_lalloc; rfl) | ((first | apply s_lbox); rfl; rfl; rfl) | (apply s_lstore; rfl; rfl; rfl; rfl; rfl) | (apply s_callB (hm := YC.m _ _); rfl; intro h3 o3 b3)
    have hr2 := Int.emod_nonneg (r * 4294967296 + l.getD (n - 1) 0) (b := d) (by omega)
    have hr3 := Int.emod_lt_of_pos (r * 4294967296 + l.getD (n - 1) 0) hd.1
    have hdm := ediv_mul_le' (a := r * 4294967296 + l.getD (n - 1) 0) hd.1
    refine q_seql (m := n - 1) (by omega) ⟨o.set (n - 1) ((r * 4294967296 + l.getD (n - 1) 0) / d), (r * 4294967296 + l.getD (n - 1) 0) % d, by omega, s2.ext he (Nat.le_refl _), s2.at ho, hob.set _ hq0 hq1, by simpa using hlen, hr2, hr3, ?_, by rw [ex, Int.ofNat_sub (by omega)]; rfl⟩
    rw [drop_set (by omega), lv, lv_drop_succ l (n - 1) (by omega), show n - 1 + 1 = n by omega, hv]
    generalize (r * 4294967296 + l.getD (n - 1) 0) / d = q at *
    grind
  · have : n = 0 := by omega
    subst this
    repeat' first | (with_reducible first | exact SetAt.z | apply SetAt.s | apply s_end | exact Kept.nil) | refine qq (hk := ?_) | ((with_reducible first | apply Kept.cons | apply q_blky); rfl) | ((with_reducible apply Kept.skip); rfl) | refine ww (hk := ?_) | (apply c_condP; rfl; exact bpx; all_goals intro hc) | ((first | apply s_gTP | apply s_gFP); rfl; exact bpx; all_goals intro hg) | (apply s_lalloc; rfl) | ((first | apply s_lbox); rfl; rfl; rfl) | (apply s_lstore; rfl; rfl; rfl; rfl; rfl) | (apply s_callB (hm := YC.m _ _); rfl; intro h3 o3 b3)
    refine k134 hob (by omega) u2 fun v' hv' => ?_
    repeat' first | (with_reducible first | exact SetAt.z | apply SetAt.s | apply s_end | exact Kept.nil) | refine qq (hk := ?_) | ((with_reducible first | apply Kept.cons | apply q_blky); rfl) | ((with_reducible apply Kept.skip); rfl) | refine ww (hk := ?_) | (apply c_condP; rfl; exact bpx; all_goals intro hc) | ((first | apply s_gTP | apply s_gFP); rfl; exact bpx; all_goals intro hg) | (apply s_lalloc; rfl) | ((first | apply s_lbox); rfl; rfl; rfl) | (apply s_lstore; rfl; rfl; rfl; rfl; rfl) | (apply s_callB (hm := YC.m _ _); rfl; intro h3 o3 b3)
    simp only [List.drop_zero] at hv
    have e1 : lv l / d = lv o := by rw [hv, Int.add_comm, Int.add_mul_ediv_left _ _ (by omega), Int.ediv_eq_zero_of_lt hr0 hr1, Int.zero_add]
    have e2 : lv l % d = r := by rw [hv, Int.add_comm, Int.add_mul_emod_self_left, Int.emod_eq_of_lt hr0 hr1]
    rw [e1, e2] at hq
    exact hq _ _ he hv'
theorem shl_bound {u : Int} {s : Nat} (h0 : 0 ≤ u) (h1 : u < 4294967296) (hs : s < 32) : 0 ≤ u * 2 ^ s ∧ u * 2 ^ s < 9223372036854775808 := by
  have h2 : (0 : Int) ≤ 2 ^ s := Int.le_of_lt (Int.pow_pos (by decide))
  have h3 : (2 : Int) ^ s ≤ 2 ^ 31 := by exact_mod_cast Nat.pow_le_pow_right (n := 2) (by decide) (show s ≤ 31 by omega)
  have h4 : (2 : Int) ^ 31 = 2147483648 := by decide
  refine ⟨Int.mul_nonneg h0 h2, ?_⟩
  have h5 : u * 2 ^ s ≤ u * 2 ^ 31 := Int.mul_le_mul_of_nonneg_left h3 h0
  omega
theorem shl_low {u : Int} {s : Nat} (hs : s < 32) : u * 2 ^ s % 4294967296 = u % 2 ^ (32 - s) * 2 ^ s := by
  have h4 : (4294967296 : Int) = 2 ^ (32 - s) * 2 ^ s := by rw [← Int.pow_add, show 32 - s + s = 32 by omega]; rfl
  rw [h4, Int.mul_comm u, Int.mul_comm (2 ^ (32 - s)), Int.mul_emod_mul_of_pos _ _ (Int.pow_pos (by decide)), Int.mul_comm]
theorem k144 {l : List Int} {v : Value} {s N : Nat} (hb : InB l) (hl : l.length ≤ N) (hN : N ≤ 1099511627776) (hu : US .u32 h.ob l v) (hs : s < 32) (hfit : lv l * 2 ^ s < B N)
    (hq : ∀ o h' out, h.ob.length ≤ o → Ext h h' → UA .u32 h'.ob o out → InB out → out.length = N → lv out = lv l * 2 ^ s → Q (.slice (some ⟨o, 0, none⟩) N N) h') : YC Tryz.prog B0 144 [v, .int .u64 s, .int .i64 N] Q h := by
  refine enterF mix Tryz.func144 ok144 rfl (tm := [(0, _), (1, _), (2, _)]) (bx := []) rfl rfl fun hp => ?_
  repeat' first | (with_reducible first | exact SetAt.z | apply SetAt.s | apply s_end | exact Kept.nil) | refine qq (hk := ?_) | ((with_reducible first | apply Kept.cons | apply q_blky); rfl) | ((with_reducible apply Kept.skip); rfl) | refine ww (hk := ?_) | (apply c_condP; rfl; exact bpx; all_goals intro hc) | ((first | apply s_gTP | apply s_gFP); rfl; exact bpx; all_goals intro hg) | (apply s_lalloc; rfl) | ((first | apply s_lbox); rfl; rfl; rfl) | (apply s_lstore; rfl; rfl; rfl; rfl; rfl) | (apply s_callB (hm := YC.m _ _); rfl; intro h3 o3 b3)
  refine s_mk rfl rfl (by omega) fun h1 n1 => ?_
  rw [reps_U] at n1
  rw [show ((N : Int)).toNat = N by omega] at n1 ⊢
  have hu1 := hu.ext n1.ext
  repeat' first | (with_reducible first | exact SetAt.z | apply SetAt.s | apply s_end | exact Kept.nil) | refine qq (hk := ?_) | ((with_reducible first | apply Kept.cons | apply q_blky); rfl) | ((with_reducible apply Kept.skip); rfl) | refine ww (hk := ?_) | (apply c_condP; rfl; exact bpx; all_goals intro hc) | ((first | apply s_gTP | apply s_gFP); rfl; exact bpx; all_goals intro hg) | (apply s_lalloc; rfl) | ((first | apply s_lbox); rfl; rfl; rfl) | (apply s_lstore; rfl; rfl; rfl; rfl; rfl) | (apply s_callB (hm := YC.m _ _); rfl; intro h3 o3 b3)
  refine loopI (YC.m _ _) (fun n fr h' => ∃ (i : Nat) (o : List Int), n = l.length - i ∧ i ≤ l.length ∧ Ext h h' ∧ UA .u32 h'.ob h.ob.length o ∧ InB o ∧ o.length = N ∧ lv o = lv (l.take i) * 2 ^ s ∧
    fr = ⟨[(1, .v (.int .u64 s)), (2, .v (.int .i64 N)), (7, .v (.slice (some ⟨h.ob.length, 0, none⟩) N N)), (13, .v v), (14, .v (.int .i64 l.length)), (15, .v (.int .i64 i))], []⟩) l.length ⟨0, _, by omega, by omega, n1.ext, n1.at, InB.replicate _, by simp, by simp [lv, lv_replicate], rfl⟩ ?_
  rintro n fr h' ⟨i, o, rfl, hi, he, ho, hob, hlen, hv, rfl⟩
  have hu2 := hu.ext he
  have u2 := ho.all hlen.symm (Nat.le_refl _)
  by_cases hlt : i < l.length
  · have hx := hb.getD i
    have h2s : (0 : Int) < 2 ^ s := Int.pow_pos (by decide)
    have htk := lv_lt (hb.take i)
    rw [List.length_take, Nat.min_eq_left hi] at htk
    have hob0 := hob.getD i
    have hvlt : lv o < B i * 2 ^ s := by rw [hv]; exact Int.mul_lt_mul_of_pos_right htk h2s
    have hold : o.getD i 0 < 2 ^ s := getD_lt hob (by omega) hvlt
    obtain ⟨hm0, hm1⟩ := shl_bound hx.1 hx.2 hs
    have hlow := shl_low (u := l.getD i 0) hs
    have hbb0 : 0 ≤ l.getD i 0 % 2 ^ (32 - s) := Int.emod_nonneg _ (by have : (0 : Int) < 2 ^ (32 - s) := Int.pow_pos (by decide); omega)
    have hbb1 : l.getD i 0 % 2 ^ (32 - s) * 2 ^ s + o.getD i 0 < 4294967296 := by
      have h3 : l.getD i 0 % 2 ^ (32 - s) < 2 ^ (32 - s) := Int.emod_lt_of_pos _ (Int.pow_pos (by decide))
      have h4 : (4294967296 : Int) = 2 ^ (32 - s) * 2 ^ s := by rw [← Int.pow_add, show 32 - s + s = 32 by omega]; rfl
      have h5 : (l.getD i 0 % 2 ^ (32 - s) + 1) * 2 ^ s ≤ 2 ^ (32 - s) * 2 ^ s := Int.mul_le_mul_of_nonneg_right (by omega) (by omega)
      rw [Int.add_mul] at h5
      omega
    repeat' first | (with_reducible first | exact SetAt.z | apply SetAt.s | apply s_end | exact Kept.nil) | refine qq (hk := ?_) | ((with_reducible first | apply Kept.cons | apply q_blky); rfl) | ((with_reducible apply Kept.skip); rfl) | (apply s_q; rfl; (first | ((with_reducible apply q_or' s); rfl; rfl; exact hlow; exact hob0.1; exact hold; exact hbb0; exact hbb1; rfl))) | refine ww (hk := ?_) | (apply c_condP; rfl; exact bpx; all_goals intro hc) | ((first | apply s_gTP | apply s_gFP); rfl; exact bpx; all_goals intro hg) | (apply s_lalloc; rfl) | ((first | apply s_lbox); rfl; rfl; rfl) | (apply s_lstore; rfl; rfl; rfl; rfl; rfl) | (apply s_callB (hm := YC.m _ _); rfl; intro h3 o3 b3)
    refine s_stW i (l.getD i 0 % 2 ^ (32 - s) * 2 ^ s + o.getD i 0) rfl rfl (by have := he.bar; omega) ho (by omega) rfl (by omega) fun h2 s2 => ?_
    have he2 := s2.ext he (Nat.le_refl _)
    have hu3 := hu.ext he2
    have ho2 := s2.at ho
    have hob2 := hob.set i (v := l.getD i 0 % 2 ^ (32 - s) * 2 ^ s + o.getD i 0) (by rw [← hlow]; have := Int.emod_nonneg (l.getD i 0 * 2 ^ s) (b := 4294967296) (by decide); omega) hbb1
    have hlen2 : (o.set i (l.getD i 0 % 2 ^ (32 - s) * 2 ^ s + o.getD i 0)).length = N := by simpa using hlen
    have hv2 : lv (o.set i (l.getD i 0 % 2 ^ (32 - s) * 2 ^ s + o.getD i 0)) = lv o + B i * (l.getD i 0 * 2 ^ s % 4294967296) := by
      rw [lv_set (by omega), hlow]; congr 2; omega
    have hdm := Int.emod_add_mul_ediv (l.getD i 0 * 2 ^ s) 4294967296
    have hts : lv (l.take (i + 1)) * 2 ^ s = lv o + B i * (l.getD i 0 * 2 ^ s) := by
      rw [lv_take_succ l i hlt, hv]; grind
    have hcar : 0 ≤ l.getD i 0 * 2 ^ s / 4294967296 ∧ l.getD i 0 * 2 ^ s / 4294967296 < 4294967296 := ⟨by omega, by omega⟩
    generalize hO : o.set i (l.getD i 0 % 2 ^ (32 - s) * 2 ^ s + o.getD i 0) = o2 at *
    have u3 := UA.all (k := .u32) ho2 hlen2.symm (Nat.le_refl _)
    by_cases hin : i + 1 < N
    · have hz : o2.getD (i + 1) 0 = 0 := by
        subst hO
        rw [List.getD_eq_getElem?_getD, List.getElem?_set_ne (by omega), ← List.getD_eq_getElem?_getD]
        have h3 : (2 : Int) ^ s ≤ 4294967296 := by
          have : (2 : Int) ^ s ≤ 2 ^ 32 := by exact_mod_cast Nat.pow_le_pow_right (n := 2) (by decide) (show s ≤ 32 by omega)
          exact this
        have h4 : B i * 2 ^ s ≤ B i * 4294967296 := Int.mul_le_mul_of_nonneg_left h3 (by have := B_pos i; omega)
        have h5 : o.getD (i + 1) 0 < 1 := getD_lt hob (by omega) (by rw [B_succ]; omega)
        have := (hob.getD (i + 1)).1
        omega
      have hz' : o2.getD ((i : Int) + 1).toNat 0 = 0 := by rw [show ((i : Int) + 1).toNat = i + 1 by omega]; exact hz
      repeat' first | (with_reducible first | exact SetAt.z | apply SetAt.s | apply s_end | exact Kept.nil) | refine qq (hk := ?_) | ((with_reducible first | apply Kept.cons | apply q_blky); rfl) | ((with_reducible apply Kept.skip); rfl) | (apply s_q; rfl; (first | ((with_reducible apply q_orz); rfl; rfl; (first | rfl | exact hz'); (simp only [IntKind.bits]; omega); rfl))) | refine ww (hk := ?_) | (apply c_condP; rfl; exact bpx; all_goals intro hc) | ((first | apply s_gTP | apply s_gFP); rfl; exact bpx; all_goals intro hg) | (apply s_lalloc; rfl) | ((first | apply s_lbox); rfl; rfl; rfl) | (apply s_lstore; rfl; rfl; rfl; rfl; rfl) | (apply s_callB (hm := YC.m _ _); rfl; intro h3 o3 b3)
      refine s_stW (i + 1) (l.getD i 0 * 2 ^ s / 4294967296) rfl rfl (by have := he2.bar; omega) ho2 (by omega) (by omega) (by omega) fun h3 s3 => ?_
      repeat' first | (with_reducible first | exact SetAt.z | apply SetAt.s | apply s_end | exact Kept.nil) | refine qq (hk := ?_) | ((with_reducible first | apply Kept.cons | apply q_blky); rfl) | ((with_reducible apply Kept.skip); rfl) | refine ww (hk := ?_) | (apply c_condP; rfl; exact bpx; all_goals intro hc) | ((first | apply s_gTP | apply s_gFP); rfl; exact bpx; all_goals intro hg) | (apply s_lalloc; rfl) | ((first | apply s_lbox); rfl; rfl; rfl) | (apply s_lstore; rfl; rfl; rfl; rfl; rfl) | (apply s_callB (hm := YC.m _ _); rfl; intro h3 o3 b3)
      refine q_seql (m := l.length - (i + 1)) (by omega) ⟨i + 1, _, rfl, by omega, s3.ext he2 (Nat.le_refl _), s3.at ho2, hob2.set _ hcar.1 hcar.2, by simpa using hlen2, ?_, rfl⟩
      rw [lv_set (by omega), hz, hv2, hts, B_succ]
      grind
    · have h4 : l.getD i 0 * 2 ^ s / 4294967296 = 0 := by
        have h5 := lv_take_succ l i hlt
        have h6 := lv_split l (i + 1) (by omega)
        have h7 := lv_nonneg (hb.drop (i + 1))
        have h8 : 0 ≤ B (i + 1) * lv (l.drop (i + 1)) := Int.mul_nonneg (by have := B_pos (i + 1); omega) h7
        have h9 : lv (l.take (i + 1)) * 2 ^ s ≤ lv l * 2 ^ s := Int.mul_le_mul_of_nonneg_right (by omega) (by omega)
        have h10 := lv_nonneg hob
        rw [show N = i + 1 by omega, B_succ] at hfit
        have h11 : B i * (l.getD i 0 * 2 ^ s) < B i * 4294967296 := by omega
        have h12 := Int.lt_of_mul_lt_mul_left h11 (by have := B_pos i; omega)
        omega
      repeat' first | (with_reducible first | exact SetAt.z | apply SetAt.s | apply s_end | exact Kept.nil) | refine qq (hk := ?_) | ((with_reducible first | apply Kept.cons | apply q_blky); rfl) | ((with_reducible apply Kept.skip); rfl) | refine ww (hk := ?_) | (apply c_condP; rfl; exact bpx; all_goals intro hc) | ((first | apply s_gTP | apply s_gFP); rfl; exact bpx; all_goals intro hg) | (apply s_lalloc; rfl) | ((first | apply s_lbox); rfl; rfl; rfl) | (apply s_lstore; rfl; rfl; rfl; rfl; rfl) | (apply s_callB (hm := YC.m _ _); rfl; intro h3 o3 b3)
      refine q_seql (m := l.length - (i + 1)) (by omega) ⟨i + 1, _, rfl, by omega, he2, ho2, hob2, hlen2, ?_, rfl⟩
      rw [hv2, hts]
      congr 2
      omega
  · have : i = l.length := by omega
    subst this
    repeat' first | (with_reducible first | exact SetAt.z | apply SetAt.s | apply s_end | exact Kept.nil) | refine qq (hk := ?_) | ((with_reducible first | apply Kept.cons | apply q_blky); rfl) | ((with_reducible apply Kept.skip); rfl) | refine ww (hk := ?_) | (apply c_condP; rfl; exact bpx; all_goals intro hc) | ((first | apply s_gTP | apply s_gFP); rfl; exact bpx; all_goals intro hg) | (apply s_lalloc; rfl) | ((first | apply s_lbox); rfl; rfl; rfl) | (apply s_lstore; rfl; rfl; rfl; rfl; rfl) | (apply s_callB (hm := YC.m _ _); rfl; intro h3 o3 b3)
    exact hq _ _ _ (Nat.le_refl _) he ho hob hlen (by rw [hv, List.take_length])
end
end Am
end Go.Proofs.YtfhlblclcdhbiaaGreatDoor
