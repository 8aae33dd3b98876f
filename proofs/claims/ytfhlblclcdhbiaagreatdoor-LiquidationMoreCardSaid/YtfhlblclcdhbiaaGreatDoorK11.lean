/- The reference's long division. -/
import Derived.Test.YtfhlblclcdhbiaaGreatDoorK10
namespace Go.Proofs.YtfhlblclcdhbiaaGreatDoor
open Go
set_option linter.unusedVariables false
set_option linter.unusedSimpArgs false
namespace Am
section
variable {B0 : Nat} {Q : Value → AH → Prop} {h : AH}
theorem k163 {l : List Int} {v : Value} {s : Nat} (hb : InB l) (hN : l.length ≤ 549755813888) (hu : US .u32 h.ob l v) (hs : s < 32)
    (hq : ∀ o h' out, h.ob.length ≤ o → Ext h h' → UA .u32 h'.ob o out → InB out → out.length = l.length + 1 → lv out = lv l * 2 ^ s → Q (.slice (some ⟨o, 0, none⟩) (l.length + 1) (l.length + 1)) h') : YC Tryz.prog B0 163 [v, .int .u64 s] Q h := by
  refine enterF mix Tryz.func163 ok163 rfl (tm := [(0, _), (1, _)]) (bx := []) rfl rfl fun hp => ?_
  repeat' first | (with_reducible first | exact SetAt.z | apply SetAt.s | apply s_end | exact Kept.nil) | refine qq (hk := ?_) | ((with_reducible first | apply Kept.cons | apply q_blky); rfl) | ((with_reducible apply Kept.skip); rfl) | refine ww (hk := ?_) | (apply c_condP; rfl; exact bpx; all_goals intro hc) | ((first | apply s_gTP | apply s_gFP); rfl; exact bpx; all_goals intro hg) | (apply s_lalloc; rfl) | ((first | apply s_lbox); rfl; rfl; rfl) | (apply s_lstore; rfl; rfl; rfl; rfl; rfl) | (apply s_callB (hm := YC.m _ _); rfl; intro h3 o3 b3)
  refine s_mk rfl rfl (by omega) fun h1 n1 => ?_
  rw [reps_U] at n1
  rw [show ((l.length : Int) + 1).toNat = l.length + 1 by omega] at n1 ⊢
  have hu1 := hu.ext n1.ext
  repeat' first | (with_reducible first | exact SetAt.z | apply SetAt.s | apply s_end | exact Kept.nil) | refine qq (hk := ?_) | ((with_reducible first | apply Kept.cons | apply q_blky); rfl) | ((with_reducible apply Kept.skip); rfl) | refine ww (hk := ?_) | (apply c_condP; rfl; exact bpx; all_goals intro hc) | ((first | apply s_gTP | apply s_gFP); rfl; exact bpx; all_goals intro hg) | (apply s_lalloc; rfl) | ((first | apply s_lbox); rfl; rfl; rfl) | (apply s_lstore; rfl; rfl; rfl; rfl; rfl) | (apply s_callB (hm := YC.m _ _); rfl; intro h3 o3 b3)
  refine loopI (YC.m _ _) (fun n fr h' => ∃ (i : Nat) (o : List Int), n = l.length - i ∧ i ≤ l.length ∧ Ext h h' ∧ UA .u32 h'.ob h.ob.length o ∧ InB o ∧ o.length = l.length + 1 ∧ lv o = lv (l.take i) * 2 ^ s ∧
    fr = ⟨[(0, .v v), (1, .v (.int .u64 s)), (5, .v (.slice (some ⟨h.ob.length, 0, none⟩) (l.length + 1) (l.length + 1))), (6, .v (.int .i64 i))], []⟩) l.length ⟨0, _, by omega, by omega, n1.ext, n1.at, InB.replicate _, by simp, by simp [lv, lv_replicate], rfl⟩ ?_
  rintro n fr h' ⟨i, o, rfl, hi, he, ho, hob, hlen, hv, rfl⟩
  have hu2 := hu.ext he
  have u2 := ho.all hlen.symm (Nat.le_refl _)
  by_cases hlt : i < l.length
  · have hx := hb.getD i
    have h2s := p2 s
    have htk := lv_lt (hb.take i)
    rw [List.length_take, Nat.min_eq_left hi] at htk
    have hob0 := hob.getD i
    have hvlt : lv o < B i * 2 ^ s := by rw [hv]; exact Int.mul_lt_mul_of_pos_right htk h2s
    have hold : o.getD i 0 < 2 ^ s := getD_lt hob (by omega) hvlt
    obtain ⟨hm0, hm1⟩ := shl_bound hx.1 hx.2 hs
    have hlow := shl_low (u := l.getD i 0) hs
    have hbb0 : 0 ≤ l.getD i 0 % 2 ^ (32 - s) := Int.emod_nonneg _ (by have : (0 : Int) < 2 ^ (32 - s) := Int.pow_pos (by decide); omega)
    have hbb1 : l.getD i 0 % 2 ^ (32 - s) * 2 ^ s + o.getD i 0 < 4294967296 := by
      have h3 : l.getD i 0 % 2 ^ (32 - s) < 2 ^ (32 - s) := Int.emod_lt_of_pos _ (Int.pow_pos (by decide))
      have h4 : (4294967296 : Int) = 2 ^ (32 - s) * 2 ^ s := by rw [← Int.pow_add, show 32 - s + s = 32 by omega]; rfl
      have h5 : (l.getD i 0 % 2 ^ (32 - s) + 1) * 2 ^ s ≤ 2 ^ (32 - s) * 2 ^ s := Int.mul_le_mul_of_nonneg_right (by omega) (by omega)
      rw [Int.add_mul] at h5
      omega
    repeat' first | (with_reducible first | exact SetAt.z | apply SetAt.s | apply s_end | exact Kept.nil) | refine qq (hk := ?_) | ((with_reducible first | apply Kept.cons | apply q_blky); rfl) | ((with_reducible apply Kept.skip); rfl) | (apply s_q; rfl; (first | ((with_reducible apply q_or' s); rfl; rfl; exact hlow; exact hob0.1; exact hold; exact hbb0; exact hbb1; rfl))) | refine ww (hk := ?_) | (apply c_condP; rfl; exact bpx; all_goals intro hc) | ((first | apply s_gTP | apply s_gFP); rfl; exact bpx; all_goals intro hg) | (apply s_lalloc; rfl) | ((first | apply s_lbox); rfl; rfl; rfl) | (apply s_lstore; rfl; rfl; rfl; rfl; rfl) | (apply s_callB (hm := YC.m _ _); rfl; intro h3 o3 b3)
    refine s_stW i (l.getD i 0 % 2 ^ (32 - s) * 2 ^ s + o.getD i 0) rfl rfl (by have := he.bar; omega) ho (by omega) rfl (by omega) fun h2 s2 => ?_
    have he2 := s2.ext he (Nat.le_refl _)
    have hu3 := hu.ext he2
    have ho2 := s2.at ho
    have hob2 := hob.set i (v := l.getD i 0 % 2 ^ (32 - s) * 2 ^ s + o.getD i 0) (by rw [← hlow]; have := Int.emod_nonneg (l.getD i 0 * 2 ^ s) (b := 4294967296) (by decide); omega) hbb1
    have hlen2 : (o.set i (l.getD i 0 % 2 ^ (32 - s) * 2 ^ s + o.getD i 0)).length = l.length + 1 := by simpa using hlen
    have hv2 : lv (o.set i (l.getD i 0 % 2 ^ (32 - s) * 2 ^ s + o.getD i 0)) = lv o + B i * (l.getD i 0 * 2 ^ s % 4294967296) := by
      rw [lv_set (by omega), hlow]; congr 2; omega
    have hdm := Int.emod_add_mul_ediv (l.getD i 0 * 2 ^ s) 4294967296
    have hts : lv (l.take (i + 1)) * 2 ^ s = lv o + B i * (l.getD i 0 * 2 ^ s) := by
      rw [lv_take_succ l i hlt, hv]; grind
    have hcar : 0 ≤ l.getD i 0 * 2 ^ s / 4294967296 ∧ l.getD i 0 * 2 ^ s / 4294967296 < 4294967296 := ⟨by omega, by omega⟩
    have hz : (o.set i (l.getD i 0 % 2 ^ (32 - s) * 2 ^ s + o.getD i 0)).getD (i + 1) 0 = 0 := by
      rw [List.getD_eq_getElem?_getD, List.getElem?_set_ne (by omega), ← List.getD_eq_getElem?_getD]
      have h3 : (2 : Int) ^ s ≤ 4294967296 := by
        have : (2 : Int) ^ s ≤ 2 ^ 32 := by exact_mod_cast Nat.pow_le_pow_right (n := 2) (by decide) (show s ≤ 32 by omega)
        exact this
      have h4 : B i * 2 ^ s ≤ B i * 4294967296 := Int.mul_le_mul_of_nonneg_left h3 (by have := B_pos i; omega)
      have h5 : o.getD (i + 1) 0 < 1 := getD_lt hob (by omega) (by rw [B_succ]; omega)
      have := (hob.getD (i + 1)).1
      omega
    generalize hO : o.set i (l.getD i 0 % 2 ^ (32 - s) * 2 ^ s + o.getD i 0) = o2 at *
    have u3 := UA.all (k := .u32) ho2 hlen2.symm (Nat.le_refl _)
    repeat' first | (with_reducible first | exact SetAt.z | apply SetAt.s | apply s_end | exact Kept.nil) | refine qq (hk := ?_) | ((with_reducible first | apply Kept.cons | apply q_blky); rfl) | ((with_reducible apply Kept.skip); rfl) | refine ww (hk := ?_) | (apply c_condP; rfl; exact bpx; all_goals intro hc) | ((first | apply s_gTP | apply s_gFP); rfl; exact bpx; all_goals intro hg) | (apply s_lalloc; rfl) | ((first | apply s_lbox); rfl; rfl; rfl) | (apply s_lstore; rfl; rfl; rfl; rfl; rfl) | (apply s_callB (hm := YC.m _ _); rfl; intro h3 o3 b3)
    refine s_stW (i + 1) (l.getD i 0 * 2 ^ s / 4294967296) rfl rfl (by have := he2.bar; omega) ho2 (by omega) (by first | rfl | omega) (by omega) fun h3 s3 => ?_
    repeat' first | (with_reducible first | exact SetAt.z | apply SetAt.s | apply s_end | exact Kept.nil) | refine qq (hk := ?_) | ((with_reducible first | apply Kept.cons | apply q_blky); rfl) | ((with_reducible apply Kept.skip); rfl) | refine ww (hk := ?_) | (apply c_condP; rfl; exact bpx; all_goals intro hc) | ((first | apply s_gTP | apply s_gFP); rfl; exact bpx; all_goals intro hg) | (apply s_lalloc; rfl) | ((first | apply s_lbox); rfl; rfl; rfl) | (apply s_lstore; rfl; rfl; rfl; rfl; rfl) | (apply s_callB (hm := YC.m _ _); rfl; intro h3 o3 b3)
    refine q_seql (m := l.length - (i + 1)) (by omega) ⟨i + 1, _, rfl, by omega, s3.ext he2 (Nat.le_refl _), s3.at ho2, hob2.set _ hcar.1 hcar.2, by simpa using hlen2, ?_, rfl⟩
    rw [lv_set (by omega), hz, hv2, hts, B_succ]
    grind
  · have : i = l.length := by omega
    subst this
    repeat' first | (with_reducible first | exact SetAt.z | apply SetAt.s | apply s_end | exact Kept.nil) | refine qq (hk := ?_) | ((with_reducible first | apply Kept.cons | apply q_blky); rfl) | ((with_reducible apply Kept.skip); rfl) | refine ww (hk := ?_) | (apply c_condP; rfl; exact bpx; all_goals intro hc) | ((first | apply s_gTP | apply s_gFP); rfl; exact bpx; all_goals intro hg) | (apply s_lalloc; rfl) | ((first | apply s_lbox); rfl; rfl; rfl) | (apply s_lstore; rfl; rfl; rfl; rfl; rfl) | (apply s_callB (hm := YC.m _ _); rfl; intro h3 o3 b3)
    exact hq _ _ _ (Nat.le_refl _) he ho hob hlen (by rw [hv, List.take_length])
theorem norm_top {L : List Int} {x s : Nat} (hbin : InB L) (hl : 0 < L.length) (hx : L.getD (L.length - 1) 0 = x) (hs : s < 32) (hs1 : 2147483648 ≤ x * 2 ^ s) (hs2 : x * 2 ^ s < 4294967296) :
    lv L * 2 ^ s < B L.length ∧ B (L.length - 1) * 2147483648 ≤ lv L * 2 ^ s := by
  have eb := lv_last (V := L) (n := L.length - 1) (by omega)
  have bt0 := lv_nonneg (hbin.take (L.length - 1))
  have bt1 := lv_lt (hbin.take (L.length - 1))
  rw [List.length_take, Nat.min_eq_left (by omega)] at bt1
  rw [hx] at eb
  have hBp := B_pos (L.length - 1)
  have hBs : B L.length = 4294967296 * B (L.length - 1) := by rw [← B_succ]; congr 1; omega
  have h2s := p2 s
  have hxs1 : (2147483648 : Int) ≤ x * 2 ^ s := by
    have : ((2147483648 : Nat) : Int) ≤ ((x * 2 ^ s : Nat) : Int) := Int.ofNat_le.mpr hs1
    rw [Int.natCast_mul, Int.natCast_pow] at this
    exact this
  have hxs2 : (x : Int) * 2 ^ s + 2 ^ s ≤ 4294967296 := by
    have h1 : ((x * 2 ^ s : Nat) : Int) < ((4294967296 : Nat) : Int) := Int.ofNat_lt.mpr hs2
    rw [Int.natCast_mul, Int.natCast_pow] at h1
    have h1' : (x : Int) * 2 ^ s < 4294967296 := h1
    rw [pow_split (s := s) (by omega)] at h1' ⊢
    have h2 := Int.lt_of_mul_lt_mul_right h1' (by omega)
    have h3 : ((x : Int) + 1) * 2 ^ s ≤ 2 ^ (32 - s) * 2 ^ s := Int.mul_le_mul_of_nonneg_right (by omega) (by omega)
    rw [Int.add_mul, Int.one_mul] at h3
    exact h3
  constructor
  · rw [hBs]
    have h1 : lv L < B (L.length - 1) * (x + 1) := by rw [Int.mul_add]; omega
    have h2 : lv L * 2 ^ s < B (L.length - 1) * (x + 1) * 2 ^ s := Int.mul_lt_mul_of_pos_right h1 h2s
    have h3 : B (L.length - 1) * (x + 1) * 2 ^ s = B (L.length - 1) * (x * 2 ^ s + 2 ^ s) := by grind
    have h4 : B (L.length - 1) * (x * 2 ^ s + 2 ^ s) ≤ B (L.length - 1) * 4294967296 := Int.mul_le_mul_of_nonneg_left hxs2 (by omega)
    omega
  · have h1 : B (L.length - 1) * x ≤ lv L := by omega
    have h2 : B (L.length - 1) * x * 2 ^ s ≤ lv L * 2 ^ s := Int.mul_le_mul_of_nonneg_right h1 (by omega)
    have h3 : B (L.length - 1) * x * 2 ^ s = B (L.length - 1) * (x * 2 ^ s) := by grind
    have h4 : B (L.length - 1) * 2147483648 ≤ B (L.length - 1) * (x * 2 ^ s) := Int.mul_le_mul_of_nonneg_left hxs1 (by omega)
    omega
theorem q_shlUN {x y : X} {fr : Fr} {a b : Int} {s : Nat} {k' : IntKind} (hx : vl fr x = some (.int .u32 a)) (hy : vl fr y = some (.int k' b)) (hs : b = (s : Int)) (hb : s ≤ 32) (hr : 0 ≤ a * 2 ^ s ∧ a * 2 ^ s ≤ 4294967295) : qO (.bin .shl x y) fr h = some (.v (.int .u32 (a * 2 ^ s))) := by
  have := q_shlU (h := h) hx hy (by omega) (by rw [hs]; exact hr)
  rw [hs] at this
  exact this
theorem q_andM {x y : X} {fr : Fr} {a : Int} (hx : vl fr x = some (.int .u64 a)) (hy : vl fr y = some (.int .u64 4294967295)) (hr : 0 ≤ a ∧ a ≤ 18446744073709551615) : qO (.bin .and x y) fr h = some (.v (.int .u64 (a % 4294967296))) := by
  obtain ⟨n, rfl⟩ := Int.eq_ofNat_of_zero_le hr.1
  have e1 : (BitVec.ofInt IntKind.u64.bits ((n : Nat) : Int)).toNat = n := by
    simp only [IntKind.bits, BitVec.toNat_ofInt]
    omega
  have e2 : (BitVec.ofInt IntKind.u64.bits 4294967295).toNat = 2 ^ 32 - 1 := by decide
  simp only [qO, hx, hy, binV, ne_eq, not_true, if_false, BitVec.toNat_and, e1, e2, Nat.and_two_pow_sub_one_eq_mod, wU64]
  congr 3
  omega
/-- what is known of a guessed digit -/
structure GF (d1 d0 u2 u1 u0 q lD lU : Int) : Prop where
  pos : 0 < lD
  nn : 0 ≤ lU
  q0 : 0 ≤ q
  q1 : q < 4294967296
  first : q ≤ (u2 * 4294967296 + u1) / d1
  fle : (u2 * 4294967296 + u1) / d1 ≤ 4294967297
  r0 : 0 ≤ (u2 * 4294967296 + u1) % d1
  r1 : (u2 * 4294967296 + u1) % d1 < d1
  dm : (u2 * 4294967296 + u1) / d1 * d1 + (u2 * 4294967296 + u1) % d1 = u2 * 4294967296 + u1
  big : ∀ g r : Int, 0 ≤ g → 0 ≤ r → g * d1 + r = u2 * 4294967296 + u1 → r * 4294967296 + u0 < g * d0 → q < g
  near : ∀ g r : Int, 0 ≤ g → 0 ≤ r → g ≤ 4294967296 → g * d1 + r = u2 * 4294967296 + u1 → g * d0 ≤ r * 4294967296 + u0 → g ≤ q + 1
  mod : lU % lD + lD * q = lU
  m0 : 0 ≤ lU % lD
  m1 : lU % lD < lD
theorem guess_facts {U D : List Int} {n : Nat} (hn2 : D.length = n + 2) (hlen : U.length = n + 3) (hU : InB U) (hD : InB D) (htop : 2147483648 ≤ D.getD (n + 1) 0) (hlt : lv U < lv D * 4294967296) :
    GF (D.getD (n + 1) 0) (D.getD n 0) (U.getD (n + 2) 0) (U.getD (n + 1) 0) (U.getD n 0) (lv U / lv D) (lv D) (lv U) := by
  have eD := lv_top2 hn2
  have eU := lv_top3 (D := U) (n := n) (by omega)
  have bD2 := lv_lt (hD.take n)
  have bU2 := lv_lt (hU.take n)
  have nD2 := lv_nonneg (hD.take n)
  have nU2 := lv_nonneg (hU.take n)
  rw [List.length_take, Nat.min_eq_left (by omega)] at bD2 bU2
  have b1 := hD.getD (n + 1)
  have b0 := hD.getD n
  have c2 := hU.getD (n + 2)
  have c1 := hU.getD (n + 1)
  have c0 := hU.getD n
  generalize D.getD (n + 1) 0 = d1, D.getD n 0 = d0, U.getD (n + 2) 0 = u2, U.getD (n + 1) 0 = u1, U.getD n 0 = u0 at *
  have hP := B_pos n
  have hDpos : 0 < lv D := by
    have : 1 * B n ≤ (d1 * 4294967296 + d0) * B n := Int.mul_le_mul_of_nonneg_right (by omega) (by omega)
    omega
  have hUnn := lv_nonneg hU
  have q0 : 0 ≤ lv U / lv D := Int.ediv_nonneg hUnn (by omega)
  have q1 : lv U / lv D < 4294967296 := Int.ediv_lt_of_lt_mul hDpos (by rw [Int.mul_comm]; exact hlt)
  have qm := Int.emod_add_mul_ediv (lv U) (lv D)
  have qr0 := Int.emod_nonneg (lv U) (b := lv D) (by omega)
  have qr1 := Int.emod_lt_of_pos (lv U) hDpos
  generalize hqv : lv U / lv D = q at *
  have hqle : q * ((d1 * 4294967296 + d0) * B n + lv (D.take n)) ≤ ((u2 * 4294967296 + u1) * 4294967296 + u0) * B n + lv (U.take n) := by
    rw [← eD, ← eU, Int.mul_comm]; omega
  have hqd := i_guess_ge (by decide) (by omega) (by omega) (by omega) nD2 (by omega) nU2 q0 (by omega) bU2 (by omega) hqle
  have hd1pos : 0 < d1 := by omega
  have htopn : 0 ≤ u2 * 4294967296 + u1 := by omega
  have htoplt : u2 * 4294967296 + u1 < (d1 + 1) * 4294967296 := by
    have e1 : lv U < ((d1 + 1) * 4294967296) * (4294967296 * B n) := by
      have : lv D < (d1 + 1) * 4294967296 * B n := by
        rw [eD]
        have h1 : (d1 * 4294967296 + d0 + 1) * B n ≤ (d1 + 1) * 4294967296 * B n := Int.mul_le_mul_of_nonneg_right (by omega) (by omega)
        rw [Int.add_mul] at h1
        omega
      have h2 : (d1 + 1) * 4294967296 * (4294967296 * B n) = ((d1 + 1) * 4294967296 * B n) * 4294967296 := by grind
      rw [h2]
      omega
    have e2 : (u2 * 4294967296 + u1) * (4294967296 * B n) ≤ lv U := by
      rw [eU]
      have h1 : (u2 * 4294967296 + u1) * (4294967296 * B n) = ((u2 * 4294967296 + u1) * 4294967296) * B n := by grind
      have h2 : ((u2 * 4294967296 + u1) * 4294967296) * B n ≤ ((u2 * 4294967296 + u1) * 4294967296 + u0) * B n := Int.mul_le_mul_of_nonneg_right (by omega) (by omega)
      omega
    exact Int.lt_of_mul_lt_mul_right (a := 4294967296 * B n) (by omega) (by omega)
  have hgm := Int.emod_add_mul_ediv (u2 * 4294967296 + u1) d1
  refine ⟨hDpos, hUnn, q0, q1, (Int.le_ediv_iff_mul_le hd1pos).mpr hqd, ?_, Int.emod_nonneg _ (by omega), Int.emod_lt_of_pos _ hd1pos, by rw [Int.mul_comm]; omega, ?_, ?_, qm, qr0, qr1⟩
  · have h1 : (u2 * 4294967296 + u1) / d1 < 4294967298 := Int.ediv_lt_of_lt_mul hd1pos (by omega)
    omega
  · intro g r hg hr hgr ht
    exact i_too_great (by decide) (by omega) (by omega) (by omega) nD2 (by omega) nU2 q0 htopn hg hr bU2 hgr ht hqle
  · intro g r hg hr hgB he ht
    have h1 := i_near (by decide) (by omega) hd1pos (by omega) nD2 (by omega) nU2 htopn hg hr bD2 hgB he ht
    rw [← eD, ← eU] at h1
    have h2 : g * lv D < (q + 2) * lv D := by
      have : (q + 2) * lv D = lv D * q + lv D + lv D := by grind
      omega
    have := Int.lt_of_mul_lt_mul_right h2 (by omega)
    omega
end
end Am
end Go.Proofs.YtfhlblclcdhbiaaGreatDoor
