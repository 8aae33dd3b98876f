/- A digit of a long division (Knuth D). -/
import Derived.Test.YtfhlblclcdhbiaaGreatDoorK4
namespace Go.Proofs.YtfhlblclcdhbiaaGreatDoor
open Go
set_option linter.unusedVariables false
set_option linter.unusedSimpArgs false
namespace Am
section
variable {B0 : Nat} {Q : Value → AH → Prop} {h : AH}
theorem k161' {x y b : Int} (hx : 0 ≤ x ∧ x < 4294967296) (hy : 0 ≤ y ∧ y < 4294967296) (hb : 0 ≤ b ∧ b ≤ 1) (hq : ∀ d b', 0 ≤ d → d < 4294967296 → 0 ≤ b' → b' ≤ 1 → d - 4294967296 * b' = x - y - b → Q (.tuple #[.int .u32 d, .int .u32 b']) h) : YC Tryz.prog B0 161 [.int .u32 x, .int .u32 y, .int .u32 b] Q h := by
  refine k161 hx hy hb (hq _ _ (by omega) (by omega) (by split <;> omega) (by split <;> omega) ?_)
  split <;> omega
theorem k162' {x y b : Int} (hx : 0 ≤ x ∧ x < 4294967296) (hy : 0 ≤ y ∧ y < 4294967296) (hb : 0 ≤ b ∧ b ≤ 1) (hq : ∀ d b', 0 ≤ d → d < 4294967296 → 0 ≤ b' → b' ≤ 1 → d + 4294967296 * b' = x + y + b → Q (.tuple #[.int .u32 d, .int .u32 b']) h) : YC Tryz.prog B0 162 [.int .u32 x, .int .u32 y, .int .u32 b] Q h := by
  refine k162 hx hy hb (hq _ _ (by omega) (by omega) (by omega) (by omega) ?_)
  omega
theorem SetO.self {h : AH} {o : Nat} {x : Option (Nat × List Value)} (ho : h.ob[o]? = some x) : SetO h o x h := by
  refine ⟨?_, rfl⟩
  obtain ⟨h1, h2⟩ := List.getElem?_eq_some_iff.mp ho
  subst h2
  exact (List.set_getElem_self h1).symm
theorem SetO.trans {a b c : AH} {o : Nat} {x y : Option (Nat × List Value)} (h1 : SetO a o x b) (h2 : SetO b o y c) : SetO a o y c :=
  ⟨by rw [h2.ob, h1.ob, List.set_set], h2.bar.trans h1.bar⟩
theorem UA.mid {k : IntKind} {ob : Ob} {o : Nat} {pre U post : List Int} (a : UA k ob o (pre ++ U ++ post)) {c : Nat} (hc : U.length ≤ c) : US k ob U (.slice (some ⟨o, pre.length, none⟩) U.length c) := by
  refine ⟨fun _ => rfl, ?_⟩
  rw [flat_one]
  exact .row hc a (by simp) (by simp [List.drop_append, List.take_append])
theorem set_mid {pre V post : List Int} {k : Nat} (hk : k < V.length) (w : Int) : (pre ++ V ++ post).set (pre.length + k) w = pre ++ V.set k w ++ post := by
  rw [List.append_assoc, List.set_append_right _ _ (by omega), List.set_append_left _ _ (by omega), Nat.add_sub_cancel_left, List.append_assoc]
section
variable {C : CT} {K : Fr → AH → Prop} {r : List AI} {tm : List (Nat × TV)} {bx : List (Nat × List Value)}
theorem s_stM {a x : X} {b i : Nat} (j : Nat) {k : IntKind} {w : Int} (w' : Int) {pre V post : List Int} (ha : vl (⟨tm, bx⟩ : Fr) a = some (.pointer (some ⟨b, i, none⟩))) (hx : vl (⟨tm, bx⟩ : Fr) x = some (.int k w)) (hb : h.bar ≤ b) (ho : UA k h.ob b (pre ++ V ++ post)) (hi : i = pre.length + j) (hw : w = w') (hj : j < V.length)
    (hk : ∀ h', SetO h b (some (1, (pre ++ V.set j w' ++ post).map (Value.int k))) h' → WI C r K (⟨tm, bx⟩ : Fr) h') : WI C (⟨none, none, .store 1 a x⟩ :: r) K (⟨tm, bx⟩ : Fr) h := by
  refine s_stW (pre.length + j) w' ha hx hb ho hi hw (by simp; omega) fun h' s => hk h' ?_
  rw [set_mid hj] at s
  exact s
end
/-- a number by its two highest limbs -/
theorem lv_top2 {D : List Int} {n : Nat} (hn : D.length = n + 2) : lv D = (D.getD (n + 1) 0 * 4294967296 + D.getD n 0) * B n + lv (D.take n) := by
  have h1 := lv_split D n (by omega)
  have h2 := lv_drop_succ D n (by omega)
  have h3 := lv_drop_succ D (n + 1) (by omega)
  have h4 : D.drop (n + 1 + 1) = [] := List.drop_eq_nil_of_le (by omega)
  rw [h4] at h3
  simp only [lv] at h3
  rw [h1, h2, h3]
  generalize D.getD (n + 1) 0 = x, D.getD n 0 = y, B n = b, lv (D.take n) = z
  grind
theorem lv_top3 {D : List Int} {n : Nat} (hn : D.length = n + 3) : lv D = ((D.getD (n + 2) 0 * 4294967296 + D.getD (n + 1) 0) * 4294967296 + D.getD n 0) * B n + lv (D.take n) := by
  have h1 := lv_split D n (by omega)
  have h2 := lv_drop_succ D n (by omega)
  have h3 := lv_drop_succ D (n + 1) (by omega)
  have h4 := lv_drop_succ D (n + 2) (by omega)
  have h5 : D.drop (n + 2 + 1) = [] := List.drop_eq_nil_of_le (by omega)
  rw [h5] at h4
  simp only [lv] at h4
  rw [h1, h2, h3, show n + 1 + 1 = n + 2 from rfl, h4]
  generalize D.getD (n + 2) 0 = w, D.getD (n + 1) 0 = x, D.getD n 0 = y, B n = b, lv (D.take n) = z
  grind
theorem div_uniq {b X Y R Z : Int} (hb : 0 < b) (hX : 0 ≤ X ∧ X < b) (hR : 0 ≤ R ∧ R < b) (he : X + b * Y = R + b * Z) : Y = Z ∧ X = R := by
  have h1 : (X + b * Y) / b = Y := by rw [Int.add_mul_ediv_left _ _ (by omega), Int.ediv_eq_zero_of_lt hX.1 hX.2, Int.zero_add]
  have h2 : (R + b * Z) / b = Z := by rw [Int.add_mul_ediv_left _ _ (by omega), Int.ediv_eq_zero_of_lt hR.1 hR.2, Int.zero_add]
  rw [he, h2] at h1
  subst h1
  exact ⟨rfl, by omega⟩
section
variable {β P d1 d0 D2 u0 U2 q top g r : Int}
theorem lift {p : Int} (h : 0 ≤ p) : ∃ n : Nat, p = n := Int.eq_ofNat_of_zero_le h
theorem i_guess_ge (hB : 0 ≤ β) (hP : 0 ≤ P) (h1 : 0 ≤ d1) (h2 : 0 ≤ d0) (h3 : 0 ≤ D2) (h4 : 0 ≤ u0) (h5 : 0 ≤ U2) (h6 : 0 ≤ q) (h7 : 0 ≤ top) (hU2 : U2 < P) (hu0 : u0 < β)
    (hq : q * ((d1 * β + d0) * P + D2) ≤ (top * β + u0) * P + U2) : q * d1 ≤ top := by
  obtain ⟨B, rfl⟩ := lift hB; obtain ⟨P, rfl⟩ := lift hP; obtain ⟨d1, rfl⟩ := lift h1; obtain ⟨d0, rfl⟩ := lift h2; obtain ⟨D2, rfl⟩ := lift h3; obtain ⟨u0, rfl⟩ := lift h4
  obtain ⟨U2, rfl⟩ := lift h5; obtain ⟨q, rfl⟩ := lift h6; obtain ⟨top, rfl⟩ := lift h7
  exact_mod_cast guess_ge B P d1 d0 D2 u0 U2 q top (by exact_mod_cast hU2) (by exact_mod_cast hu0) (by exact_mod_cast hq)
theorem i_too_great (hB : 0 ≤ β) (hP : 0 ≤ P) (h1 : 0 ≤ d1) (h2 : 0 ≤ d0) (h3 : 0 ≤ D2) (h4 : 0 ≤ u0) (h5 : 0 ≤ U2) (h6 : 0 ≤ q) (h7 : 0 ≤ top) (h8 : 0 ≤ g) (h9 : 0 ≤ r) (hU2 : U2 < P)
    (hg : g * d1 + r = top) (ht : r * β + u0 < g * d0)
    (hq : q * ((d1 * β + d0) * P + D2) ≤ (top * β + u0) * P + U2) : q < g := by
  obtain ⟨B, rfl⟩ := lift hB; obtain ⟨P, rfl⟩ := lift hP; obtain ⟨d1, rfl⟩ := lift h1; obtain ⟨d0, rfl⟩ := lift h2; obtain ⟨D2, rfl⟩ := lift h3; obtain ⟨u0, rfl⟩ := lift h4
  obtain ⟨U2, rfl⟩ := lift h5; obtain ⟨q, rfl⟩ := lift h6; obtain ⟨top, rfl⟩ := lift h7; obtain ⟨g, rfl⟩ := lift h8; obtain ⟨r, rfl⟩ := lift h9
  exact_mod_cast guess_too_great B P d1 d0 D2 u0 U2 q top g r (by exact_mod_cast hU2) (by exact_mod_cast hg) (by exact_mod_cast ht) (by exact_mod_cast hq)
theorem i_near (hB : 0 < β) (hP : 0 ≤ P) (h1 : 0 < d1) (h2 : 0 ≤ d0) (h3 : 0 ≤ D2) (h4 : 0 ≤ u0) (h5 : 0 ≤ U2) (h7 : 0 ≤ top) (h8 : 0 ≤ g) (h9 : 0 ≤ r) (hD2 : D2 < P) (hgB : g ≤ β)
    (hg : g * d1 + r = top) (ht : g * d0 ≤ r * β + u0) :
    g * ((d1 * β + d0) * P + D2) < (top * β + u0) * P + U2 + ((d1 * β + d0) * P + D2) := by
  obtain ⟨B, rfl⟩ := lift (Int.le_of_lt hB); obtain ⟨P, rfl⟩ := lift hP; obtain ⟨d1, rfl⟩ := lift (Int.le_of_lt h1); obtain ⟨d0, rfl⟩ := lift h2; obtain ⟨D2, rfl⟩ := lift h3; obtain ⟨u0, rfl⟩ := lift h4
  obtain ⟨U2, rfl⟩ := lift h5; obtain ⟨top, rfl⟩ := lift h7; obtain ⟨g, rfl⟩ := lift h8; obtain ⟨r, rfl⟩ := lift h9
  exact_mod_cast guess_near B P d1 d0 D2 u0 U2 top g r (by exact_mod_cast hB) (by exact_mod_cast h1) (by exact_mod_cast hD2) (by exact_mod_cast hgB) (by exact_mod_cast hg) (by exact_mod_cast ht)
end
theorem getD_drop_eq {V U : List Int} {k : Nat} (h : V.drop k = U.drop k) : V.getD k 0 = U.getD k 0 := by
  have h1 : (V.drop k)[0]? = (U.drop k)[0]? := by rw [h]
  simp only [List.getElem?_drop, Nat.add_zero] at h1
  rw [List.getD_eq_getElem?_getD, List.getD_eq_getElem?_getD, h1]
theorem drop_set_eq {V U : List Int} {k : Nat} (h : V.drop k = U.drop k) (x : Int) : (V.set k x).drop (k + 1) = U.drop (k + 1) := by
  rw [List.drop_set_of_lt (by omega), ← List.drop_drop, ← List.drop_drop, h]
theorem lv_take_set {V : List Int} {k : Nat} (hk : k < V.length) (x : Int) : lv ((V.set k x).take (k + 1)) = lv (V.take k) + B k * x := by
  rw [lv_take_succ _ k (by simpa using hk), List.take_set_of_le (Nat.le_refl _), getD_set hk]
theorem lv_last {V : List Int} {n : Nat} (hn : V.length = n + 1) : lv V = lv (V.take n) + B n * V.getD n 0 := by
  have := lv_take_succ V n (by omega)
  rwa [List.take_of_length_le (by omega)] at this
set_option maxHeartbeats 4000000 in
theorem k145 {pre U post D : List Int} {o od c : Nat} (hn : 2 ≤ D.length) (hbig : D.length ≤ 1099511627776) (hlen : U.length = D.length + 1) (hU : InB U) (hD : InB D) (htop : 2147483648 ≤ D.getD (D.length - 1) 0) (hlt : lv U < lv D * 4294967296)
    (hA : UA .u32 h.ob o (pre ++ U ++ post)) (hbar : h.bar ≤ o) (hd : UA .u32 h.ob od D) (hne : od ≠ o) (hc : U.length ≤ c)
    (hq : ∀ h' U', SetO h o (some (1, (pre ++ U' ++ post).map (Value.int .u32))) h' → InB U' → U'.length = U.length → lv U' = lv U % lv D → Q (.int .u32 (lv U / lv D)) h') :
    YC Tryz.prog B0 145 [.slice (some ⟨o, pre.length, none⟩) U.length c, .slice (some ⟨od, 0, none⟩) D.length D.length] Q h := by
  refine enterF mix Tryz.func145 ok145 rfl (tm := [(0, _), (1, _)]) (bx := []) rfl rfl fun hp => ?_
  obtain ⟨n, hn2⟩ : ∃ n, D.length = n + 2 := ⟨D.length - 2, by omega⟩
  have uD := hd.all rfl (Nat.le_refl _)
  have uU := hA.mid hc
  have eD := lv_top2 hn2
  have eU := lv_top3 (D := U) (n := n) (by omega)
  have bD2 := lv_lt (hD.take n)
  have bU2 := lv_lt (hU.take n)
  have nD2 := lv_nonneg (hD.take n)
  have nU2 := lv_nonneg (hU.take n)
  rw [List.length_take, Nat.min_eq_left (by omega)] at bD2 bU2
  have b1 := hD.getD (n + 1)
  have b0 := hD.getD n
  have c2 := hU.getD (n + 2)
  have c1 := hU.getD (n + 1)
  have c0 := hU.getD n
  rw [hn2, show n + 2 - 1 = n + 1 by omega] at htop
  obtain ⟨d1, hd1⟩ : ∃ d1, D.getD (n + 1) 0 = d1 := ⟨_, rfl⟩
  obtain ⟨d0, hd0⟩ : ∃ d0, D.getD n 0 = d0 := ⟨_, rfl⟩
  obtain ⟨u2, hu2⟩ : ∃ u2, U.getD (n + 2) 0 = u2 := ⟨_, rfl⟩
  obtain ⟨u1, hu1⟩ : ∃ u1, U.getD (n + 1) 0 = u1 := ⟨_, rfl⟩
  obtain ⟨u0, hu0⟩ : ∃ u0, U.getD n 0 = u0 := ⟨_, rfl⟩
  rw [hd1] at eD b1 htop
  rw [hd0] at eD b0
  rw [hu2] at eU c2
  rw [hu1] at eU c1
  rw [hu0] at eU c0
  have fd1 : D.getD ((D.length : Int) - 1).toNat 0 = d1 := by rw [show ((D.length : Int) - 1).toNat = n + 1 by omega]; exact hd1
  have fd0 : D.getD ((D.length : Int) - 2).toNat 0 = d0 := by rw [show ((D.length : Int) - 2).toNat = n by omega]; exact hd0
  have fu2 : U.getD D.length 0 = u2 := by rw [hn2]; exact hu2
  have fu1 : U.getD ((D.length : Int) - 1).toNat 0 = u1 := by rw [show ((D.length : Int) - 1).toNat = n + 1 by omega]; exact hu1
  have fu0 : U.getD ((D.length : Int) - 2).toNat 0 = u0 := by rw [show ((D.length : Int) - 2).toNat = n by omega]; exact hu0
  have hP := B_pos n
  have hDpos : 0 < lv D := by
    have : 0 ≤ (d1 * 4294967296 + d0) * B n := Int.mul_nonneg (by omega) (by omega)
    have : 1 * B n ≤ (d1 * 4294967296 + d0) * B n := Int.mul_le_mul_of_nonneg_right (by omega) (by omega)
    omega
  have hUnn := lv_nonneg hU
  have q0 : 0 ≤ lv U / lv D := Int.ediv_nonneg hUnn (by omega)
  have q1 : lv U / lv D < 4294967296 := Int.ediv_lt_of_lt_mul hDpos (by rw [Int.mul_comm]; exact hlt)
  have qm := Int.emod_add_mul_ediv (lv U) (lv D)
  have qr0 := Int.emod_nonneg (lv U) (b := lv D) (by omega)
  have qr1 := Int.emod_lt_of_pos (lv U) hDpos
  obtain ⟨q, hqv⟩ : ∃ q, lv U / lv D = q := ⟨_, rfl⟩
  obtain ⟨R, hRv⟩ : ∃ R, lv U % lv D = R := ⟨_, rfl⟩
  rw [hqv] at q0 q1 qm hq
  rw [hRv] at qm qr0 qr1 hq
  have hqle : q * ((d1 * 4294967296 + d0) * B n + lv (D.take n)) ≤ ((u2 * 4294967296 + u1) * 4294967296 + u0) * B n + lv (U.take n) := by
    rw [← eD, ← eU, Int.mul_comm]; omega
  have hqd := i_guess_ge (by decide) (by omega) (by omega) (by omega) nD2 (by omega) nU2 q0 (by omega) bU2 (by omega) hqle
  have hd1pos : 0 < d1 := by omega
  have htopn : 0 ≤ u2 * 4294967296 + u1 := by omega
  have hg0 : q ≤ (u2 * 4294967296 + u1) / d1 := (Int.le_ediv_iff_mul_le hd1pos).mpr hqd
  have htoplt : u2 * 4294967296 + u1 < (d1 + 1) * 4294967296 := by
    have e1 : lv U < ((d1 + 1) * 4294967296) * (4294967296 * B n) := by
      have : lv D < (d1 + 1) * 4294967296 * B n := by
        rw [eD]
        have h1 : (d1 * 4294967296 + d0 + 1) * B n ≤ (d1 + 1) * 4294967296 * B n := Int.mul_le_mul_of_nonneg_right (by omega) (by omega)
        rw [Int.add_mul] at h1
        omega
      have h2 : (d1 + 1) * 4294967296 * (4294967296 * B n) = ((d1 + 1) * 4294967296 * B n) * 4294967296 := by grind
      rw [h2]
      omega
    have e2 : (u2 * 4294967296 + u1) * (4294967296 * B n) ≤ lv U := by
      rw [eU]
      have h1 : (u2 * 4294967296 + u1) * (4294967296 * B n) = ((u2 * 4294967296 + u1) * 4294967296) * B n := by grind
      have h2 : ((u2 * 4294967296 + u1) * 4294967296) * B n ≤ ((u2 * 4294967296 + u1) * 4294967296 + u0) * B n := Int.mul_le_mul_of_nonneg_right (by omega) (by omega)
      omega
    exact Int.lt_of_mul_lt_mul_right (a := 4294967296 * B n) (by omega) (by omega)
  have hgm := Int.emod_add_mul_ediv (u2 * 4294967296 + u1) d1
  have hr0 := Int.emod_nonneg (u2 * 4294967296 + u1) (b := d1) (by omega)
  have hr1 := Int.emod_lt_of_pos (u2 * 4294967296 + u1) hd1pos
  have hgle : (u2 * 4294967296 + u1) / d1 ≤ 4294967297 := by
    have h1 : (u2 * 4294967296 + u1) / d1 < 4294967298 := Int.ediv_lt_of_lt_mul hd1pos (by omega)
    omega
  repeat' first | (with_reducible first | exact SetAt.z | apply SetAt.s | apply s_end | exact Kept.nil) | refine qq (hk := ?_) | ((with_reducible first | apply Kept.cons | apply q_blky); rfl) | ((with_reducible apply Kept.skip); rfl) | (apply s_q; rfl; (first | ((with_reducible apply q_ldE); rfl; assumption; omega; assumption))) | refine ww (hk := ?_) | (apply c_condP; rfl; exact bpx; all_goals intro hc) | ((first | apply s_gTP | apply s_gFP); rfl; exact bpx; all_goals intro hg) | (apply s_lalloc; rfl) | ((first | apply s_lbox); rfl; rfl; rfl) | (apply s_lstore; rfl; rfl; rfl; rfl; rfl) | (apply s_callB (hm := YC.m _ _); rfl; intro h3 o3 b3)
  have near : ∀ g r : Int, 0 ≤ g → 0 ≤ r → g ≤ 4294967296 → g * d1 + r = u2 * 4294967296 + u1 → g * d0 ≤ r * 4294967296 + u0 → g ≤ q + 1 := by
    intro g r hg hr hgB he ht
    have h1 := i_near (by decide) (by omega) hd1pos (by omega) nD2 (by omega) nU2 htopn hg hr bD2 hgB he ht
    rw [← eD, ← eU] at h1
    have h2 : g * lv D < (q + 2) * lv D := by
      have : (q + 2) * lv D = lv D * q + lv D + lv D := by grind
      omega
    have := Int.lt_of_mul_lt_mul_right h2 (by omega)
    omega
  refine c_cut (YC.m _ _) (fun fr h' => ∃ (g r : Int) (ex : List (Nat × TV)), h' = h ∧ q ≤ g ∧ g ≤ q + 1 ∧ g ≤ 4294967296 ∧
    fr = ⟨(0, .v (.slice (some ⟨o, pre.length, none⟩) U.length c)) :: (1, .v (.slice (some ⟨od, 0, none⟩) D.length D.length)) :: (5, .v (.int .i64 D.length)) :: (7, .v (.int .u64 g)) :: (8, .v (.int .u64 r)) :: ex, []⟩) ?_ ?_
  · refine loopI (YC.m _ _) (fun m fr h' => ∃ (g r : Int) (ex : List (Nat × TV)), m = (4294967296 - r).toNat ∧ h' = h ∧ g * d1 + r = u2 * 4294967296 + u1 ∧ q ≤ g ∧ 0 ≤ r ∧ r < 4294967296 ∧ g ≤ 4294967297 ∧
      fr = ⟨(0, .v (.slice (some ⟨o, pre.length, none⟩) U.length c)) :: (1, .v (.slice (some ⟨od, 0, none⟩) D.length D.length)) :: (5, .v (.int .i64 D.length)) :: (7, .v (.int .u64 g)) :: (8, .v (.int .u64 r)) :: ex, []⟩) _
      ⟨_, _, [], rfl, rfl, by rw [Int.mul_comm]; omega, hg0, hr0, by omega, hgle, rfl⟩ ?_
    rintro m fr h' ⟨g, r, ex, rfl, rfl, hgr, hqg, hr0', hr1', hgle', rfl⟩
    have hdec : (g - 1) * d1 + (r + d1) = u2 * 4294967296 + u1 := by rw [Int.sub_mul]; omega
    have hbr : g - 1 ≤ 4294967296 → 1 ≤ g → r + d1 ≥ 4294967296 → g - 1 ≤ q + 1 := by
      intro h1 h2 h3
      refine near _ _ (by omega) (by omega) h1 hdec ?_
      have : (g - 1) * d0 ≤ 4294967296 * d0 := Int.mul_le_mul_of_nonneg_right h1 (by omega)
      omega
    by_cases hgB : g < 4294967296
    · have hmul : 0 ≤ g * d0 ∧ g * d0 ≤ 18446744065119617025 := by
        refine ⟨Int.mul_nonneg (by omega) (by omega), ?_⟩
        have h1 : g * d0 ≤ 4294967295 * d0 := Int.mul_le_mul_of_nonneg_right (by omega) (by omega)
        omega
      by_cases ht : g * d0 > r * 4294967296 + u0
      · have := i_too_great (by decide) (by omega) (by omega) (by omega) nD2 (by omega) nU2 q0 htopn (by omega) hr0' bU2 hgr (by omega) hqle
        repeat' first | (with_reducible first | exact SetAt.z | apply SetAt.s | apply s_end | exact Kept.nil) | refine qq (hk := ?_) | ((with_reducible first | apply Kept.cons | apply q_blky); rfl) | ((with_reducible apply Kept.skip); rfl) | (apply s_q; rfl; (first | ((with_reducible apply q_ldE); rfl; assumption; omega; assumption))) | refine ww (hk := ?_) | (apply c_condP; rfl; exact bpx; all_goals intro hc) | ((first | apply s_gTP | apply s_gFP); rfl; exact bpx; all_goals intro hg) | (apply s_lalloc; rfl) | ((first | apply s_lbox); rfl; rfl; rfl) | (apply s_lstore; rfl; rfl; rfl; rfl; rfl) | (apply s_callB (hm := YC.m _ _); rfl; intro h3 o3 b3)
        · exact q_only ⟨g - 1, r + d1, _, rfl, by omega, hbr (by omega) (by omega) (by omega), by omega, rfl⟩
        · exact q_seql (by omega) ⟨g - 1, r + d1, _, rfl, rfl, hdec, by omega, by omega, by omega, by omega, rfl⟩
      · have := near g r (by omega) hr0' (by omega) hgr (by omega)
        repeat' first | (with_reducible first | exact SetAt.z | apply SetAt.s | apply s_end | exact Kept.nil) | refine qq (hk := ?_) | ((with_reducible first | apply Kept.cons | apply q_blky); rfl) | ((with_reducible apply Kept.skip); rfl) | (apply s_q; rfl; (first | ((with_reducible apply q_ldE); rfl; assumption; omega; assumption))) | refine ww (hk := ?_) | (apply c_condP; rfl; exact bpx; all_goals intro hc) | ((first | apply s_gTP | apply s_gFP); rfl; exact bpx; all_goals intro hg) | (apply s_lalloc; rfl) | ((first | apply s_lbox); rfl; rfl; rfl) | (apply s_lstore; rfl; rfl; rfl; rfl; rfl) | (apply s_callB (hm := YC.m _ _); rfl; intro h3 o3 b3)
        exact q_only ⟨g, r, _, rfl, by omega, this, by omega, rfl⟩
    · repeat' first | (with_reducible first | exact SetAt.z | apply SetAt.s | apply s_end | exact Kept.nil) | refine qq (hk := ?_) | ((with_reducible first | apply Kept.cons | apply q_blky); rfl) | ((with_reducible apply Kept.skip); rfl) | (apply s_q; rfl; (first | ((with_reducible apply q_ldE); rfl; assumption; omega; assumption))) | refine ww (hk := ?_) | (apply c_condP; rfl; exact bpx; all_goals intro hc) | ((first | apply s_gTP | apply s_gFP); rfl; exact bpx; all_goals intro hg) | (apply s_lalloc; rfl) | ((first | apply s_lbox); rfl; rfl; rfl) | (apply s_lstore; rfl; rfl; rfl; rfl; rfl) | (apply s_callB (hm := YC.m _ _); rfl; intro h3 o3 b3)
      · exact q_only ⟨g - 1, r + d1, _, rfl, by omega, hbr (by omega) (by omega) (by omega), by omega, rfl⟩
      · exact q_seql (by omega) ⟨g - 1, r + d1, _, rfl, rfl, hdec, by omega, by omega, by omega, by omega, rfl⟩
  · clear near hgle hr1 hr0 hgm htoplt hg0 htopn hqd hqle fd1 fd0 fu2 fu1 fu0 hu0 hu1 hu2 hd0 hd1
    rintro fr h' ⟨g, r, ex, rfl, hqg, hgq, hgB, rfl⟩
    repeat' first | (with_reducible first | exact SetAt.z | apply SetAt.s | apply s_end | exact Kept.nil) | refine qq (hk := ?_) | ((with_reducible first | apply Kept.cons | apply q_blky); rfl) | ((with_reducible apply Kept.skip); rfl) | refine ww (hk := ?_) | (apply c_condP; rfl; exact bpx; all_goals intro hc) | ((first | apply s_gTP | apply s_gFP); rfl; exact bpx; all_goals intro hg) | (apply s_lalloc; rfl) | ((first | apply s_lbox); rfl; rfl; rfl) | (apply s_lstore; rfl; rfl; rfl; rfl; rfl) | (apply s_callB (hm := YC.m _ _); rfl; intro h3 o3 b3)
    refine loopI (YC.m _ _) (fun m fr h2 => ∃ (k : Nat) (V : List Int) (ca bo : Int), m = D.length - k ∧ k ≤ D.length ∧ SetO h' o (some (1, (pre ++ V ++ post).map (Value.int .u32))) h2 ∧ InB V ∧ V.length = U.length ∧ V.drop k = U.drop k ∧ 0 ≤ ca ∧ ca < 4294967296 ∧ 0 ≤ bo ∧ bo ≤ 1 ∧
      lv (V.take k) + g * lv (D.take k) = lv (U.take k) + B k * (bo + ca) ∧
      fr = ⟨[(0, .v (.slice (some ⟨o, pre.length, none⟩) U.length c)), (1, .v (.slice (some ⟨od, 0, none⟩) D.length D.length)), (5, .v (.int .i64 D.length)), (7, .v (.int .u64 g)), (9, .v (.int .u64 ca)), (10, .v (.int .u32 bo)),
        (82, .v (.slice (some ⟨od, 0, none⟩) D.length D.length)), (83, .v (.int .i64 D.length)), (84, .v (.int .i64 k))], []⟩) D.length
      ⟨0, U, 0, 0, by omega, by omega, SetO.self hA, hU, rfl, rfl, by omega, by omega, by omega, by omega, by simp [lv], rfl⟩ ?_
    rintro m fr h2 ⟨k, V, ca, bo, rfl, hk, s2, hV, hVl, hVd, ca0, ca1, bo0, bo1, hv, rfl⟩
    have hA2 : UA .u32 h2.ob o (pre ++ V ++ post) := s2.at hA
    have hd2 : UA .u32 h2.ob od D := (s2.other hne).trans hd
    have uD2 := hd2.all rfl (Nat.le_refl _)
    have uV2 := hA2.mid (by omega : V.length ≤ c)
    rw [hVl] at uV2
    have hbar2 : h2.bar ≤ o := by rw [s2.bar]; exact hbar
    have hVk := getD_drop_eq hVd
    by_cases hkl : k < D.length
    · have hx := hD.getD k
      have hy := hV.getD k
      have hmul : 0 ≤ g * D.getD k 0 ∧ g * D.getD k 0 ≤ 18446744069414584320 := by
        refine ⟨Int.mul_nonneg (by omega) (by omega), ?_⟩
        have h1 : g * D.getD k 0 ≤ 4294967296 * D.getD k 0 := Int.mul_le_mul_of_nonneg_right (by omega) (by omega)
        omega
      repeat' first | (with_reducible first | exact SetAt.z | apply SetAt.s | apply s_end | exact Kept.nil) | refine qq (hk := ?_) | ((with_reducible first | apply Kept.cons | apply q_blky); rfl) | ((with_reducible apply Kept.skip); rfl) | refine ww (hk := ?_) | (apply c_condP; rfl; exact bpx; all_goals intro hc) | ((first | apply s_gTP | apply s_gFP); rfl; exact bpx; all_goals intro hg) | (apply s_lalloc; rfl) | ((first | apply s_lbox); rfl; rfl; rfl) | (apply s_lstore; rfl; rfl; rfl; rfl; rfl) | (apply s_callB (hm := YC.m _ _); rfl; intro h3 o3 b3) | ((with_reducible refine YCi (f := 161) ?_); refine k161' (by omega) (by omega) (by omega) fun x b' x0 x1 b0' b1' hxb => ?_)
      refine s_stM k x rfl rfl hbar2 hA2 rfl rfl (by omega) fun h3 s3 => ?_
      repeat' first | (with_reducible first | exact SetAt.z | apply SetAt.s | apply s_end | exact Kept.nil) | refine qq (hk := ?_) | ((with_reducible first | apply Kept.cons | apply q_blky); rfl) | ((with_reducible apply Kept.skip); rfl) | refine ww (hk := ?_) | (apply c_condP; rfl; exact bpx; all_goals intro hc) | ((first | apply s_gTP | apply s_gFP); rfl; exact bpx; all_goals intro hg) | (apply s_lalloc; rfl) | ((first | apply s_lbox); rfl; rfl; rfl) | (apply s_lstore; rfl; rfl; rfl; rfl; rfl) | (apply s_callB (hm := YC.m _ _); rfl; intro h3 o3 b3)
      refine q_seql (m := D.length - (k + 1)) (by omega) ⟨k + 1, V.set k x, (g * D.getD k 0 + ca) / 4294967296, b', rfl, by omega, s2.trans s3, hV.set _ x0 x1, by simpa using hVl, drop_set_eq hVd x, by omega, by omega, b0', b1', ?_, rfl⟩
      rw [lv_take_set (by omega), lv_take_succ D k hkl, lv_take_succ U k (by omega), B_succ]
      have hdm := Int.emod_add_mul_ediv (g * D.getD k 0 + ca) 4294967296
      have hx' : x = U.getD k 0 - (g * D.getD k 0 + ca) + 4294967296 * ((g * D.getD k 0 + ca) / 4294967296) - bo + 4294967296 * b' := by omega
      rw [hx']
      generalize (g * D.getD k 0 + ca) / 4294967296 = c'
      generalize D.getD k 0 = dk, U.getD k 0 = uk, lv (V.take k) = a1, lv (D.take k) = a2, lv (U.take k) = a3, B k = bk at hv ⊢
      grind
    · have hkn : k = D.length := by omega
      subst hkn
      have hy := hV.getD D.length
      have eV := lv_last (V := V) (n := D.length) (by omega)
      have eU' := lv_last (V := U) (n := D.length) (by omega)
      rw [List.take_length] at hv
      have hBN := B_pos D.length
      have hDlt := lv_lt hD
      repeat' first | (with_reducible first | exact SetAt.z | apply SetAt.s | apply s_end | exact Kept.nil) | refine qq (hk := ?_) | ((with_reducible first | apply Kept.cons | apply q_blky); rfl) | ((with_reducible apply Kept.skip); rfl) | refine ww (hk := ?_) | (apply c_condP; rfl; exact bpx; all_goals intro hc) | ((first | apply s_gTP | apply s_gFP); rfl; exact bpx; all_goals intro hg) | (apply s_lalloc; rfl) | ((first | apply s_lbox); rfl; rfl; rfl) | (apply s_lstore; rfl; rfl; rfl; rfl; rfl) | (apply s_callB (hm := YC.m _ _); rfl; intro h3 o3 b3) | ((with_reducible refine YCi (f := 161) ?_); refine k161' (by omega) (by omega) (by omega) fun x b' x0 x1 b0' b1' hxb => ?_)
      refine s_stM D.length x rfl rfl hbar2 hA2 rfl rfl (by omega) fun h3 s3 => ?_
      have s3' := s2.trans s3
      have hV2 := hV.set D.length x0 x1
      have hV2l : (V.set D.length x).length = U.length := by simpa using hVl
      have eV2 : lv (V.set D.length x) = lv (V.take D.length) + B D.length * x := by
        have := lv_take_set (V := V) (k := D.length) (by omega) x
        rwa [List.take_of_length_le (by omega)] at this
      have hV2nn := lv_nonneg hV2
      have hV2lt := lv_lt hV2
      rw [hV2l, hlen, B_succ] at hV2lt
      have key : lv (V.set D.length x) + g * lv D = lv U + B D.length * (4294967296 * b') := by
        rw [eV2, eU', show x = U.getD D.length 0 - ca - bo + 4294967296 * b' by omega]
        generalize U.getD D.length 0 = uk, lv (V.take D.length) = a1, lv D = a2, lv (U.take D.length) = a3, B D.length = bk at hv ⊢
        grind
      have hA3 : UA .u32 h3.ob o (pre ++ V.set D.length x ++ post) := s3'.at hA
      have hd3 : UA .u32 h3.ob od D := (s3'.other hne).trans hd
      by_cases hb0 : b' = 0
      · subst hb0
        have hgq' : g = q := by
          have h1 : g * lv D < (q + 1) * lv D := by
            have : (q + 1) * lv D = lv D * q + lv D := by grind
            rw [this]; omega
          have := Int.lt_of_mul_lt_mul_right h1 (by omega)
          omega
        subst hgq'
        repeat' first | (with_reducible first | exact SetAt.z | apply SetAt.s | apply s_end | exact Kept.nil) | refine qq (hk := ?_) | ((with_reducible first | apply Kept.cons | apply q_blky); rfl) | ((with_reducible apply Kept.skip); rfl) | refine ww (hk := ?_) | (apply c_condP; rfl; exact bpx; all_goals intro hc) | ((first | apply s_gTP | apply s_gFP); rfl; exact bpx; all_goals intro hg) | (apply s_lalloc; rfl) | ((first | apply s_lbox); rfl; rfl; rfl) | (apply s_lstore; rfl; rfl; rfl; rfl; rfl) | (apply s_callB (hm := YC.m _ _); rfl; intro h3 o3 b3)
        exact hq _ _ s3' hV2 hV2l (by rw [Int.mul_comm] at key; omega)
      · have hb1 : b' = 1 := by omega
        subst hb1
        have hgq' : g = q + 1 := by
          apply Classical.byContradiction
          intro hne'
          have h1 : g = q := by omega
          subst h1
          rw [Int.mul_comm] at key
          omega
        subst hgq'
        have key2 : lv (V.set D.length x) + lv D = R + B D.length * 4294967296 := by
          have : (q + 1) * lv D = lv D * q + lv D := by grind
          rw [this] at key
          omega
        generalize hV2e : V.set D.length x = V2 at *
        repeat' first | (with_reducible first | exact SetAt.z | apply SetAt.s | apply s_end | exact Kept.nil) | refine qq (hk := ?_) | ((with_reducible first | apply Kept.cons | apply q_blky); rfl) | ((with_reducible apply Kept.skip); rfl) | refine ww (hk := ?_) | (apply c_condP; rfl; exact bpx; all_goals intro hc) | ((first | apply s_gTP | apply s_gFP); rfl; exact bpx; all_goals intro hg) | (apply s_lalloc; rfl) | ((first | apply s_lbox); rfl; rfl; rfl) | (apply s_lstore; rfl; rfl; rfl; rfl; rfl) | (apply s_callB (hm := YC.m _ _); rfl; intro h3 o3 b3)
        refine loopI (YC.m _ _) (fun m fr h4 => ∃ (k : Nat) (W : List Int) (cc : Int), m = D.length - k ∧ k ≤ D.length ∧ SetO h' o (some (1, (pre ++ W ++ post).map (Value.int .u32))) h4 ∧ InB W ∧ W.length = U.length ∧ W.drop k = V2.drop k ∧ 0 ≤ cc ∧ cc ≤ 1 ∧
          lv (W.take k) + B k * cc = lv (V2.take k) + lv (D.take k) ∧
          fr = ⟨[(0, .v (.slice (some ⟨o, pre.length, none⟩) U.length c)), (5, .v (.int .i64 D.length)), (7, .v (.int .u64 (q + 1))), (14, .v (.int .u32 cc)),
            (130, .v (.slice (some ⟨od, 0, none⟩) D.length D.length)), (131, .v (.int .i64 D.length)), (132, .v (.int .i64 k))], []⟩) D.length
          ⟨0, V2, 0, by omega, by omega, s3', hV2, hV2l, rfl, by omega, by omega, by simp [lv], rfl⟩ ?_
        rintro m fr h4 ⟨k, W, cc, rfl, hk', s4, hW, hWl, hWd, cc0, cc1, hw, rfl⟩
        have hA4 : UA .u32 h4.ob o (pre ++ W ++ post) := s4.at hA
        have hd4 : UA .u32 h4.ob od D := (s4.other hne).trans hd
        have uD4 := hd4.all rfl (Nat.le_refl _)
        have uW4 := hA4.mid (by omega : W.length ≤ c)
        rw [hWl] at uW4
        have hbar4 : h4.bar ≤ o := by rw [s4.bar]; exact hbar
        have hWk := getD_drop_eq hWd
        have hwx := hW.getD k
        by_cases hkl2 : k < D.length
        · have hx := hD.getD k
          repeat' first | (with_reducible first | exact SetAt.z | apply SetAt.s | apply s_end | exact Kept.nil) | refine qq (hk := ?_) | ((with_reducible first | apply Kept.cons | apply q_blky); rfl) | ((with_reducible apply Kept.skip); rfl) | refine ww (hk := ?_) | (apply c_condP; rfl; exact bpx; all_goals intro hc) | ((first | apply s_gTP | apply s_gFP); rfl; exact bpx; all_goals intro hg) | (apply s_lalloc; rfl) | ((first | apply s_lbox); rfl; rfl; rfl) | (apply s_lstore; rfl; rfl; rfl; rfl; rfl) | (apply s_callB (hm := YC.m _ _); rfl; intro h3 o3 b3) | ((with_reducible refine YCi (f := 162) ?_); refine k162' (by omega) (by omega) (by omega) fun y c' y0 y1 c0' c1' hyc => ?_)
          refine s_stM k y rfl rfl hbar4 hA4 rfl rfl (by omega) fun h5 s5 => ?_
          repeat' first | (with_reducible first | exact SetAt.z | apply SetAt.s | apply s_end | exact Kept.nil) | refine qq (hk := ?_) | ((with_reducible first | apply Kept.cons | apply q_blky); rfl) | ((with_reducible apply Kept.skip); rfl) | refine ww (hk := ?_) | (apply c_condP; rfl; exact bpx; all_goals intro hc) | ((first | apply s_gTP | apply s_gFP); rfl; exact bpx; all_goals intro hg) | (apply s_lalloc; rfl) | ((first | apply s_lbox); rfl; rfl; rfl) | (apply s_lstore; rfl; rfl; rfl; rfl; rfl) | (apply s_callB (hm := YC.m _ _); rfl; intro h3 o3 b3)
          refine q_seql (m := D.length - (k + 1)) (by omega) ⟨k + 1, W.set k y, c', rfl, by omega, s4.trans s5, hW.set _ y0 y1, by simpa using hWl, drop_set_eq hWd y, c0', c1', ?_, rfl⟩
          rw [lv_take_set (by omega), lv_take_succ D k hkl2, lv_take_succ V2 k (by omega), B_succ]
          rw [show y = V2.getD k 0 + D.getD k 0 + cc - 4294967296 * c' by omega]
          generalize D.getD k 0 = dk, V2.getD k 0 = uk, lv (W.take k) = a1, lv (D.take k) = a2, lv (V2.take k) = a3, B k = bk at hw ⊢
          grind
        · have hkn : k = D.length := by omega
          subst hkn
          have eV2' := lv_last (V := V2) (n := D.length) (by omega)
          rw [List.take_length] at hw
          have hWt0 := lv_nonneg (hW.take D.length)
          have hWt1 := lv_lt (hW.take D.length)
          rw [List.length_take, Nat.min_eq_left (by omega)] at hWt1
          have hfin := div_uniq (b := B D.length) (X := lv (W.take D.length)) (Y := V2.getD D.length 0 + cc) (R := R) (Z := 4294967296) hBN ⟨hWt0, hWt1⟩ ⟨qr0, by omega⟩ (by
            rw [Int.mul_add]; omega)
          repeat' first | (with_reducible first | exact SetAt.z | apply SetAt.s | apply s_end | exact Kept.nil) | refine qq (hk := ?_) | ((with_reducible first | apply Kept.cons | apply q_blky); rfl) | ((with_reducible apply Kept.skip); rfl) | refine ww (hk := ?_) | (apply c_condP; rfl; exact bpx; all_goals intro hc) | ((first | apply s_gTP | apply s_gFP); rfl; exact bpx; all_goals intro hg) | (apply s_lalloc; rfl) | ((first | apply s_lbox); rfl; rfl; rfl) | (apply s_lstore; rfl; rfl; rfl; rfl; rfl) | (apply s_callB (hm := YC.m _ _); rfl; intro h3 o3 b3)
          refine s_stM D.length 0 rfl rfl hbar4 hA4 rfl (by rw [hWk, hfin.1]; rfl) (by omega) fun h5 s5 => ?_
          repeat' first | (with_reducible first | exact SetAt.z | apply SetAt.s | apply s_end | exact Kept.nil) | refine qq (hk := ?_) | ((with_reducible first | apply Kept.cons | apply q_blky); rfl) | ((with_reducible apply Kept.skip); rfl) | refine ww (hk := ?_) | (apply c_condP; rfl; exact bpx; all_goals intro hc) | ((first | apply s_gTP | apply s_gFP); rfl; exact bpx; all_goals intro hg) | (apply s_lalloc; rfl) | ((first | apply s_lbox); rfl; rfl; rfl) | (apply s_lstore; rfl; rfl; rfl; rfl; rfl) | (apply s_callB (hm := YC.m _ _); rfl; intro h3 o3 b3)
          show Q (.int .u32 (q + 1 - 1)) h5
          rw [show q + 1 - 1 = q by omega]
          refine hq _ (W.set D.length 0) (s4.trans s5) (hW.set _ (by omega) (by omega)) (by simpa using hWl) ?_
          have := lv_take_set (V := W) (k := D.length) (by omega) 0
          rw [List.take_of_length_le (by simp; omega)] at this
          rw [this, hfin.2]
          omega
end
end Am
end Go.Proofs.YtfhlblclcdhbiaaGreatDoor
