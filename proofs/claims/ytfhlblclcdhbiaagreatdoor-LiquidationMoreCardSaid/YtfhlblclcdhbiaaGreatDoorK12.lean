/- The reference's long division: the function. -/
import Derived.Test.YtfhlblclcdhbiaaGreatDoorK11
namespace Go.Proofs.YtfhlblclcdhbiaaGreatDoor
open Go
set_option linter.unusedVariables false
set_option linter.unusedSimpArgs false
namespace Am
section
variable {B0 : Nat} {Q : Value → AH → Prop} {h : AH}
theorem getD_mid {pre V post : List Int} {k : Nat} (hk : k < V.length) : (pre ++ V ++ post).getD (pre.length + k) 0 = V.getD k 0 := by
  rw [List.getD_eq_getElem?_getD, List.getD_eq_getElem?_getD, List.append_assoc, List.getElem?_append_right (by omega), Nat.add_sub_cancel_left, List.getElem?_append_left hk]
set_option maxHeartbeats 8000000 in
theorem k148 {a b : Nat} {v1 v2 : Value} (hn2 : 2 ≤ (li b).length) (hla : (li b).length ≤ (li a).length) (L1 : (li a).length ≤ 274877906944) (hv1 : US .u32 h.ob (li a) v1) (hv2 : US .u32 h.ob (li b) v2)
    (hq : ∀ v' w' h', Ext h h' → US .u32 h'.ob (li (a / b)) v' → US .u32 h'.ob (li (a % b)) w' → Q (.tuple #[v', w']) h') : YC Tryz.prog B0 148 [v1, v2] Q h := by
  refine enterF mix Tryz.func148 ok148 rfl (tm := [(0, _), (1, _)]) (bx := []) rfl rfl fun hp => ?_
  have hbin := li_in b
  have ain := li_in a
  have tb := (li_trim b).getD (by omega)
  have ib := hbin.getD ((li b).length - 1)
  have hb0 : 0 < b := by
    apply Nat.pos_of_ne_zero
    rintro rfl
    rw [li_zero] at hn2
    simp at hn2
  obtain ⟨n, hn⟩ : ∃ n, (li b).length = n := ⟨_, rfl⟩
  obtain ⟨la, hlae⟩ : ∃ la, (li a).length = la := ⟨_, rfl⟩
  obtain ⟨x, hx⟩ := Int.eq_ofNat_of_zero_le ib.1
  have hx0 : 0 < x := by omega
  have hxlt : x < 4294967296 := by omega
  have hx' : (li b).getD ((n : Int) - 1).toNat 0 = (x : Int) := by
    rw [show ((n : Int) - 1).toNat = (li b).length - 1 by omega]; exact hx
  repeat' first | (with_reducible first | exact SetAt.z | apply SetAt.s | apply s_end | exact Kept.nil) | refine qq (hk := ?_) | ((with_reducible first | apply Kept.cons | apply q_blky); rfl) | ((with_reducible apply Kept.skip); rfl) | refine ww (hk := ?_) | (apply c_condP; rfl; exact bpx; all_goals intro hc) | ((first | apply s_gTP | apply s_gFP); rfl; exact bpx; all_goals intro hg) | (apply s_lalloc; rfl) | ((first | apply s_lbox); rfl; rfl; rfl) | (apply s_lstore; rfl; rfl; rfl; rfl; rfl) | (apply s_callB (hm := YC.m _ _); rfl; intro h3 o3 b3)
  rw [hn]
  refine c_cut (YC.m _ _) (fun fr h' => ∃ (s : Nat) (ex : List (Nat × TV)), h' = h ∧ s < 32 ∧ 2147483648 ≤ x * 2 ^ s ∧ x * 2 ^ s < 4294967296 ∧
    fr = ⟨(0, .v v1) :: (1, .v v2) :: (6, .v (.int .i64 n)) :: (7, .v (.int .u64 s)) :: ex, []⟩) ?_ ?_
  · refine loopI (YC.m _ _) (fun m fr h' => ∃ (s : Nat) (ex : List (Nat × TV)), m = 32 - s ∧ h' = h ∧ s < 32 ∧ x * 2 ^ s < 4294967296 ∧
      fr = ⟨(0, .v v1) :: (1, .v v2) :: (6, .v (.int .i64 n)) :: (7, .v (.int .u64 s)) :: ex, []⟩) 32 ⟨0, [], rfl, rfl, by omega, by simpa using hxlt, rfl⟩ ?_
    rintro m fr h' ⟨s, ex, rfl, rfl, hs, hxs, rfl⟩
    have hcast : ((x * 2 ^ s : Nat) : Int) = (x : Int) * 2 ^ s := by rw [Int.natCast_mul, Int.natCast_pow]; rfl
    have hshl : 0 ≤ (x : Int) * 2 ^ s ∧ (x : Int) * 2 ^ s ≤ 4294967295 := by omega
    by_cases hcc : x * 2 ^ s < 2147483648
    · have hcI : (x : Int) * 2 ^ s < 2147483648 := by omega
      repeat' first | (with_reducible first | exact SetAt.z | apply SetAt.s | apply s_end | exact Kept.nil) | refine qq (hk := ?_) | ((with_reducible first | apply Kept.cons | apply q_blky); rfl) | ((with_reducible apply Kept.skip); rfl) | (apply s_q; rfl; (first | ((with_reducible apply q_ldE); rfl; assumption; omega; exact hx') | ((with_reducible apply q_shlUN); rfl; rfl; (with_reducible rfl); omega; exact hshl))) | refine ww (hk := ?_) | (apply c_condP; rfl; exact bpx; all_goals intro hc) | ((first | apply s_gTP | apply s_gFP); rfl; exact bpx; all_goals intro hg) | (apply s_lalloc; rfl) | ((first | apply s_lbox); rfl; rfl; rfl) | (apply s_lstore; rfl; rfl; rfl; rfl; rfl) | (apply s_callB (hm := YC.m _ _); rfl; intro h3 o3 b3)
      have h2 : x * 2 ^ (s + 1) < 4294967296 := by rw [Nat.pow_succ, ← Nat.mul_assoc]; omega
      have h3 : s + 1 < 32 := by
        apply Classical.byContradiction
        intro hn
        have h4 : 2 ^ 32 ≤ 2 ^ (s + 1) := Nat.pow_le_pow_right (by decide) (by omega)
        have h5 : 1 * 2 ^ (s + 1) ≤ x * 2 ^ (s + 1) := Nat.mul_le_mul_right _ hx0
        omega
      exact q_seql (m := 32 - (s + 1)) (by omega) ⟨s + 1, _, rfl, rfl, h3, h2, rfl⟩
    · have hcI : ¬ (x : Int) * 2 ^ s < 2147483648 := by omega
      repeat' first | (with_reducible first | exact SetAt.z | apply SetAt.s | apply s_end | exact Kept.nil) | refine qq (hk := ?_) | ((with_reducible first | apply Kept.cons | apply q_blky); rfl) | ((with_reducible apply Kept.skip); rfl) | (apply s_q; rfl; (first | ((with_reducible apply q_ldE); rfl; assumption; omega; exact hx') | ((with_reducible apply q_shlUN); rfl; rfl; (with_reducible rfl); omega; exact hshl))) | refine ww (hk := ?_) | (apply c_condP; rfl; exact bpx; all_goals intro hc) | ((first | apply s_gTP | apply s_gFP); rfl; exact bpx; all_goals intro hg) | (apply s_lalloc; rfl) | ((first | apply s_lbox); rfl; rfl; rfl) | (apply s_lstore; rfl; rfl; rfl; rfl; rfl) | (apply s_callB (hm := YC.m _ _); rfl; intro h3 o3 b3)
      exact q_only ⟨s, _, rfl, hs, by omega, hxs, rfl⟩
  · rintro fr h' ⟨s, ex, rfl, hs, hs1, hs2, rfl⟩
    obtain ⟨hbs_hi, hbs_lo⟩ := norm_top hbin (by omega) hx hs hs1 hs2
    rw [hn] at hbs_hi hbs_lo
    have h2s := p2 s
    have hBp := B_pos (n - 1)
    repeat' first | (with_reducible first | exact SetAt.z | apply SetAt.s | apply s_end | exact Kept.nil) | refine qq (hk := ?_) | ((with_reducible first | apply Kept.cons | apply q_blky); rfl) | ((with_reducible apply Kept.skip); rfl) | refine ww (hk := ?_) | (apply c_condP; rfl; exact bpx; all_goals intro hc) | ((first | apply s_gTP | apply s_gFP); rfl; exact bpx; all_goals intro hg) | (apply s_lalloc; rfl) | ((first | apply s_lbox); rfl; rfl; rfl) | (apply s_lstore; rfl; rfl; rfl; rfl; rfl) | (apply s_callB (hm := YC.m _ _); rfl; intro h3 o3 b3)
    refine k163 ain (by omega) hv1 hs fun ou h2 A hou e2 hA hAi hAl hAv => ?_
    rw [hlae] at hAl ⊢
    have hv2' := hv2.ext e2
    have hv1' := hv1.ext e2
    repeat' first | (with_reducible first | exact SetAt.z | apply SetAt.s | apply s_end | exact Kept.nil) | refine qq (hk := ?_) | ((with_reducible first | apply Kept.cons | apply q_blky); rfl) | ((with_reducible apply Kept.skip); rfl) | refine ww (hk := ?_) | (apply c_condP; rfl; exact bpx; all_goals intro hc) | ((first | apply s_gTP | apply s_gFP); rfl; exact bpx; all_goals intro hg) | (apply s_lalloc; rfl) | ((first | apply s_lbox); rfl; rfl; rfl) | (apply s_lstore; rfl; rfl; rfl; rfl; rfl) | (apply s_callB (hm := YC.m _ _); rfl; intro h3 o3 b3)
    refine k163 hbin (by omega) hv2' hs fun od h3 Df hod e3 hDf hDfi hDfl hDfv => ?_
    rw [hn] at hDfl ⊢
    have hA3 : UA .u32 h3.ob ou A := e3.row hA
    have hv1'' := hv1'.ext e3
    have houl : ou < h2.ob.length := (List.getElem?_eq_some_iff.mp hA).1
    have uDf := hDf.all hDfl.symm (Nat.le_refl _)
    have hlenI : ((li a).length : Int) = la := by omega
    repeat' first | (with_reducible first | exact SetAt.z | apply SetAt.s | apply s_end | exact Kept.nil) | refine qq (hk := ?_) | ((with_reducible first | apply Kept.cons | apply q_blky); rfl) | ((with_reducible apply Kept.skip); rfl) | refine ww (hk := ?_) | (apply c_condP; rfl; exact bpx; all_goals intro hc) | ((first | apply s_gTP | apply s_gFP); rfl; exact bpx; all_goals intro hg) | (apply s_lalloc; rfl) | ((first | apply s_lbox); rfl; rfl; rfl) | (apply s_lstore; rfl; rfl; rfl; rfl; rfl) | (apply s_callB (hm := YC.m _ _); rfl; intro h3 o3 b3)
    rw [hlenI]
    refine s_mk rfl rfl (by omega) fun h4 n4 => ?_
    rw [reps_U] at n4
    obtain ⟨M, hMe⟩ : ∃ M, la - n + 1 = M := ⟨_, rfl⟩
    have hM : ((la : Int) - n + 1).toNat = M := by omega
    rw [hM] at n4 ⊢
    have e4 := n4.ext
    have hA4 : UA .u32 h4.ob ou A := e4.row hA3
    have hDf4 : UA .u32 h4.ob od Df := e4.row hDf
    have hv14 := hv1''.ext e4
    have hodl : od < h3.ob.length := (List.getElem?_eq_some_iff.mp hDf).1
    have hq4 := n4.at
    obtain ⟨oq, hoq⟩ : ∃ oq, h3.ob.length = oq := ⟨_, rfl⟩
    rw [hoq] at hq4 ⊢
    have ee4 := (e2.trans e3).trans e4
    have hbar2 := e2.bar
    have hbar3 := e3.bar
    have hbar4 := e4.bar
    have hoo := e2.len
    have hoo3 := e3.len
    have hDfv' : lv (Df.take n) = lv Df := by
      have f1 := lv_split Df n (by omega)
      have f2 := lv_nonneg (hDfi.drop n)
      have f3 := lv_nonneg (hDfi.take n)
      apply Classical.byContradiction
      intro hne
      have h1 : B n * 1 ≤ B n * lv (Df.drop n) := by
        refine Int.mul_le_mul_of_nonneg_left ?_ (by have := B_pos n; omega)
        apply Classical.byContradiction
        intro hz
        have hz' : lv (Df.drop n) = 0 := by omega
        rw [hz'] at f1
        omega
      omega
    obtain ⟨D, hDe⟩ : ∃ D, Df.take n = D := ⟨_, rfl⟩
    have hDi : InB D := by rw [← hDe]; exact hDfi.take n
    have hDl : D.length = n := by rw [← hDe]; simp; omega
    rw [hDe] at hDfv'
    have hDv : lv D = b * 2 ^ s := by rw [hDfv', hDfv, lv_li]
    rw [lv_li] at hAv hbs_hi hbs_lo
    have hDtop : 2147483648 ≤ D.getD (n - 1) 0 := by
      have e1 := lv_last (V := D) (n := n - 1) (by omega)
      have e2 := lv_lt (hDi.take (n - 1))
      rw [List.length_take, Nat.min_eq_left (by omega)] at e2
      rw [← hDv, e1] at hbs_lo
      have e3 : B (n - 1) * 2147483648 < B (n - 1) * (D.getD (n - 1) 0 + 1) := by rw [Int.mul_add _ _ 1]; omega
      have e4 := Int.lt_of_mul_lt_mul_left e3 (by omega)
      omega
    have hDpos : 0 < lv D := by
      rw [hDv]
      have : B (n - 1) * 0 < B (n - 1) * 2147483648 := Int.mul_lt_mul_of_pos_left (by decide) hBp
      omega
    have hDlt : lv D < B n := by rw [hDv]; exact hbs_hi
    have hstart : lv (A.drop M) < lv D := by
      have e1 := lv_split A M (by omega)
      have e2 := lv_nonneg (hAi.take M)
      have e3 := lv_lt ain
      rw [lv_li] at e3
      have e5 : B (li a).length = B M * B (n - 1) := by rw [← B_add]; congr 1; omega
      have e6 : (a : Int) * 2 ^ s < B (li a).length * 2 ^ s := Int.mul_lt_mul_of_pos_right e3 h2s
      have e7 : (2 : Int) ^ s ≤ 2147483648 := by
        have h2 : (2 : Int) ^ s ≤ 2 ^ 31 := by exact_mod_cast Nat.pow_le_pow_right (n := 2) (by decide) (show s ≤ 31 by omega)
        exact h2
      have e8 : B (n - 1) * 2 ^ s ≤ B (n - 1) * 2147483648 := Int.mul_le_mul_of_nonneg_left e7 (by omega)
      have e9 : B M * (B (n - 1) * 2 ^ s) ≤ B M * lv D := Int.mul_le_mul_of_nonneg_left (by omega) (by have := B_pos M; omega)
      have e10 : B M * B (n - 1) * 2 ^ s = B M * (B (n - 1) * 2 ^ s) := by grind
      rw [e5] at e6
      have e11 : B M * lv (A.drop M) < B M * lv D := by omega
      exact Int.lt_of_mul_lt_mul_left e11 (by have := B_pos M; omega)
    have uD : ∀ {h5 : AH}, UA .u32 h5.ob od Df → US .u32 h5.ob D (.slice (some ⟨od, 0, none⟩) n (n + 1)) := by
      intro h5 hh
      have := hh.us (m := n) (c := n + 1) (by omega) (by omega)
      rwa [hDe] at this
    clear uDf
    repeat' first | (with_reducible first | exact SetAt.z | apply SetAt.s | apply s_end | exact Kept.nil) | refine qq (hk := ?_) | ((with_reducible first | apply Kept.cons | apply q_blky); rfl) | ((with_reducible apply Kept.skip); rfl) | refine ww (hk := ?_) | (apply c_condP; rfl; exact bpx; all_goals intro hc) | ((first | apply s_gTP | apply s_gFP); rfl; exact bpx; all_goals intro hg) | (apply s_lalloc; rfl) | ((first | apply s_lbox); rfl; rfl; rfl) | (apply s_lstore; rfl; rfl; rfl; rfl; rfl) | (apply s_callB (hm := YC.m _ _); rfl; intro h3 o3 b3)
    refine loopI (YC.m _ _) (fun m fr h5 => ∃ (A' qv : List Int), m ≤ M ∧ Ext h' h5 ∧ UA .u32 h5.ob od Df ∧ UA .u32 h5.ob ou A' ∧ UA .u32 h5.ob oq qv ∧ InB A' ∧ A'.length = la + 1 ∧ InB qv ∧ qv.length = M ∧ lv (A'.drop m) < lv D ∧ lv A = lv A' + lv D * (B m * lv (qv.drop m)) ∧
      fr = ⟨[(6, .v (.int .i64 n)), (7, .v (.int .u64 s)), (8, .v (.slice (some ⟨ou, 0, none⟩) (la + 1) (la + 1))), (9, .v (.slice (some ⟨od, 0, none⟩) n (n + 1))), (10, .v (.slice (some ⟨oq, 0, none⟩) M M)), (11, .v (.int .i64 ((m : Int) - 1)))], []⟩) M
      ⟨A, List.replicate M 0, Nat.le_refl _, ee4, hDf4, hA4, hq4, hAi, hAl, InB.replicate _, by simp, hstart, by rw [List.drop_eq_nil_of_le (by simp)]; simp [lv], by rw [show ((M : Int) - 1) = (li a).length - n by omega]; rfl⟩ ?_
    rintro m fr h5 ⟨A', qv, hm, e5, hDf5, hA5, hq5, hA'i, hA'l, hqi, hql, hdl, hinv, rfl⟩
    have hbar5 := e5.bar
    by_cases hm0 : 0 < m
    · obtain ⟨pre, U, post, hsplit, hpl, hUl⟩ : ∃ pre U post, A' = pre ++ U ++ post ∧ pre.length = m - 1 ∧ U.length = n + 1 :=
        ⟨A'.take (m - 1), (A'.drop (m - 1)).take (n + 1), (A'.drop (m - 1)).drop (n + 1), by rw [List.append_assoc, List.take_append_drop, List.take_append_drop], by simp; omega, by simp; omega⟩
      subst hsplit
      have hpre := InB.left (InB.left hA'i)
      have hUi := InB.right (InB.left hA'i)
      have hpost := InB.right hA'i
      have hlvd : lv ((pre ++ U ++ post).drop (m - 1)) = lv U + B (n + 1) * lv post := by
        rw [List.append_assoc, List.drop_append_of_le_length (by omega), List.drop_eq_nil_of_le (by omega), List.nil_append, lv_append, hUl]
      have hsucc := lv_drop_succ (pre ++ U ++ post) (m - 1) (by omega)
      rw [show m - 1 + 1 = m by omega] at hsucc
      have hg0 := hA'i.getD (m - 1)
      have hUnn := lv_nonneg hUi
      have hpnn := lv_nonneg hpost
      have hpost0 : lv post = 0 := by
        apply Classical.byContradiction
        intro hne
        have h1 : B (n + 1) * 1 ≤ B (n + 1) * lv post := Int.mul_le_mul_of_nonneg_left (by omega) (by have := B_pos (n + 1); omega)
        have h2 := B_succ n
        omega
      rw [hpost0] at hlvd
      have hUlt : lv U < lv D * 4294967296 := by omega
      have gf := guess_facts (n := n - 2) (by omega) (by omega) hUi hDi (by rw [show n - 2 + 1 = n - 1 by omega]; exact hDtop) hUlt
      rw [show n - 2 + 1 = n - 1 by omega, show n - 2 + 2 = n by omega] at gf
      obtain ⟨d1, hd1⟩ : ∃ d1, D.getD (n - 1) 0 = d1 := ⟨_, rfl⟩
      obtain ⟨d0, hd0⟩ : ∃ d0, D.getD (n - 2) 0 = d0 := ⟨_, rfl⟩
      obtain ⟨u2, hu2⟩ : ∃ u2, U.getD n 0 = u2 := ⟨_, rfl⟩
      obtain ⟨u1, hu1⟩ : ∃ u1, U.getD (n - 1) 0 = u1 := ⟨_, rfl⟩
      obtain ⟨u0, hu0⟩ : ∃ u0, U.getD (n - 2) 0 = u0 := ⟨_, rfl⟩
      have b1 := hDi.getD (n - 1)
      have b0 := hDi.getD (n - 2)
      have c2 := hUi.getD n
      have c1 := hUi.getD (n - 1)
      have c0 := hUi.getD (n - 2)
      have mid : ∀ (V : List Int) (k : Nat), V.length = n + 1 → k ≤ n → ∀ j : Int, j = (m : Int) - 1 + k → (pre ++ V ++ post).getD j.toNat 0 = V.getD k 0 := by
        intro V k hV hk j hj
        rw [show j.toNat = pre.length + k by omega]
        exact getD_mid (by omega)
      have fd1 : D.getD ((n : Int) - 1).toNat 0 = d1 := by rw [show ((n : Int) - 1).toNat = n - 1 by omega]; exact hd1
      have fd0 : D.getD ((n : Int) - 2).toNat 0 = d0 := by rw [show ((n : Int) - 2).toNat = n - 2 by omega]; exact hd0
      have fu2 : (pre ++ U ++ post).getD ((m : Int) - 1 + n).toNat 0 = u2 := by rw [mid U n hUl (by omega) _ (by omega)]; exact hu2
      have fu1 : (pre ++ U ++ post).getD ((m : Int) - 1 + n - 1).toNat 0 = u1 := by rw [mid U (n - 1) hUl (by omega) _ (by omega)]; exact hu1
      have fu0 : (pre ++ U ++ post).getD ((m : Int) - 1 + n - 2).toNat 0 = u0 := by rw [mid U (n - 2) hUl (by omega) _ (by omega)]; exact hu0
      rw [hd1] at gf b1 hDtop
      rw [hd0] at gf b0
      rw [hu2] at gf c2
      rw [hu1] at gf c1
      rw [hu0] at gf c0
      obtain ⟨gpos, gnn, q0, q1, gfirst, gfle, gr0, gr1, gdm, gbig, gnear, qm, qr0, qr1⟩ := gf
      obtain ⟨q, hqv⟩ : ∃ q, lv U / lv D = q := ⟨_, rfl⟩
      obtain ⟨R, hRv⟩ : ∃ R, lv U % lv D = R := ⟨_, rfl⟩
      rw [hqv] at q0 q1 qm gfirst gbig gnear
      rw [hRv] at qm qr0 qr1
      have uD5 := uD hDf5
      have uA5 := hA5.all hA'l.symm (Nat.le_refl _)
      have hcl : (pre ++ U ++ post).length = la + 1 := hA'l
      -- what the division of a digit has to give
      have done : ∀ (U' : List Int) (h6 h7 : AH), SetO h5 ou (some (1, (pre ++ U' ++ post).map (Value.int .u32))) h6 → SetO h6 oq (some (1, (qv.set (m - 1) q).map (Value.int .u32))) h7 → InB U' → U'.length = n + 1 → lv U' = R →
          ∃ (A' qv : List Int), m - 1 ≤ M ∧ Ext h' h7 ∧ UA .u32 h7.ob od Df ∧ UA .u32 h7.ob ou A' ∧ UA .u32 h7.ob oq qv ∧ InB A' ∧ A'.length = la + 1 ∧ InB qv ∧ qv.length = M ∧ lv (A'.drop (m - 1)) < lv D ∧ lv A = lv A' + lv D * (B (m - 1) * lv (qv.drop (m - 1))) ∧
            (⟨[(6, .v (.int .i64 n)), (7, .v (.int .u64 s)), (8, .v (.slice (some ⟨ou, 0, none⟩) (la + 1) (la + 1))), (9, .v (.slice (some ⟨od, 0, none⟩) n (n + 1))), (10, .v (.slice (some ⟨oq, 0, none⟩) M M)), (11, .v (.int .i64 ((m : Int) - 1 - 1)))], []⟩ : Fr) =
            ⟨[(6, .v (.int .i64 n)), (7, .v (.int .u64 s)), (8, .v (.slice (some ⟨ou, 0, none⟩) (la + 1) (la + 1))), (9, .v (.slice (some ⟨od, 0, none⟩) n (n + 1))), (10, .v (.slice (some ⟨oq, 0, none⟩) M M)), (11, .v (.int .i64 (((m - 1 : Nat) : Int) - 1)))], []⟩ := by
        intro U' h6 h7 s6 s7 hU'i hU'l hU'v
        have hq6 : UA .u32 h6.ob oq qv := (s6.other (by omega)).trans hq5
        have hD6 : UA .u32 h6.ob od Df := (s6.other (by omega)).trans hDf5
        have hA6 : UA .u32 h6.ob ou (pre ++ U' ++ post) := s6.at hA5
        have e6 := s6.ext e5 (by omega)
        refine ⟨pre ++ U' ++ post, qv.set (m - 1) q, by omega, s7.ext e6 (by omega), (s7.other (by omega)).trans hD6, (s7.other (by omega)).trans hA6, s7.at hq6, (hpre.append hU'i).append hpost, by simp at hA'l ⊢; omega, hqi.set _ q0 q1, by simpa using hql, ?_, ?_, by rw [Int.ofNat_sub (by omega)]; rfl⟩
        · rw [List.append_assoc, List.drop_append_of_le_length (by omega), List.drop_eq_nil_of_le (by omega), List.nil_append, lv_append, hpost0, hU'v]
          omega
        · rw [hinv, lv_app, lv_app, hU'l, hUl, hpost0, hU'v, hpl, drop_set (by omega), lv, show m - 1 + 1 = m by omega]
          have hBm : B m = 4294967296 * B (m - 1) := by rw [← B_succ]; congr 1; omega
          rw [hBm]
          generalize lv (qv.drop m) = x1
          generalize B (m - 1) = x4, B (n + 1) = x5, lv pre = x6
          generalize lv U = x7, lv D = x8 at qm ⊢
          subst qm
          grind
      repeat' first | (with_reducible first | exact SetAt.z | apply SetAt.s | apply s_end | exact Kept.nil) | refine qq (hk := ?_) | ((with_reducible first | apply Kept.cons | apply q_blky); rfl) | ((with_reducible apply Kept.skip); rfl) | (apply s_q; rfl; (first | ((with_reducible apply q_ldE); rfl; assumption; omega; assumption))) | refine ww (hk := ?_) | (apply c_condP; rfl; exact bpx; all_goals intro hc) | ((first | apply s_gTP | apply s_gFP); rfl; exact bpx; all_goals intro hg) | (apply s_lalloc; rfl) | ((first | apply s_lbox); rfl; rfl; rfl) | (apply s_lstore; rfl; rfl; rfl; rfl; rfl) | (apply s_callB (hm := YC.m _ _); rfl; intro h3 o3 b3)
      refine c_cut (YC.m _ _) (fun fr h6 => ∃ (g r : Int) (ex : List (Nat × TV)), h6 = h5 ∧ q ≤ g ∧ g ≤ q + 1 ∧ g ≤ 4294967296 ∧
        fr = ⟨(6, .v (.int .i64 n)) :: (7, .v (.int .u64 s)) :: (8, .v (.slice (some ⟨ou, 0, none⟩) (la + 1) (la + 1))) :: (9, .v (.slice (some ⟨od, 0, none⟩) n (n + 1))) :: (10, .v (.slice (some ⟨oq, 0, none⟩) M M)) :: (11, .v (.int .i64 ((m : Int) - 1))) :: (13, .v (.int .u64 g)) :: (14, .v (.int .u64 r)) :: ex, []⟩) ?_ ?_
      · clear done
        refine loopI (YC.m _ _) (fun k fr h6 => ∃ (g r : Int) (ex : List (Nat × TV)), k = (4294967296 - r).toNat ∧ h6 = h5 ∧ g * d1 + r = u2 * 4294967296 + u1 ∧ q ≤ g ∧ 0 ≤ r ∧ r < 4294967296 ∧ g ≤ 4294967297 ∧
          fr = ⟨(6, .v (.int .i64 n)) :: (7, .v (.int .u64 s)) :: (8, .v (.slice (some ⟨ou, 0, none⟩) (la + 1) (la + 1))) :: (9, .v (.slice (some ⟨od, 0, none⟩) n (n + 1))) :: (10, .v (.slice (some ⟨oq, 0, none⟩) M M)) :: (11, .v (.int .i64 ((m : Int) - 1))) :: (13, .v (.int .u64 g)) :: (14, .v (.int .u64 r)) :: ex, []⟩) _
          ⟨_, _, [], rfl, rfl, gdm, gfirst, gr0, by omega, gfle, rfl⟩ ?_
        rintro k fr h6 ⟨g, r, ex, rfl, rfl, hgr, hqg, hr0', hr1', hgle', rfl⟩
        have hdec : (g - 1) * d1 + (r + d1) = u2 * 4294967296 + u1 := by rw [Int.sub_mul]; omega
        have hbr : g - 1 ≤ 4294967296 → 1 ≤ g → r + d1 ≥ 4294967296 → g - 1 ≤ q + 1 := by
          intro h1 h2 h3
          refine gnear _ _ (by omega) (by omega) h1 hdec ?_
          have : (g - 1) * d0 ≤ 4294967296 * d0 := Int.mul_le_mul_of_nonneg_right h1 (by omega)
          omega
        by_cases hgB : g < 4294967296
        · have hmul : 0 ≤ g * d0 ∧ g * d0 ≤ 18446744065119617025 := by
            refine ⟨Int.mul_nonneg (by omega) (by omega), ?_⟩
            have h1 : g * d0 ≤ 4294967295 * d0 := Int.mul_le_mul_of_nonneg_right (by omega) (by omega)
            omega
          by_cases ht : g * d0 > r * 4294967296 + u0
          · have := gbig g r (by omega) hr0' hgr (by omega)
            repeat' first | (with_reducible first | exact SetAt.z | apply SetAt.s | apply s_end | exact Kept.nil) | refine qq (hk := ?_) | ((with_reducible first | apply Kept.cons | apply q_blky); rfl) | ((with_reducible apply Kept.skip); rfl) | (apply s_q; rfl; (first | ((with_reducible apply q_ldE); rfl; assumption; omega; assumption))) | refine ww (hk := ?_) | (apply c_condP; rfl; exact bpx; all_goals intro hc) | ((first | apply s_gTP | apply s_gFP); rfl; exact bpx; all_goals intro hg) | (apply s_lalloc; rfl) | ((first | apply s_lbox); rfl; rfl; rfl) | (apply s_lstore; rfl; rfl; rfl; rfl; rfl) | (apply s_callB (hm := YC.m _ _); rfl; intro h3 o3 b3)
            · exact q_only ⟨g - 1, r + d1, _, rfl, by omega, hbr (by omega) (by omega) (by omega), by omega, rfl⟩
            · exact q_seql (by omega) ⟨g - 1, r + d1, _, rfl, rfl, hdec, by omega, by omega, by omega, by omega, rfl⟩
          · have := gnear g r (by omega) hr0' (by omega) hgr (by omega)
            repeat' first | (with_reducible first | exact SetAt.z | apply SetAt.s | apply s_end | exact Kept.nil) | refine qq (hk := ?_) | ((with_reducible first | apply Kept.cons | apply q_blky); rfl) | ((with_reducible apply Kept.skip); rfl) | (apply s_q; rfl; (first | ((with_reducible apply q_ldE); rfl; assumption; omega; assumption))) | refine ww (hk := ?_) | (apply c_condP; rfl; exact bpx; all_goals intro hc) | ((first | apply s_gTP | apply s_gFP); rfl; exact bpx; all_goals intro hg) | (apply s_lalloc; rfl) | ((first | apply s_lbox); rfl; rfl; rfl) | (apply s_lstore; rfl; rfl; rfl; rfl; rfl) | (apply s_callB (hm := YC.m _ _); rfl; intro h3 o3 b3)
            exact q_only ⟨g, r, _, rfl, by omega, this, by omega, rfl⟩
        · repeat' first | (with_reducible first | exact SetAt.z | apply SetAt.s | apply s_end | exact Kept.nil) | refine qq (hk := ?_) | ((with_reducible first | apply Kept.cons | apply q_blky); rfl) | ((with_reducible apply Kept.skip); rfl) | (apply s_q; rfl; (first | ((with_reducible apply q_ldE); rfl; assumption; omega; assumption))) | refine ww (hk := ?_) | (apply c_condP; rfl; exact bpx; all_goals intro hc) | ((first | apply s_gTP | apply s_gFP); rfl; exact bpx; all_goals intro hg) | (apply s_lalloc; rfl) | ((first | apply s_lbox); rfl; rfl; rfl) | (apply s_lstore; rfl; rfl; rfl; rfl; rfl) | (apply s_callB (hm := YC.m _ _); rfl; intro h3 o3 b3)
          · exact q_only ⟨g - 1, r + d1, _, rfl, by omega, hbr (by omega) (by omega) (by omega), by omega, rfl⟩
          · exact q_seql (by omega) ⟨g - 1, r + d1, _, rfl, rfl, hdec, by omega, by omega, by omega, by omega, rfl⟩
      · clear gbig gnear gdm gfirst gfle gr0 gr1 fd1 fd0 fu2 fu1 fu0 hu0 hu1 hu2 hd0 hd1 hinv hdl hsucc hlvd hstart
        rintro fr h6 ⟨g, r, ex, rfl, hqg, hgq, hgB, rfl⟩
        repeat' first | (with_reducible first | exact SetAt.z | apply SetAt.s | apply s_end | exact Kept.nil) | refine qq (hk := ?_) | ((with_reducible first | apply Kept.cons | apply q_blky); rfl) | ((with_reducible apply Kept.skip); rfl) | refine ww (hk := ?_) | (apply c_condP; rfl; exact bpx; all_goals intro hc) | ((first | apply s_gTP | apply s_gFP); rfl; exact bpx; all_goals intro hg) | (apply s_lalloc; rfl) | ((first | apply s_lbox); rfl; rfl; rfl) | (apply s_lstore; rfl; rfl; rfl; rfl; rfl) | (apply s_callB (hm := YC.m _ _); rfl; intro h3 o3 b3)
        refine loopI (YC.m _ _) (fun z fr h2 => ∃ (k : Nat) (V : List Int) (ca bo : Int), z = n - k ∧ k ≤ n ∧ SetO h6 ou (some (1, (pre ++ V ++ post).map (Value.int .u32))) h2 ∧ InB V ∧ V.length = n + 1 ∧ V.drop k = U.drop k ∧ 0 ≤ ca ∧ ca < 4294967296 ∧ 0 ≤ bo ∧ bo ≤ 1 ∧
          lv (V.take k) + g * lv (D.take k) = lv (U.take k) + B k * (bo + ca) ∧
          fr = ⟨[(6, .v (.int .i64 n)), (7, .v (.int .u64 s)), (8, .v (.slice (some ⟨ou, 0, none⟩) (la + 1) (la + 1))), (9, .v (.slice (some ⟨od, 0, none⟩) n (n + 1))), (10, .v (.slice (some ⟨oq, 0, none⟩) M M)), (11, .v (.int .i64 ((m : Int) - 1))), (13, .v (.int .u64 g)), (15, .v (.int .u64 ca)), (16, .v (.int .u64 bo)), (17, .v (.int .i64 k))], []⟩) n
          ⟨0, U, 0, 0, by omega, by omega, SetO.self hA5, hUi, hUl, rfl, by omega, by omega, by omega, by omega, by simp [lv], rfl⟩ ?_
        rintro z fr h8 ⟨k, V, ca, bo, rfl, hk, s8, hV, hVl, hVd, ca0, ca1, bo0, bo1, hv, rfl⟩
        have hA8 : UA .u32 h8.ob ou (pre ++ V ++ post) := s8.at hA5
        have hD8 : UA .u32 h8.ob od Df := (s8.other (by omega)).trans hDf5
        have uD8 := uD hD8
        have hl8 : (pre ++ V ++ post).length = la + 1 := by simp at hcl ⊢; omega
        have uA8 := hA8.all hl8.symm (Nat.le_refl _)
        have hbar8 : h8.bar ≤ ou := by rw [s8.bar]; omega
        have hVk := getD_drop_eq hVd
        have hy := hV.getD k
        have hread : (pre ++ V ++ post).getD ((m : Int) - 1 + k).toNat 0 = V.getD k 0 := mid V k hVl hk _ rfl
        by_cases hkl : k < n
        · have hx := hDi.getD k
          have hmul : 0 ≤ g * D.getD k 0 ∧ g * D.getD k 0 ≤ 18446744069414584320 := by
            refine ⟨Int.mul_nonneg (by omega) (by omega), ?_⟩
            have h1 : g * D.getD k 0 ≤ 4294967296 * D.getD k 0 := Int.mul_le_mul_of_nonneg_right (by omega) (by omega)
            omega
          have hdm := Int.emod_add_mul_ediv (ca + g * D.getD k 0) 4294967296
          have fin : ∀ (b' y : Int) (h9 : AH), 0 ≤ b' → b' ≤ 1 → y = V.getD k 0 - ((ca + g * D.getD k 0) % 4294967296 + bo) + 4294967296 * b' → 0 ≤ y → y < 4294967296 → SetO h8 ou (some (1, (pre ++ V.set k y ++ post).map (Value.int .u32))) h9 →
              ∃ (k' : Nat) (V' : List Int) (c' b2 : Int), n - (k + 1) = n - k' ∧ k' ≤ n ∧ SetO h6 ou (some (1, (pre ++ V' ++ post).map (Value.int .u32))) h9 ∧ InB V' ∧ V'.length = n + 1 ∧ V'.drop k' = U.drop k' ∧ 0 ≤ c' ∧ c' < 4294967296 ∧ 0 ≤ b2 ∧ b2 ≤ 1 ∧
                lv (V'.take k') + g * lv (D.take k') = lv (U.take k') + B k' * (b2 + c') ∧
                (⟨[(6, .v (.int .i64 n)), (7, .v (.int .u64 s)), (8, .v (.slice (some ⟨ou, 0, none⟩) (la + 1) (la + 1))), (9, .v (.slice (some ⟨od, 0, none⟩) n (n + 1))), (10, .v (.slice (some ⟨oq, 0, none⟩) M M)), (11, .v (.int .i64 ((m : Int) - 1))), (13, .v (.int .u64 g)), (15, .v (.int .u64 ((ca + g * D.getD k 0) / 4294967296))), (16, .v (.int .u64 b')), (17, .v (.int .i64 ((k : Int) + 1)))], []⟩ : Fr) =
                ⟨[(6, .v (.int .i64 n)), (7, .v (.int .u64 s)), (8, .v (.slice (some ⟨ou, 0, none⟩) (la + 1) (la + 1))), (9, .v (.slice (some ⟨od, 0, none⟩) n (n + 1))), (10, .v (.slice (some ⟨oq, 0, none⟩) M M)), (11, .v (.int .i64 ((m : Int) - 1))), (13, .v (.int .u64 g)), (15, .v (.int .u64 c')), (16, .v (.int .u64 b2)), (17, .v (.int .i64 k'))], []⟩ := by
            intro b' y h9 c0' c1' hy' y0 y1 s9
            refine ⟨k + 1, V.set k y, (ca + g * D.getD k 0) / 4294967296, b', rfl, by omega, s8.trans s9, hV.set _ y0 y1, by simpa using hVl, drop_set_eq hVd y, by omega, by omega, c0', c1', ?_, rfl⟩
            rw [lv_take_set (by omega), lv_take_succ D k (by omega), lv_take_succ U k (by omega), B_succ]
            have hx' : y = U.getD k 0 - (ca + g * D.getD k 0) + 4294967296 * ((ca + g * D.getD k 0) / 4294967296) - bo + 4294967296 * b' := by omega
            rw [hx']
            generalize (ca + g * D.getD k 0) / 4294967296 = c'
            generalize D.getD k 0 = dk, U.getD k 0 = uk, lv (V.take k) = a1, lv (D.take k) = a2, lv (U.take k) = a3, B k = bk at hv ⊢
            grind
          by_cases hcmp : V.getD k 0 < (ca + g * D.getD k 0) % 4294967296 + bo
          · repeat' first | (with_reducible first | exact SetAt.z | apply SetAt.s | apply s_end | exact Kept.nil) | refine qq (hk := ?_) | ((with_reducible first | apply Kept.cons | apply q_blky); rfl) | ((with_reducible apply Kept.skip); rfl) | (apply s_q; rfl; (first | ((with_reducible apply q_ldE); rfl; assumption; omega; exact hread) | ((with_reducible apply q_andM); rfl; rfl; omega))) | refine ww (hk := ?_) | (apply c_condP; rfl; exact bpx; all_goals intro hc) | ((first | apply s_gTP | apply s_gFP); rfl; exact bpx; all_goals intro hg) | (apply s_lalloc; rfl) | ((first | apply s_lbox); rfl; rfl; rfl) | (apply s_lstore; rfl; rfl; rfl; rfl; rfl) | (apply s_callB (hm := YC.m _ _); rfl; intro h3 o3 b3)
            refine s_stM k (V.getD k 0 - ((ca + g * D.getD k 0) % 4294967296 + bo) + 4294967296 * 1) rfl rfl hbar8 hA8 (by omega) (by omega) (by omega) fun h9 s9 => ?_
            repeat' first | (with_reducible first | exact SetAt.z | apply SetAt.s | apply s_end | exact Kept.nil) | refine qq (hk := ?_) | ((with_reducible first | apply Kept.cons | apply q_blky); rfl) | ((with_reducible apply Kept.skip); rfl) | refine ww (hk := ?_) | (apply c_condP; rfl; exact bpx; all_goals intro hc) | ((first | apply s_gTP | apply s_gFP); rfl; exact bpx; all_goals intro hg) | (apply s_lalloc; rfl) | ((first | apply s_lbox); rfl; rfl; rfl) | (apply s_lstore; rfl; rfl; rfl; rfl; rfl) | (apply s_callB (hm := YC.m _ _); rfl; intro h3 o3 b3)
            exact q_seql (m := n - (k + 1)) (by omega) (fin 1 _ h9 (by omega) (by omega) rfl (by omega) (by omega) s9)
          · repeat' first | (with_reducible first | exact SetAt.z | apply SetAt.s | apply s_end | exact Kept.nil) | refine qq (hk := ?_) | ((with_reducible first | apply Kept.cons | apply q_blky); rfl) | ((with_reducible apply Kept.skip); rfl) | (apply s_q; rfl; (first | ((with_reducible apply q_ldE); rfl; assumption; omega; exact hread) | ((with_reducible apply q_andM); rfl; rfl; omega))) | refine ww (hk := ?_) | (apply c_condP; rfl; exact bpx; all_goals intro hc) | ((first | apply s_gTP | apply s_gFP); rfl; exact bpx; all_goals intro hg) | (apply s_lalloc; rfl) | ((first | apply s_lbox); rfl; rfl; rfl) | (apply s_lstore; rfl; rfl; rfl; rfl; rfl) | (apply s_callB (hm := YC.m _ _); rfl; intro h3 o3 b3)
            refine s_stM k (V.getD k 0 - ((ca + g * D.getD k 0) % 4294967296 + bo) + 4294967296 * 0) rfl rfl hbar8 hA8 (by omega) (by omega) (by omega) fun h9 s9 => ?_
            repeat' first | (with_reducible first | exact SetAt.z | apply SetAt.s | apply s_end | exact Kept.nil) | refine qq (hk := ?_) | ((with_reducible first | apply Kept.cons | apply q_blky); rfl) | ((with_reducible apply Kept.skip); rfl) | refine ww (hk := ?_) | (apply c_condP; rfl; exact bpx; all_goals intro hc) | ((first | apply s_gTP | apply s_gFP); rfl; exact bpx; all_goals intro hg) | (apply s_lalloc; rfl) | ((first | apply s_lbox); rfl; rfl; rfl) | (apply s_lstore; rfl; rfl; rfl; rfl; rfl) | (apply s_callB (hm := YC.m _ _); rfl; intro h3 o3 b3)
            exact q_seql (m := n - (k + 1)) (by omega) (fin 0 _ h9 (by omega) (by omega) rfl (by omega) (by omega) s9)
        · have hkn : k = n := by omega
          subst hkn
          have eV := lv_last (V := V) (n := k) (by omega)
          have eU' := lv_last (V := U) (n := k) (by omega)
          rw [List.take_of_length_le (l := D) (by omega)] at hv
          have hBN := B_pos k
          obtain ⟨b', hb0', hb1', hbd⟩ : ∃ b' : Int, 0 ≤ b' ∧ b' ≤ 1 ∧ (b' = 0 ↔ ¬ V.getD k 0 < ca + bo) := by
            by_cases hc : V.getD k 0 < ca + bo
            · exact ⟨1, by omega, by omega, by omega⟩
            · exact ⟨0, by omega, by omega, by omega⟩
          obtain ⟨y, hye⟩ : ∃ y, y = V.getD k 0 - (ca + bo) + 4294967296 * b' := ⟨_, rfl⟩
          have y0 : 0 ≤ y := by
            by_cases hc : V.getD k 0 < ca + bo
            · have : b' ≠ 0 := fun e => hbd.mp e hc
              omega
            · omega
          have y1 : y < 4294967296 := by
            by_cases hc : V.getD k 0 < ca + bo
            · omega
            · have : b' = 0 := hbd.mpr hc
              omega
          have hV2 := hV.set k y0 y1
          have hV2l : (V.set k y).length = k + 1 := by simpa using hVl
          have eV2 : lv (V.set k y) = lv (V.take k) + B k * y := by
            have := lv_take_set (V := V) (k := k) (by omega) y
            rwa [List.take_of_length_le (by omega)] at this
          have hV2nn := lv_nonneg hV2
          have hV2lt := lv_lt hV2
          rw [hV2l, B_succ] at hV2lt
          have key : lv (V.set k y) + g * lv D = lv U + B k * (4294967296 * b') := by
            rw [eV2, eU', hye, hVk]
            generalize U.getD k 0 = uk, lv (V.take k) = a1, lv D = a2, lv (U.take k) = a3, B k = bk at hv ⊢
            grind
          by_cases hb0 : b' = 0
          · have hnl := hbd.mp hb0
            subst hb0
            have hgq' : g = q := by
              have h1 : g * lv D < (q + 1) * lv D := by
                have : (q + 1) * lv D = lv D * q + lv D := by grind
                rw [this]; omega
              have := Int.lt_of_mul_lt_mul_right h1 (by omega)
              omega
            subst hgq'
            repeat' first | (with_reducible first | exact SetAt.z | apply SetAt.s | apply s_end | exact Kept.nil) | refine qq (hk := ?_) | ((with_reducible first | apply Kept.cons | apply q_blky); rfl) | ((with_reducible apply Kept.skip); rfl) | (apply s_q; rfl; (first | ((with_reducible apply q_ldE); rfl; assumption; omega; exact hread))) | refine ww (hk := ?_) | (apply c_condP; rfl; exact bpx; all_goals intro hc) | ((first | apply s_gTP | apply s_gFP); rfl; exact bpx; all_goals intro hg) | (apply s_lalloc; rfl) | ((first | apply s_lbox); rfl; rfl; rfl) | (apply s_lstore; rfl; rfl; rfl; rfl; rfl) | (apply s_callB (hm := YC.m _ _); rfl; intro h3 o3 b3)
            refine s_stM k y rfl rfl hbar8 hA8 (by omega) (by omega) (by omega) fun h9 s9 => ?_
            have s9' := s8.trans s9
            have hq9 : UA .u32 h9.ob oq qv := (s9'.other (by omega)).trans hq5
            have uQ9 := hq9.all hql.symm (Nat.le_refl _)
            repeat' first | (with_reducible first | exact SetAt.z | apply SetAt.s | apply s_end | exact Kept.nil) | refine qq (hk := ?_) | ((with_reducible first | apply Kept.cons | apply q_blky); rfl) | ((with_reducible apply Kept.skip); rfl) | refine ww (hk := ?_) | (apply c_condP; rfl; exact bpx; all_goals intro hc) | ((first | apply s_gTP | apply s_gFP); rfl; exact bpx; all_goals intro hg) | (apply s_lalloc; rfl) | ((first | apply s_lbox); rfl; rfl; rfl) | (apply s_lstore; rfl; rfl; rfl; rfl; rfl) | (apply s_callB (hm := YC.m _ _); rfl; intro h3 o3 b3)
            refine s_stW (m - 1) g rfl rfl (by rw [s9.bar, s8.bar]; omega) hq9 (by omega) (by first | rfl | omega) (by omega) fun h10 s10 => ?_
            repeat' first | (with_reducible first | exact SetAt.z | apply SetAt.s | apply s_end | exact Kept.nil) | refine qq (hk := ?_) | ((with_reducible first | apply Kept.cons | apply q_blky); rfl) | ((with_reducible apply Kept.skip); rfl) | refine ww (hk := ?_) | (apply c_condP; rfl; exact bpx; all_goals intro hc) | ((first | apply s_gTP | apply s_gFP); rfl; exact bpx; all_goals intro hg) | (apply s_lalloc; rfl) | ((first | apply s_lbox); rfl; rfl; rfl) | (apply s_lstore; rfl; rfl; rfl; rfl; rfl) | (apply s_callB (hm := YC.m _ _); rfl; intro h3 o3 b3)
            exact q_seql (m := m - 1) (by omega) (done _ _ _ s9' s10 hV2 hV2l (by rw [Int.mul_comm] at key; omega))
          · have hlt : V.getD k 0 < ca + bo := by
              apply Classical.byContradiction
              intro hc
              exact hb0 (hbd.mpr hc)
            have hb1 : b' = 1 := by omega
            subst hb1
            have hgq' : g = q + 1 := by
              apply Classical.byContradiction
              intro hne'
              have h1 : g = q := by omega
              subst h1
              rw [Int.mul_comm] at key
              omega
            subst hgq'
            have key2 : lv (V.set k y) + lv D = R + B k * 4294967296 := by
              have : (q + 1) * lv D = lv D * q + lv D := by grind
              rw [this] at key
              omega
            repeat' first | (with_reducible first | exact SetAt.z | apply SetAt.s | apply s_end | exact Kept.nil) | refine qq (hk := ?_) | ((with_reducible first | apply Kept.cons | apply q_blky); rfl) | ((with_reducible apply Kept.skip); rfl) | (apply s_q; rfl; (first | ((with_reducible apply q_ldE); rfl; assumption; omega; exact hread))) | refine ww (hk := ?_) | (apply c_condP; rfl; exact bpx; all_goals intro hc) | ((first | apply s_gTP | apply s_gFP); rfl; exact bpx; all_goals intro hg) | (apply s_lalloc; rfl) | ((first | apply s_lbox); rfl; rfl; rfl) | (apply s_lstore; rfl; rfl; rfl; rfl; rfl) | (apply s_callB (hm := YC.m _ _); rfl; intro h3 o3 b3)
            refine s_stM k y rfl rfl hbar8 hA8 (by omega) (by rw [wU64]; omega) (by omega) fun h9 s9 => ?_
            have s9' := s8.trans s9
            generalize hV2e : V.set k y = V2 at *
            repeat' first | (with_reducible first | exact SetAt.z | apply SetAt.s | apply s_end | exact Kept.nil) | refine qq (hk := ?_) | ((with_reducible first | apply Kept.cons | apply q_blky); rfl) | ((with_reducible apply Kept.skip); rfl) | refine ww (hk := ?_) | (apply c_condP; rfl; exact bpx; all_goals intro hc) | ((first | apply s_gTP | apply s_gFP); rfl; exact bpx; all_goals intro hg) | (apply s_lalloc; rfl) | ((first | apply s_lbox); rfl; rfl; rfl) | (apply s_lstore; rfl; rfl; rfl; rfl; rfl) | (apply s_callB (hm := YC.m _ _); rfl; intro h3 o3 b3)
            refine loopI (YC.m _ _) (fun z fr h4 => ∃ (t : Nat) (W : List Int) (cc : Int), z = k - t ∧ t ≤ k ∧ SetO h6 ou (some (1, (pre ++ W ++ post).map (Value.int .u32))) h4 ∧ InB W ∧ W.length = k + 1 ∧ W.drop t = V2.drop t ∧ 0 ≤ cc ∧ cc ≤ 1 ∧
              lv (W.take t) + B t * cc = lv (V2.take t) + lv (D.take t) ∧
              fr = ⟨[(6, .v (.int .i64 k)), (7, .v (.int .u64 s)), (8, .v (.slice (some ⟨ou, 0, none⟩) (la + 1) (la + 1))), (9, .v (.slice (some ⟨od, 0, none⟩) k (k + 1))), (10, .v (.slice (some ⟨oq, 0, none⟩) M M)), (11, .v (.int .i64 ((m : Int) - 1))), (13, .v (.int .u64 q)), (15, .v (.int .u64 cc)), (23, .v (.int .i64 t))], []⟩) k
              ⟨0, V2, 0, by omega, by omega, s9', hV2, hV2l, rfl, by omega, by omega, by simp [lv], by rw [show q + 1 - 1 = q by omega]; rfl⟩ ?_
            rintro z fr h4 ⟨t, W, cc, rfl, ht', s4, hW, hWl, hWd, cc0, cc1, hw, rfl⟩
            have hA4 : UA .u32 h4.ob ou (pre ++ W ++ post) := s4.at hA5
            have hD4 : UA .u32 h4.ob od Df := (s4.other (by omega)).trans hDf5
            have uD4 := uD hD4
            have hl4 : (pre ++ W ++ post).length = la + 1 := by simp at hcl ⊢; omega
            have uA4 := hA4.all hl4.symm (Nat.le_refl _)
            have hbar4' : h4.bar ≤ ou := by rw [s4.bar]; omega
            have hWk := getD_drop_eq hWd
            have hwx := hW.getD t
            have hread4 : (pre ++ W ++ post).getD ((m : Int) - 1 + t).toNat 0 = W.getD t 0 := mid W t hWl ht' _ rfl
            by_cases htl : t < k
            · have hx := hDi.getD t
              repeat' first | (with_reducible first | exact SetAt.z | apply SetAt.s | apply s_end | exact Kept.nil) | refine qq (hk := ?_) | ((with_reducible first | apply Kept.cons | apply q_blky); rfl) | ((with_reducible apply Kept.skip); rfl) | (apply s_q; rfl; (first | ((with_reducible apply q_ldE); rfl; assumption; omega; exact hread4))) | refine ww (hk := ?_) | (apply c_condP; rfl; exact bpx; all_goals intro hc) | ((first | apply s_gTP | apply s_gFP); rfl; exact bpx; all_goals intro hg) | (apply s_lalloc; rfl) | ((first | apply s_lbox); rfl; rfl; rfl) | (apply s_lstore; rfl; rfl; rfl; rfl; rfl) | (apply s_callB (hm := YC.m _ _); rfl; intro h3 o3 b3)
              refine s_stM t ((cc + W.getD t 0 + D.getD t 0) % 4294967296) rfl rfl hbar4' hA4 (by omega) rfl (by omega) fun h5' s5 => ?_
              repeat' first | (with_reducible first | exact SetAt.z | apply SetAt.s | apply s_end | exact Kept.nil) | refine qq (hk := ?_) | ((with_reducible first | apply Kept.cons | apply q_blky); rfl) | ((with_reducible apply Kept.skip); rfl) | refine ww (hk := ?_) | (apply c_condP; rfl; exact bpx; all_goals intro hc) | ((first | apply s_gTP | apply s_gFP); rfl; exact bpx; all_goals intro hg) | (apply s_lalloc; rfl) | ((first | apply s_lbox); rfl; rfl; rfl) | (apply s_lstore; rfl; rfl; rfl; rfl; rfl) | (apply s_callB (hm := YC.m _ _); rfl; intro h3 o3 b3)
              have hdm := Int.emod_add_mul_ediv (cc + W.getD t 0 + D.getD t 0) 4294967296
              refine q_seql (m := k - (t + 1)) (by omega) ⟨t + 1, W.set t ((cc + W.getD t 0 + D.getD t 0) % 4294967296), (cc + W.getD t 0 + D.getD t 0) / 4294967296, rfl, by omega, s4.trans s5, hW.set _ (by omega) (by omega), by simpa using hWl, drop_set_eq hWd _, by omega, by omega, ?_, rfl⟩
              rw [lv_take_set (by omega), lv_take_succ D t (by omega), lv_take_succ V2 t (by omega), B_succ]
              rw [show (cc + W.getD t 0 + D.getD t 0) % 4294967296 = V2.getD t 0 + D.getD t 0 + cc - 4294967296 * ((cc + W.getD t 0 + D.getD t 0) / 4294967296) by omega]
              generalize (cc + W.getD t 0 + D.getD t 0) / 4294967296 = c'
              generalize D.getD t 0 = dk, V2.getD t 0 = uk, lv (W.take t) = a1, lv (D.take t) = a2, lv (V2.take t) = a3, B t = bk at hw ⊢
              grind
            · have htn : t = k := by omega
              subst htn
              have eV2' := lv_last (V := V2) (n := t) (by omega)
              rw [List.take_of_length_le (l := D) (by omega)] at hw
              have hWt0 := lv_nonneg (hW.take t)
              have hWt1 := lv_lt (hW.take t)
              rw [List.length_take, Nat.min_eq_left (by omega)] at hWt1
              have hfin := div_uniq (b := B t) (X := lv (W.take t)) (Y := V2.getD t 0 + cc) (R := R) (Z := 4294967296) hBN ⟨hWt0, hWt1⟩ ⟨qr0, by omega⟩ (by
                rw [Int.mul_add]; omega)
              repeat' first | (with_reducible first | exact SetAt.z | apply SetAt.s | apply s_end | exact Kept.nil) | refine qq (hk := ?_) | ((with_reducible first | apply Kept.cons | apply q_blky); rfl) | ((with_reducible apply Kept.skip); rfl) | (apply s_q; rfl; (first | ((with_reducible apply q_ldE); rfl; assumption; omega; exact hread4))) | refine ww (hk := ?_) | (apply c_condP; rfl; exact bpx; all_goals intro hc) | ((first | apply s_gTP | apply s_gFP); rfl; exact bpx; all_goals intro hg) | (apply s_lalloc; rfl) | ((first | apply s_lbox); rfl; rfl; rfl) | (apply s_lstore; rfl; rfl; rfl; rfl; rfl) | (apply s_callB (hm := YC.m _ _); rfl; intro h3 o3 b3)
              refine s_stM t 0 rfl rfl hbar4' hA4 (by omega) (by rw [hWk, hfin.1]; rfl) (by omega) fun h5' s5 => ?_
              have s5' := s4.trans s5
              have hq5' : UA .u32 h5'.ob oq qv := (s5'.other (by omega)).trans hq5
              have uQ5' := hq5'.all hql.symm (Nat.le_refl _)
              repeat' first | (with_reducible first | exact SetAt.z | apply SetAt.s | apply s_end | exact Kept.nil) | refine qq (hk := ?_) | ((with_reducible first | apply Kept.cons | apply q_blky); rfl) | ((with_reducible apply Kept.skip); rfl) | refine ww (hk := ?_) | (apply c_condP; rfl; exact bpx; all_goals intro hc) | ((first | apply s_gTP | apply s_gFP); rfl; exact bpx; all_goals intro hg) | (apply s_lalloc; rfl) | ((first | apply s_lbox); rfl; rfl; rfl) | (apply s_lstore; rfl; rfl; rfl; rfl; rfl) | (apply s_callB (hm := YC.m _ _); rfl; intro h3 o3 b3)
              refine s_stW (m - 1) q rfl rfl (by rw [s5.bar, s4.bar]; omega) hq5' (by omega) (by first | rfl | omega) (by omega) fun h10 s10 => ?_
              repeat' first | (with_reducible first | exact SetAt.z | apply SetAt.s | apply s_end | exact Kept.nil) | refine qq (hk := ?_) | ((with_reducible first | apply Kept.cons | apply q_blky); rfl) | ((with_reducible apply Kept.skip); rfl) | refine ww (hk := ?_) | (apply c_condP; rfl; exact bpx; all_goals intro hc) | ((first | apply s_gTP | apply s_gFP); rfl; exact bpx; all_goals intro hg) | (apply s_lalloc; rfl) | ((first | apply s_lbox); rfl; rfl; rfl) | (apply s_lstore; rfl; rfl; rfl; rfl; rfl) | (apply s_callB (hm := YC.m _ _); rfl; intro h3 o3 b3)
              refine q_seql (m := m - 1) (by omega) (done _ _ _ s5' s10 (hW.set _ (by omega) (by omega)) (by simpa using hWl) ?_)
              have := lv_take_set (V := W) (k := t) (by omega) 0
              rw [List.take_of_length_le (by simp; omega)] at this
              rw [this, hfin.2]
              omega
    · have hm0' : m = 0 := by omega
      subst hm0'
      rw [List.drop_zero] at hdl
      rw [List.drop_zero, show B 0 = 1 from rfl, Int.one_mul, hAv, hDv] at hinv
      have hA'nn := lv_nonneg hA'i
      have hqnn := lv_nonneg hqi
      have hdropn : lv (A'.drop n) = 0 := by
        have e1 := lv_split A' n (by omega)
        have e2 := lv_nonneg (hA'i.drop n)
        have e3 := lv_nonneg (hA'i.take n)
        apply Classical.byContradiction
        intro hne
        have h1 : B n * 1 ≤ B n * lv (A'.drop n) := Int.mul_le_mul_of_nonneg_left (by omega) (by have := B_pos n; omega)
        omega
      repeat' first | (with_reducible first | exact SetAt.z | apply SetAt.s | apply s_end | exact Kept.nil) | refine qq (hk := ?_) | ((with_reducible first | apply Kept.cons | apply q_blky); rfl) | ((with_reducible apply Kept.skip); rfl) | refine ww (hk := ?_) | (apply c_condP; rfl; exact bpx; all_goals intro hc) | ((first | apply s_gTP | apply s_gFP); rfl; exact bpx; all_goals intro hg) | (apply s_lalloc; rfl) | ((first | apply s_lbox); rfl; rfl; rfl) | (apply s_lstore; rfl; rfl; rfl; rfl; rfl) | (apply s_callB (hm := YC.m _ _); rfl; intro h3 o3 b3)
      refine s_mk rfl rfl (by omega) fun h6 n6 => ?_
      rw [reps_U, show ((n : Int)).toNat = n by omega] at n6
      rw [show ((n : Int)).toNat = n by omega]
      have e6 := n6.ext
      have hA6 : UA .u32 h6.ob ou A' := e6.row hA5
      have hq6 : UA .u32 h6.ob oq qv := e6.row hq5
      have hor := n6.at
      obtain ⟨orr, horr⟩ : ∃ orr, h5.ob.length = orr := ⟨_, rfl⟩
      rw [horr] at hor ⊢
      have e56 := e5.trans e6
      have houl5 : ou < h5.ob.length := (List.getElem?_eq_some_iff.mp hA5).1
      have hoql5 : oq < h5.ob.length := (List.getElem?_eq_some_iff.mp hq5).1
      have hlen5 := e5.len
      repeat' first | (with_reducible first | exact SetAt.z | apply SetAt.s | apply s_end | exact Kept.nil) | refine qq (hk := ?_) | ((with_reducible first | apply Kept.cons | apply q_blky); rfl) | ((with_reducible apply Kept.skip); rfl) | refine ww (hk := ?_) | (apply c_condP; rfl; exact bpx; all_goals intro hc) | ((first | apply s_gTP | apply s_gFP); rfl; exact bpx; all_goals intro hg) | (apply s_lalloc; rfl) | ((first | apply s_lbox); rfl; rfl; rfl) | (apply s_lstore; rfl; rfl; rfl; rfl; rfl) | (apply s_callB (hm := YC.m _ _); rfl; intro h3 o3 b3)
      refine loopI (YC.m _ _) (fun z fr h7 => ∃ (i : Nat) (r : List Int), z = n - i ∧ i ≤ n ∧ Ext h' h7 ∧ UA .u32 h7.ob ou A' ∧ UA .u32 h7.ob oq qv ∧ UA .u32 h7.ob orr r ∧ InB r ∧ r.length = n ∧ lv A' / 2 ^ s = lv (r.take i) + B i * (lv (A'.drop i) / 2 ^ s) ∧
        fr = ⟨[(6, .v (.int .i64 n)), (7, .v (.int .u64 s)), (8, .v (.slice (some ⟨ou, 0, none⟩) (la + 1) (la + 1))), (10, .v (.slice (some ⟨oq, 0, none⟩) M M)), (24, .v (.slice (some ⟨orr, 0, none⟩) n n)), (25, .v (.int .i64 i))], []⟩) n
        ⟨0, _, by omega, by omega, e56, hA6, hq6, hor, InB.replicate _, by simp, by simp [lv, B], rfl⟩ ?_
      rintro z fr h7 ⟨i, r, rfl, hi, e7, hA7, hq7, hr7, hri, hrl, hrv, rfl⟩
      have uA7 := hA7.all hA'l.symm (Nat.le_refl _)
      have uQ7 := hq7.all hql.symm (Nat.le_refl _)
      have uR7 := hr7.all hrl.symm (Nat.le_refl _)
      have hbar7 := e7.bar
      by_cases hlt : i < n
      · have hx0' := hA'i.getD i
        have hx1' := hA'i.getD (i + 1)
        have hx1'' := hx1'
        rw [show i + 1 = ((i : Int) + 1).toNat by omega] at hx1''
        have hd0' := lv_drop_succ A' i (by omega)
        have hd1' := lv_drop_succ A' (i + 1) (by omega)
        have hd := unshift_digit hs (x := A'.getD i 0) (y := A'.getD (i + 1) 0) (D := lv (A'.drop (i + 1 + 1))) hx0'
        repeat' first | (with_reducible first | exact SetAt.z | apply SetAt.s | apply s_end | exact Kept.nil) | refine qq (hk := ?_) | ((with_reducible first | apply Kept.cons | apply q_blky); rfl) | ((with_reducible apply Kept.skip); rfl) | refine ww (hk := ?_) | (apply c_condP; rfl; exact bpx; all_goals intro hc) | ((first | apply s_gTP | apply s_gFP); rfl; exact bpx; all_goals intro hg) | (apply s_lalloc; rfl) | ((first | apply s_lbox); rfl; rfl; rfl) | (apply s_lstore; rfl; rfl; rfl; rfl; rfl) | (apply s_callB (hm := YC.m _ _); rfl; intro h3 o3 b3)
        refine s_stW i ((A'.getD i 0 + 4294967296 * A'.getD (i + 1) 0) / 2 ^ s % 4294967296) rfl rfl (by omega) hr7 (by omega) (by rw [show ((i : Int) + 1).toNat = i + 1 by omega, Int.add_comm (A'.getD i 0), Int.mul_comm 4294967296]) (by omega) fun h8 s8 => ?_
        repeat' first | (with_reducible first | exact SetAt.z | apply SetAt.s | apply s_end | exact Kept.nil) | refine qq (hk := ?_) | ((with_reducible first | apply Kept.cons | apply q_blky); rfl) | ((with_reducible apply Kept.skip); rfl) | refine ww (hk := ?_) | (apply c_condP; rfl; exact bpx; all_goals intro hc) | ((first | apply s_gTP | apply s_gFP); rfl; exact bpx; all_goals intro hg) | (apply s_lalloc; rfl) | ((first | apply s_lbox); rfl; rfl; rfl) | (apply s_lstore; rfl; rfl; rfl; rfl; rfl) | (apply s_callB (hm := YC.m _ _); rfl; intro h3 o3 b3)
        have hnn : 0 ≤ (A'.getD i 0 + 4294967296 * A'.getD (i + 1) 0) / 2 ^ s := Int.ediv_nonneg (by omega) (by omega)
        refine q_seql (m := n - (i + 1)) (by omega) ⟨i + 1, r.set i ((A'.getD i 0 + 4294967296 * A'.getD (i + 1) 0) / 2 ^ s % 4294967296), rfl, by omega, s8.ext e7 (by omega), (s8.other (by omega)).trans hA7, (s8.other (by omega)).trans hq7, s8.at hr7, hri.set _ (by omega) (by omega), by simpa using hrl, ?_, rfl⟩
        rw [lv_take_set (by omega), hrv, hd0', hd1', hd, B_succ]
        grind
      · have hin : i = n := by omega
        subst hin
        rw [hdropn, List.take_of_length_le (by omega)] at hrv
        repeat' first | (with_reducible first | exact SetAt.z | apply SetAt.s | apply s_end | exact Kept.nil) | refine qq (hk := ?_) | ((with_reducible first | apply Kept.cons | apply q_blky); rfl) | ((with_reducible apply Kept.skip); rfl) | refine ww (hk := ?_) | (apply c_condP; rfl; exact bpx; all_goals intro hc) | ((first | apply s_gTP | apply s_gFP); rfl; exact bpx; all_goals intro hg) | (apply s_lalloc; rfl) | ((first | apply s_lbox); rfl; rfl; rfl) | (apply s_lstore; rfl; rfl; rfl; rfl; rfl) | (apply s_callB (hm := YC.m _ _); rfl; intro h3 o3 b3)
        refine k127 hqi (by omega) uQ7 fun v' hv' => ?_
        repeat' first | (with_reducible first | exact SetAt.z | apply SetAt.s | apply s_end | exact Kept.nil) | refine qq (hk := ?_) | ((with_reducible first | apply Kept.cons | apply q_blky); rfl) | ((with_reducible apply Kept.skip); rfl) | refine ww (hk := ?_) | (apply c_condP; rfl; exact bpx; all_goals intro hc) | ((first | apply s_gTP | apply s_gFP); rfl; exact bpx; all_goals intro hg) | (apply s_lalloc; rfl) | ((first | apply s_lbox); rfl; rfl; rfl) | (apply s_lstore; rfl; rfl; rfl; rfl; rfl) | (apply s_callB (hm := YC.m _ _); rfl; intro h3 o3 b3)
        refine k127 hri (by omega) uR7 fun w' hw' => ?_
        repeat' first | (with_reducible first | exact SetAt.z | apply SetAt.s | apply s_end | exact Kept.nil) | refine qq (hk := ?_) | ((with_reducible first | apply Kept.cons | apply q_blky); rfl) | ((with_reducible apply Kept.skip); rfl) | refine ww (hk := ?_) | (apply c_condP; rfl; exact bpx; all_goals intro hc) | ((first | apply s_gTP | apply s_gFP); rfl; exact bpx; all_goals intro hg) | (apply s_lalloc; rfl) | ((first | apply s_lbox); rfl; rfl; rfl) | (apply s_lstore; rfl; rfl; rfl; rfl; rfl) | (apply s_callB (hm := YC.m _ _); rfl; intro h3 o3 b3)
        have hr : lv A' = ((a : Int) - b * lv qv) * 2 ^ s := by
          rw [Int.sub_mul]
          have : (b : Int) * 2 ^ s * lv qv = b * lv qv * 2 ^ s := by grind
          omega
        have hr0 : 0 ≤ (a : Int) - b * lv qv := by
          apply Classical.byContradiction
          intro hneg
          have : ((a : Int) - b * lv qv) * 2 ^ s < 0 * 2 ^ s := Int.mul_lt_mul_of_pos_right (by omega) h2s
          omega
        have hr1 : (a : Int) - b * lv qv < b := by
          rw [hDv, hr] at hdl
          exact Int.lt_of_mul_lt_mul_right hdl (by omega)
        have hdiv : (a : Int) / b = lv qv := by
          have : (a : Int) = ((a : Int) - b * lv qv) + b * lv qv := by omega
          rw [this, Int.add_mul_ediv_left _ _ (by omega), Int.ediv_eq_zero_of_lt hr0 hr1, Int.zero_add]
        have hmod : (a : Int) % b = (a : Int) - b * lv qv := by
          have := Int.emod_add_mul_ediv (a : Int) b
          rw [hdiv] at this
          omega
        have g1 : (lv qv).toNat = a / b := by rw [← hdiv, ← Int.natCast_ediv, Int.toNat_natCast]
        have g2 : (lv r).toNat = a % b := by
          have : lv r = lv A' / 2 ^ s := by rw [hrv]; simp
          rw [this, hr, Int.mul_ediv_cancel _ (by omega), ← hmod, ← Int.natCast_emod, Int.toNat_natCast]
        rw [g1] at hv'
        rw [g2] at hw'
        exact hq v' w' _ e7 hv' hw'
/-- divide -/
theorem k126 {a b : Nat} {v w : Value} (ha : (li a).length ≤ 274877906944) (hb : (li b).length ≤ 274877906944) (hb0 : 0 < b) (hv : US .u32 h.ob (li a) v) (hw : US .u32 h.ob (li b) w)
    (hq : ∀ v' w' h', Ext h h' → US .u32 h'.ob (li (a / b)) v' → US .u32 h'.ob (li (a % b)) w' → Q (.tuple #[v', w']) h') : YC Tryz.prog B0 126 [v, w] Q h := by
  refine enterF mix Tryz.func126 ok126 rfl (tm := [(0, _), (1, _)]) (bx := []) rfl rfl fun hp => ?_
  have hbne : li b ≠ [] := by rw [Ne, li_nil]; omega
  have hbl : 0 < (li b).length := List.length_pos_iff.mpr hbne
  by_cases hab : a < b
  · have hc := cmpv_lt.mpr hab
    repeat' first | (with_reducible first | exact SetAt.z | apply SetAt.s | apply s_end | exact Kept.nil) | refine qq (hk := ?_) | ((with_reducible first | apply Kept.cons | apply q_blky); rfl) | ((with_reducible apply Kept.skip); rfl) | refine ww (hk := ?_) | (apply c_condP; rfl; exact bpx; all_goals intro hc) | ((first | apply s_gTP | apply s_gFP); rfl; exact bpx; all_goals intro hg) | (apply s_lalloc; rfl) | ((first | apply s_lbox); rfl; rfl; rfl) | (apply s_lstore; rfl; rfl; rfl; rfl; rfl) | (apply s_callB (hm := YC.m _ _); rfl; intro h3 o3 b3) | ((with_reducible refine YCi (f := 109) ?_); refine k109 (by omega) (by omega) hv hw ?_)
    rw [Nat.div_eq_of_lt hab, Nat.mod_eq_of_lt hab, li_zero] at hq
    exact hq _ _ _ (Ext.refl h) US.nil hv
  · have hc : ¬ cmpv a b < 0 := fun e => hab (cmpv_lt.mp e)
    by_cases h1 : (li b).length = 1
    · have hb1 : li b = [(b : Int)] ∧ b < 4294967296 := by
        have hlt := li_lt b
        rw [h1] at hlt
        have h2 : (b : Int) < 4294967296 := by rw [show B 1 = 4294967296 by rfl] at hlt; exact hlt
        have h3 : b < 4294967296 := by omega
        exact ⟨li_small hb0 h3, h3⟩
      have hg : (li b).getD (Int.toNat 0) 0 = (b : Int) := by rw [hb1.1]; rfl
      repeat' first | (with_reducible first | exact SetAt.z | apply SetAt.s | apply s_end | exact Kept.nil) | refine qq (hk := ?_) | ((with_reducible first | apply Kept.cons | apply q_blky); rfl) | ((with_reducible apply Kept.skip); rfl) | (apply s_q; rfl; (first | ((with_reducible apply q_ldE); rfl; assumption; (show 0 < (li b).length; exact hbl); exact hg))) | refine ww (hk := ?_) | (apply c_condP; rfl; exact bpx; all_goals intro hc) | ((first | apply s_gTP | apply s_gFP); rfl; exact bpx; all_goals intro hg) | (apply s_lalloc; rfl) | ((first | apply s_lbox); rfl; rfl; rfl) | (apply s_lstore; rfl; rfl; rfl; rfl; rfl) | (apply s_callB (hm := YC.m _ _); rfl; intro h3 o3 b3) | ((with_reducible refine YCi (f := 109) ?_); refine k109 (by omega) (by omega) hv hw ?_)
      refine k147 (li_in a) (by omega) hv (by omega) fun v' h2 e2 hv' => ?_
      repeat' first | (with_reducible first | exact SetAt.z | apply SetAt.s | apply s_end | exact Kept.nil) | refine qq (hk := ?_) | ((with_reducible first | apply Kept.cons | apply q_blky); rfl) | ((with_reducible apply Kept.skip); rfl) | refine ww (hk := ?_) | (apply c_condP; rfl; exact bpx; all_goals intro hc) | ((first | apply s_gTP | apply s_gFP); rfl; exact bpx; all_goals intro hg) | (apply s_lalloc; rfl) | ((first | apply s_lbox); rfl; rfl; rfl) | (apply s_lstore; rfl; rfl; rfl; rfl; rfl) | (apply s_callB (hm := YC.m _ _); rfl; intro h3 o3 b3)
      refine s_bsl (ps := [(0, [.int .u32 (lv (li a) % b)])]) (cs := [.int .u32 (lv (li a) % b)]) rfl rfl fun h3 n3 => ?_
      have e3 := n3.ext
      have hr0 : 0 ≤ lv (li a) % (b : Int) := Int.emod_nonneg _ (by omega)
      have hr1 : lv (li a) % (b : Int) < b := Int.emod_lt_of_pos _ (by omega)
      have u3 : US .u32 h3.ob [lv (li a) % (b : Int)] (.slice (some ⟨h2.ob.length, 0, none⟩) 1 1) := UA.all (k := .u32) n3.at rfl (Nat.le_refl _)
      have hv3 := hv'.ext e3
      repeat' first | (with_reducible first | exact SetAt.z | apply SetAt.s | apply s_end | exact Kept.nil) | refine qq (hk := ?_) | ((with_reducible first | apply Kept.cons | apply q_blky); rfl) | ((with_reducible apply Kept.skip); rfl) | refine ww (hk := ?_) | (apply c_condP; rfl; exact bpx; all_goals intro hc) | ((first | apply s_gTP | apply s_gFP); rfl; exact bpx; all_goals intro hg) | (apply s_lalloc; rfl) | ((first | apply s_lbox); rfl; rfl; rfl) | (apply s_lstore; rfl; rfl; rfl; rfl; rfl) | (apply s_callB (hm := YC.m _ _); rfl; intro h3 o3 b3)
      refine k127 (InB.cons hr0 (by omega) InB.nil) (by simp) u3 fun w' hw' => ?_
      repeat' first | (with_reducible first | exact SetAt.z | apply SetAt.s | apply s_end | exact Kept.nil) | refine qq (hk := ?_) | ((with_reducible first | apply Kept.cons | apply q_blky); rfl) | ((with_reducible apply Kept.skip); rfl) | refine ww (hk := ?_) | (apply c_condP; rfl; exact bpx; all_goals intro hc) | ((first | apply s_gTP | apply s_gFP); rfl; exact bpx; all_goals intro hg) | (apply s_lalloc; rfl) | ((first | apply s_lbox); rfl; rfl; rfl) | (apply s_lstore; rfl; rfl; rfl; rfl; rfl) | (apply s_callB (hm := YC.m _ _); rfl; intro h3 o3 b3)
      have r1 : (lv (li a) / (b : Int)).toNat = a / b := by rw [lv_li, ← Int.natCast_ediv, Int.toNat_natCast]
      have r2 : (lv [lv (li a) % (b : Int)]).toNat = a % b := by rw [lv, lv, lv_li, ← Int.natCast_emod]; omega
      rw [r1] at hv3
      rw [r2] at hw'
      exact hq _ _ _ (e2.trans e3) hv3 hw'
    · have hla := li_mono (Nat.le_of_not_lt hab)
      repeat' first | (with_reducible first | exact SetAt.z | apply SetAt.s | apply s_end | exact Kept.nil) | refine qq (hk := ?_) | ((with_reducible first | apply Kept.cons | apply q_blky); rfl) | ((with_reducible apply Kept.skip); rfl) | refine ww (hk := ?_) | (apply c_condP; rfl; exact bpx; all_goals intro hc) | ((first | apply s_gTP | apply s_gFP); rfl; exact bpx; all_goals intro hg) | (apply s_lalloc; rfl) | ((first | apply s_lbox); rfl; rfl; rfl) | (apply s_lstore; rfl; rfl; rfl; rfl; rfl) | (apply s_callB (hm := YC.m _ _); rfl; intro h3 o3 b3) | ((with_reducible refine YCi (f := 109) ?_); refine k109 (by omega) (by omega) hv hw ?_)
      refine k148 (by omega) hla (by omega) hv hw fun v' w' h2 e2 hv' hw' => ?_
      repeat' first | (with_reducible first | exact SetAt.z | apply SetAt.s | apply s_end | exact Kept.nil) | refine qq (hk := ?_) | ((with_reducible first | apply Kept.cons | apply q_blky); rfl) | ((with_reducible apply Kept.skip); rfl) | refine ww (hk := ?_) | (apply c_condP; rfl; exact bpx; all_goals intro hc) | ((first | apply s_gTP | apply s_gFP); rfl; exact bpx; all_goals intro hg) | (apply s_lalloc; rfl) | ((first | apply s_lbox); rfl; rfl; rfl) | (apply s_lstore; rfl; rfl; rfl; rfl; rfl) | (apply s_callB (hm := YC.m _ _); rfl; intro h3 o3 b3)
      exact hq _ _ _ e2 hv' hw'
/-- the greatest common divisor -/
theorem k125 {a b : Nat} {v w : Value} (L1 : (li a).length ≤ 274877906944) (L2 : (li b).length ≤ 274877906944) (hv : US .u32 h.ob (li a) v) (hw : US .u32 h.ob (li b) w)
    (hq : ∀ v' h', Ext h h' → US .u32 h'.ob (li (Nat.gcd a b)) v' → Q v' h') : YC Tryz.prog B0 125 [v, w] Q h := by
  refine enterF mix Tryz.func125 ok125 rfl (tm := [(0, _), (1, _)]) (bx := []) rfl rfl fun hp => ?_
  repeat' first | (with_reducible first | exact SetAt.z | apply SetAt.s | apply s_end | exact Kept.nil) | refine qq (hk := ?_) | ((with_reducible first | apply Kept.cons | apply q_blky); rfl) | ((with_reducible apply Kept.skip); rfl) | refine ww (hk := ?_) | (apply c_condP; rfl; exact bpx; all_goals intro hc) | ((first | apply s_gTP | apply s_gFP); rfl; exact bpx; all_goals intro hg) | (apply s_lalloc; rfl) | ((first | apply s_lbox); rfl; rfl; rfl) | (apply s_lstore; rfl; rfl; rfl; rfl; rfl) | (apply s_callB (hm := YC.m _ _); rfl; intro h3 o3 b3)
  refine loopI (YC.m _ _) (fun n fr h' => ∃ (x : Nat) (v w : Value) (ex : List (Nat × TV)), Ext h h' ∧ Nat.gcd x n = Nat.gcd a b ∧ (li x).length ≤ 274877906944 ∧ (li n).length ≤ 274877906944 ∧ US .u32 h'.ob (li x) v ∧ US .u32 h'.ob (li n) w ∧ fr = ⟨(0, .v v) :: (1, .v w) :: ex, []⟩) b
    ⟨a, v, w, [], Ext.refl h, rfl, L1, L2, hv, hw, rfl⟩ ?_
  rintro n fr h' ⟨x, v, w, ex, e, hg, hx, hn, uv, uw, rfl⟩
  by_cases hn0 : n = 0
  · subst hn0
    have hl0 : (li 0).length = 0 := by rw [li_zero]; rfl
    repeat' first | (with_reducible first | exact SetAt.z | apply SetAt.s | apply s_end | exact Kept.nil) | refine qq (hk := ?_) | ((with_reducible first | apply Kept.cons | apply q_blky); rfl) | ((with_reducible apply Kept.skip); rfl) | refine ww (hk := ?_) | (apply c_condP; rfl; exact bpx; all_goals intro hc) | ((first | apply s_gTP | apply s_gFP); rfl; exact bpx; all_goals intro hg) | (apply s_lalloc; rfl) | ((first | apply s_lbox); rfl; rfl; rfl) | (apply s_lstore; rfl; rfl; rfl; rfl; rfl) | (apply s_callB (hm := YC.m _ _); rfl; intro h3 o3 b3)
    rw [Nat.gcd_zero_right] at hg
    rw [← hg] at hq
    exact hq _ _ e uv
  · have hl0 : 0 < (li n).length := List.length_pos_iff.mpr (by rw [Ne, li_nil]; exact hn0)
    repeat' first | (with_reducible first | exact SetAt.z | apply SetAt.s | apply s_end | exact Kept.nil) | refine qq (hk := ?_) | ((with_reducible first | apply Kept.cons | apply q_blky); rfl) | ((with_reducible apply Kept.skip); rfl) | refine ww (hk := ?_) | (apply c_condP; rfl; exact bpx; all_goals intro hc) | ((first | apply s_gTP | apply s_gFP); rfl; exact bpx; all_goals intro hg) | (apply s_lalloc; rfl) | ((first | apply s_lbox); rfl; rfl; rfl) | (apply s_lstore; rfl; rfl; rfl; rfl; rfl) | (apply s_callB (hm := YC.m _ _); rfl; intro h3 o3 b3)
    refine k126 (by omega) (by omega) (by omega) uv uw fun v' w' h3 e3 hv' hw' => ?_
    have uw3 := uw.ext e3
    repeat' first | (with_reducible first | exact SetAt.z | apply SetAt.s | apply s_end | exact Kept.nil) | refine qq (hk := ?_) | ((with_reducible first | apply Kept.cons | apply q_blky); rfl) | ((with_reducible apply Kept.skip); rfl) | refine ww (hk := ?_) | (apply c_condP; rfl; exact bpx; all_goals intro hc) | ((first | apply s_gTP | apply s_gFP); rfl; exact bpx; all_goals intro hg) | (apply s_lalloc; rfl) | ((first | apply s_lbox); rfl; rfl; rfl) | (apply s_lstore; rfl; rfl; rfl; rfl; rfl) | (apply s_callB (hm := YC.m _ _); rfl; intro h3 o3 b3)
    refine q_seql (m := x % n) (Nat.mod_lt _ (by omega)) ⟨n, w, w', _, e.trans e3, ?_, hn, ?_, uw3, hw', rfl⟩
    · rw [← hg, Nat.gcd_comm x n, Nat.gcd_rec n x, Nat.gcd_comm]
    · exact Nat.le_trans (li_mono (Nat.le_of_lt (Nat.mod_lt x (by omega)))) hn
theorem k102 {l m : List UInt8} (hl : l.length ≤ 274877906944) (hm : m.length ≤ 274877906944) (hq : ∀ h', Ext h h' → Q (.string (bs (sb (Nat.gcd (bv l) (bv m))))) h') : YC Tryz.prog B0 102 [.string (bs l), .string (bs m)] Q h := by
  refine enterF mix Tryz.func102 ok102 rfl (tm := [(0, _), (1, _)]) (bx := []) rfl rfl fun hp => ?_
  have L1 := li_bv_len l
  have L2 := li_bv_len m
  repeat' first | (with_reducible first | exact SetAt.z | apply SetAt.s | apply s_end | exact Kept.nil) | refine qq (hk := ?_) | ((with_reducible first | apply Kept.cons | apply q_blky); rfl) | ((with_reducible apply Kept.skip); rfl) | refine ww (hk := ?_) | (apply c_condP; rfl; exact bpx; all_goals intro hc) | ((first | apply s_gTP | apply s_gFP); rfl; exact bpx; all_goals intro hg) | (apply s_lalloc; rfl) | ((first | apply s_lbox); rfl; rfl; rfl) | (apply s_lstore; rfl; rfl; rfl; rfl; rfl) | (apply s_callB (hm := YC.m _ _); rfl; intro h3 o3 b3)
  refine k105 (by omega) fun v1 h1 e1 u1 => ?_
  repeat' first | (with_reducible first | exact SetAt.z | apply SetAt.s | apply s_end | exact Kept.nil) | refine qq (hk := ?_) | ((with_reducible first | apply Kept.cons | apply q_blky); rfl) | ((with_reducible apply Kept.skip); rfl) | refine ww (hk := ?_) | (apply c_condP; rfl; exact bpx; all_goals intro hc) | ((first | apply s_gTP | apply s_gFP); rfl; exact bpx; all_goals intro hg) | (apply s_lalloc; rfl) | ((first | apply s_lbox); rfl; rfl; rfl) | (apply s_lstore; rfl; rfl; rfl; rfl; rfl) | (apply s_callB (hm := YC.m _ _); rfl; intro h3 o3 b3)
  refine k105 (by omega) fun v2 h2 e2 u2 => ?_
  have u1' := u1.ext e2
  repeat' first | (with_reducible first | exact SetAt.z | apply SetAt.s | apply s_end | exact Kept.nil) | refine qq (hk := ?_) | ((with_reducible first | apply Kept.cons | apply q_blky); rfl) | ((with_reducible apply Kept.skip); rfl) | refine ww (hk := ?_) | (apply c_condP; rfl; exact bpx; all_goals intro hc) | ((first | apply s_gTP | apply s_gFP); rfl; exact bpx; all_goals intro hg) | (apply s_lalloc; rfl) | ((first | apply s_lbox); rfl; rfl; rfl) | (apply s_lstore; rfl; rfl; rfl; rfl; rfl) | (apply s_callB (hm := YC.m _ _); rfl; intro h3 o3 b3)
  refine k125 (by omega) (by omega) u1' u2 fun v3 h3 e3 u3 => ?_
  repeat' first | (with_reducible first | exact SetAt.z | apply SetAt.s | apply s_end | exact Kept.nil) | refine qq (hk := ?_) | ((with_reducible first | apply Kept.cons | apply q_blky); rfl) | ((with_reducible apply Kept.skip); rfl) | refine ww (hk := ?_) | (apply c_condP; rfl; exact bpx; all_goals intro hc) | ((first | apply s_gTP | apply s_gFP); rfl; exact bpx; all_goals intro hg) | (apply s_lalloc; rfl) | ((first | apply s_lbox); rfl; rfl; rfl) | (apply s_lstore; rfl; rfl; rfl; rfl; rfl) | (apply s_callB (hm := YC.m _ _); rfl; intro h3 o3 b3)
  have L3 : (li (Nat.gcd (bv l) (bv m))).length ≤ 274877906944 := by
    by_cases h0 : bv m = 0
    · rw [h0, Nat.gcd_zero_right]; omega
    · exact Nat.le_trans (li_mono (Nat.gcd_le_right _ (by omega))) (by omega)
  refine k107 (li_in _) L3 u3 fun h4 e4 => ?_
  repeat' first | (with_reducible first | exact SetAt.z | apply SetAt.s | apply s_end | exact Kept.nil) | refine qq (hk := ?_) | ((with_reducible first | apply Kept.cons | apply q_blky); rfl) | ((with_reducible apply Kept.skip); rfl) | refine ww (hk := ?_) | (apply c_condP; rfl; exact bpx; all_goals intro hc) | ((first | apply s_gTP | apply s_gFP); rfl; exact bpx; all_goals intro hg) | (apply s_lalloc; rfl) | ((first | apply s_lbox); rfl; rfl; rfl) | (apply s_lstore; rfl; rfl; rfl; rfl; rfl) | (apply s_callB (hm := YC.m _ _); rfl; intro h3 o3 b3)
  rw [lv_li_nat]
  exact hq _ (((e1.trans e2).trans e3).trans e4)
end
end Am
end Go.Proofs.YtfhlblclcdhbiaaGreatDoor
