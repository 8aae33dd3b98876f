/- Long division; the greatest common divisor. -/
import Derived.Test.YtfhlblclcdhbiaaGreatDoorK5
namespace Go.Proofs.YtfhlblclcdhbiaaGreatDoor
open Go
set_option linter.unusedVariables false
set_option linter.unusedSimpArgs false
namespace Am
section
variable {B0 : Nat} {Q : Value → AH → Prop} {h : AH}
section
variable {C : CT} {K : Fr → AH → Prop} {r : List AI} {tm : List (Nat × TV)} {bx : List (Nat × List Value)}
theorem s_bsl {d n sz : Nat} {z cs : List Value} {parts : List (Nat × X)} {ps : List (Nat × List Value)} (hp : partsV (⟨tm, bx⟩ : Fr) (parts.map fun p => (p.1 * sz, sz, p.2)) = some ps) (hf : fillC (reps z n) ps = some cs)
    (hk : ∀ h', NewO h (some (sz, cs)) h' → WI C r K ⟨(d, .v (.slice (some ⟨h.ob.length, 0, none⟩) n n)) :: tm, bx⟩ h') : WI C (⟨some d, none, .bsl sz n z parts⟩ :: r) K (⟨tm, bx⟩ : Fr) h := by
  constructor
  simp only [wIs, wI, wO, hp, hf]
  exact (hk (mkO h sz cs) ⟨rfl, rfl⟩).out
theorem q_slM {fr : Fr} {x lo hi : X} {o L p m c : Nat} {i j : Int} {k k' : IntKind} {l : List Int} {kk : IntKind} (hx : vl fr x = some (.slice (some ⟨o, 0, none⟩) L L)) (hlo : vl fr lo = some (.int k i)) (hhi : vl fr hi = some (.int k' j))
    (ho : UA kk h.ob o l) (h1 : i = p) (h2 : j = p + m) (h3 : p + m ≤ L) (h4 : p < L) (h5 : c = L - p) : qO (.sl 1 x (some lo) (some hi) none) fr h = some (.v (.slice (some ⟨o, p, none⟩) m c)) := by
  subst h1
  subst h2
  subst h5
  have e1 : (p : Int) + m ≤ L := by omega
  have e2 : 0 ≤ (p : Int) + m := by omega
  have e4 : ((p : Int) + m).toNat = p + m := by omega
  have e3 : (p : Int) ≤ ((p + m : Nat) : Int) := by omega
  have e5 : (p : Int) ≤ p + m := by omega
  simp [qO, hx, hlo, hhi, oX, capM, bnds, bnd, e1, e2, e4, e5, h4, objZ, ho]
end
theorem lv_app {a b c : List Int} : lv (a ++ b ++ c) = lv a + B a.length * (lv b + B b.length * lv c) := by
  rw [List.append_assoc, lv_append, lv_append]
theorem k145' {pre U post D : List Int} {o od c p m nd : Nat} (hpl : pre.length = p) (hUl : U.length = m) (hDl : D.length = nd) (hn : 2 ≤ nd) (hbig : nd ≤ 1099511627776) (hlen : m = nd + 1) (hU : InB U) (hD : InB D) (htop : 2147483648 ≤ D.getD (nd - 1) 0) (hlt : lv U < lv D * 4294967296)
    (hA : UA .u32 h.ob o (pre ++ U ++ post)) (hbar : h.bar ≤ o) (hd : UA .u32 h.ob od D) (hne : od ≠ o) (hc : m ≤ c)
    (hq : ∀ h' U', SetO h o (some (1, (pre ++ U' ++ post).map (Value.int .u32))) h' → InB U' → U'.length = m → lv U' = lv U % lv D → Q (.int .u32 (lv U / lv D)) h') :
    YC Tryz.prog B0 145 [.slice (some ⟨o, p, none⟩) m c, .slice (some ⟨od, 0, none⟩) nd nd] Q h := by
  subst hpl; subst hUl; subst hDl
  exact k145 hn hbig hlen hU hD htop hlt hA hbar hd hne hc hq
theorem cmpv_lt {a b : Nat} : cmpv a b < 0 ↔ a < b := by
  unfold cmpv; split
  · simp; assumption
  · split <;> simp <;> omega
theorem li_mono {a b : Nat} (h : a ≤ b) : (li a).length ≤ (li b).length :=
  length_le_of_lv (li_trim a) (li_in a) (li_in b) (by rw [lv_li, lv_li]; omega)
theorem k124 {a b : Nat} {v w : Value} (ha : (li a).length ≤ 549755813888) (hb : (li b).length ≤ 549755813888) (hb0 : 0 < b) (hv : US .u32 h.ob (li a) v) (hw : US .u32 h.ob (li b) w)
    (hq : ∀ v' w' h', Ext h h' → US .u32 h'.ob (li (a / b)) v' → US .u32 h'.ob (li (a % b)) w' → Q (.tuple #[v', w']) h') : YC Tryz.prog B0 124 [v, w] Q h := by
  refine enterF mix Tryz.func124 ok124 rfl (tm := [(0, _), (1, _)]) (bx := []) rfl rfl fun hp => ?_
  have hbne : li b ≠ [] := by rw [Ne, li_nil]; omega
  have hbl : 0 < (li b).length := List.length_pos_iff.mpr hbne
  have hbin := li_in b
  by_cases hab : a < b
  · have hc := cmpv_lt.mpr hab
    repeat' first | (with_reducible first | exact SetAt.z | apply SetAt.s | apply s_end | exact Kept.nil) | refine qq (hk := ?_) | ((with_reducible first | apply Kept.cons | apply q_blky); rfl) | ((with_reducible apply Kept.skip); rfl) | refine ww (hk := ?_) | (apply c_condP; rfl; exact bpx; all_goals intro hc) | ((first | apply s_gTP | apply s_gFP); rfl; exact bpx; all_goals intro hg) | (apply s_lalloc; rfl) | ((first | apply s_lbox); rfl; rfl; rfl) | (apply s_lstore; rfl; rfl; rfl; rfl; rfl) | (apply s_callB (hm := YC.m _ _); rfl; intro h3 o3 b3) | ((with_reducible refine YCi (f := 141) ?_); refine k141 (by omega) (by omega) hv hw ?_)
    rw [Nat.div_eq_of_lt hab, Nat.mod_eq_of_lt hab, li_zero] at hq
    exact hq _ _ _ (Ext.refl h) US.nil hv
  · have hc : ¬ cmpv a b < 0 := fun e => hab (cmpv_lt.mp e)
    by_cases h1 : (li b).length = 1
    · have hb1 : li b = [(b : Int)] ∧ b < 4294967296 := by
        have hlt := li_lt b
        rw [h1] at hlt
        have h2 : (b : Int) < 4294967296 := by rw [show B 1 = 4294967296 by rfl] at hlt; exact hlt
        have h3 : b < 4294967296 := by omega
        exact ⟨li_small hb0 h3, h3⟩
      have hg : (li b).getD (Int.toNat 0) 0 = (b : Int) := by rw [hb1.1]; rfl
      repeat' first | (with_reducible first | exact SetAt.z | apply SetAt.s | apply s_end | exact Kept.nil) | refine qq (hk := ?_) | ((with_reducible first | apply Kept.cons | apply q_blky); rfl) | ((with_reducible apply Kept.skip); rfl) | (apply s_q; rfl; (first | ((with_reducible apply q_ldE); rfl; assumption; (show 0 < (li b).length; exact hbl); exact hg))) | refine ww (hk := ?_) | (apply c_condP; rfl; exact bpx; all_goals intro hc) | ((first | apply s_gTP | apply s_gFP); rfl; exact bpx; all_goals intro hg) | (apply s_lalloc; rfl) | ((first | apply s_lbox); rfl; rfl; rfl) | (apply s_lstore; rfl; rfl; rfl; rfl; rfl) | (apply s_callB (hm := YC.m _ _); rfl; intro h3 o3 b3) | ((with_reducible refine YCi (f := 141) ?_); refine k141 (by omega) (by omega) hv hw ?_)
      refine k142 (d := (b : Int)) (li_in a) (by omega) hv (by omega) fun v' h2 e2 hv' => ?_
      repeat' first | (with_reducible first | exact SetAt.z | apply SetAt.s | apply s_end | exact Kept.nil) | refine qq (hk := ?_) | ((with_reducible first | apply Kept.cons | apply q_blky); rfl) | ((with_reducible apply Kept.skip); rfl) | refine ww (hk := ?_) | (apply c_condP; rfl; exact bpx; all_goals intro hc) | ((first | apply s_gTP | apply s_gFP); rfl; exact bpx; all_goals intro hg) | (apply s_lalloc; rfl) | ((first | apply s_lbox); rfl; rfl; rfl) | (apply s_lstore; rfl; rfl; rfl; rfl; rfl) | (apply s_callB (hm := YC.m _ _); rfl; intro h3 o3 b3)
      refine s_bsl (ps := [(0, [.int .u32 (lv (li a) % b)])]) (cs := [.int .u32 (lv (li a) % b)]) rfl rfl fun h3 n3 => ?_
      have e3 := n3.ext
      have hr0 : 0 ≤ lv (li a) % (b : Int) := Int.emod_nonneg _ (by omega)
      have hr1 : lv (li a) % (b : Int) < b := Int.emod_lt_of_pos _ (by omega)
      have u3 : US .u32 h3.ob [lv (li a) % (b : Int)] (.slice (some ⟨h2.ob.length, 0, none⟩) 1 1) := UA.all (k := .u32) n3.at rfl (Nat.le_refl _)
      have hv3 := hv'.ext e3
      repeat' first | (with_reducible first | exact SetAt.z | apply SetAt.s | apply s_end | exact Kept.nil) | refine qq (hk := ?_) | ((with_reducible first | apply Kept.cons | apply q_blky); rfl) | ((with_reducible apply Kept.skip); rfl) | refine ww (hk := ?_) | (apply c_condP; rfl; exact bpx; all_goals intro hc) | ((first | apply s_gTP | apply s_gFP); rfl; exact bpx; all_goals intro hg) | (apply s_lalloc; rfl) | ((first | apply s_lbox); rfl; rfl; rfl) | (apply s_lstore; rfl; rfl; rfl; rfl; rfl) | (apply s_callB (hm := YC.m _ _); rfl; intro h3 o3 b3)
      refine k134 (InB.cons hr0 (by omega) InB.nil) (by simp) u3 fun w' hw' => ?_
      repeat' first | (with_reducible first | exact SetAt.z | apply SetAt.s | apply s_end | exact Kept.nil) | refine qq (hk := ?_) | ((with_reducible first | apply Kept.cons | apply q_blky); rfl) | ((with_reducible apply Kept.skip); rfl) | refine ww (hk := ?_) | (apply c_condP; rfl; exact bpx; all_goals intro hc) | ((first | apply s_gTP | apply s_gFP); rfl; exact bpx; all_goals intro hg) | (apply s_lalloc; rfl) | ((first | apply s_lbox); rfl; rfl; rfl) | (apply s_lstore; rfl; rfl; rfl; rfl; rfl) | (apply s_callB (hm := YC.m _ _); rfl; intro h3 o3 b3)
      have r1 : (lv (li a) / (b : Int)).toNat = a / b := by rw [lv_li, ← Int.natCast_ediv, Int.toNat_natCast]
      have r2 : (lv [lv (li a) % (b : Int)]).toNat = a % b := by rw [lv, lv, lv_li, ← Int.natCast_emod]; omega
      rw [r1] at hv3
      rw [r2] at hw'
      exact hq _ _ _ (e2.trans e3) hv3 hw'
    · have hn2 : 2 ≤ (li b).length := by omega
      have hla := li_mono (Nat.le_of_not_lt hab)
      have tb := (li_trim b).getD hbl
      have ib := hbin.getD ((li b).length - 1)
      obtain ⟨x, hx⟩ := Int.eq_ofNat_of_zero_le ib.1
      have hx' : (li b).getD (((li b).length : Int) - 1).toNat 0 = (x : Int) := by
        rw [show (((li b).length : Int) - 1).toNat = (li b).length - 1 by omega]; exact hx
      repeat' first | (with_reducible first | exact SetAt.z | apply SetAt.s | apply s_end | exact Kept.nil) | refine qq (hk := ?_) | ((with_reducible first | apply Kept.cons | apply q_blky); rfl) | ((with_reducible apply Kept.skip); rfl) | (apply s_q; rfl; (first | ((with_reducible apply q_ldE); rfl; assumption; omega; exact hx'))) | refine ww (hk := ?_) | (apply c_condP; rfl; exact bpx; all_goals intro hc) | ((first | apply s_gTP | apply s_gFP); rfl; exact bpx; all_goals intro hg) | (apply s_lalloc; rfl) | ((first | apply s_lbox); rfl; rfl; rfl) | (apply s_lstore; rfl; rfl; rfl; rfl; rfl) | (apply s_callB (hm := YC.m _ _); rfl; intro h3 o3 b3) | ((with_reducible refine YCi (f := 141) ?_); refine k141 (by omega) (by omega) hv hw ?_) | ((with_reducible refine YCi (f := 143) ?_); refine k143 (by omega) (by omega) fun s hs hs1 hs2 => ?_)
      have eb := lv_last (V := li b) (n := (li b).length - 1) (by omega)
      have bt0 := lv_nonneg (hbin.take ((li b).length - 1))
      have bt1 := lv_lt (hbin.take ((li b).length - 1))
      rw [List.length_take, Nat.min_eq_left (by omega)] at bt1
      rw [hx] at eb
      have hBp := B_pos ((li b).length - 1)
      have hBs : B (li b).length = 4294967296 * B ((li b).length - 1) := by rw [← B_succ]; congr 1; omega
      have h2s := p2 s
      have hxs1 : (2147483648 : Int) ≤ x * 2 ^ s := by
        have : ((2147483648 : Nat) : Int) ≤ ((x * 2 ^ s : Nat) : Int) := Int.ofNat_le.mpr hs1
        rw [Int.natCast_mul, Int.natCast_pow] at this
        exact this
      have hxs2 : (x : Int) * 2 ^ s + 2 ^ s ≤ 4294967296 := by
        have h1 : ((x * 2 ^ s : Nat) : Int) < ((4294967296 : Nat) : Int) := Int.ofNat_lt.mpr hs2
        rw [Int.natCast_mul, Int.natCast_pow] at h1
        have h1' : (x : Int) * 2 ^ s < 4294967296 := h1
        rw [pow_split (s := s) (by omega)] at h1' ⊢
        have h2 := Int.lt_of_mul_lt_mul_right h1' (by omega)
        have h3 : ((x : Int) + 1) * 2 ^ s ≤ 2 ^ (32 - s) * 2 ^ s := Int.mul_le_mul_of_nonneg_right (by omega) (by omega)
        rw [Int.add_mul, Int.one_mul] at h3
        exact h3
      have hbs_hi : lv (li b) * 2 ^ s < B (li b).length := by
        rw [hBs]
        have h1 : lv (li b) < B ((li b).length - 1) * (x + 1) := by rw [Int.mul_add]; omega
        have h2 : lv (li b) * 2 ^ s < B ((li b).length - 1) * (x + 1) * 2 ^ s := Int.mul_lt_mul_of_pos_right h1 h2s
        have h3 : B ((li b).length - 1) * (x + 1) * 2 ^ s = B ((li b).length - 1) * (x * 2 ^ s + 2 ^ s) := by grind
        have h4 : B ((li b).length - 1) * (x * 2 ^ s + 2 ^ s) ≤ B ((li b).length - 1) * 4294967296 := Int.mul_le_mul_of_nonneg_left hxs2 (by omega)
        omega
      have hbs_lo : B ((li b).length - 1) * 2147483648 ≤ lv (li b) * 2 ^ s := by
        have h1 : B ((li b).length - 1) * x ≤ lv (li b) := by omega
        have h2 : B ((li b).length - 1) * x * 2 ^ s ≤ lv (li b) * 2 ^ s := Int.mul_le_mul_of_nonneg_right h1 (by omega)
        have h3 : B ((li b).length - 1) * x * 2 ^ s = B ((li b).length - 1) * (x * 2 ^ s) := by grind
        have h4 : B ((li b).length - 1) * 2147483648 ≤ B ((li b).length - 1) * (x * 2 ^ s) := Int.mul_le_mul_of_nonneg_left hxs1 (by omega)
        omega
      repeat' first | (with_reducible first | exact SetAt.z | apply SetAt.s | apply s_end | exact Kept.nil) | refine qq (hk := ?_) | ((with_reducible first | apply Kept.cons | apply q_blky); rfl) | ((with_reducible apply Kept.skip); rfl) | refine ww (hk := ?_) | (apply c_condP; rfl; exact bpx; all_goals intro hc) | ((first | apply s_gTP | apply s_gFP); rfl; exact bpx; all_goals intro hg) | (apply s_lalloc; rfl) | ((first | apply s_lbox); rfl; rfl; rfl) | (apply s_lstore; rfl; rfl; rfl; rfl; rfl) | (apply s_callB (hm := YC.m _ _); rfl; intro h3 o3 b3)
      refine k144 hbin (Nat.le_refl _) (by omega) hw hs hbs_hi fun od h2 D hod e2 hD hDi hDl hDv => ?_
      have hv2 := hv.ext e2
      repeat' first | (with_reducible first | exact SetAt.z | apply SetAt.s | apply s_end | exact Kept.nil) | refine qq (hk := ?_) | ((with_reducible first | apply Kept.cons | apply q_blky); rfl) | ((with_reducible apply Kept.skip); rfl) | refine ww (hk := ?_) | (apply c_condP; rfl; exact bpx; all_goals intro hc) | ((first | apply s_gTP | apply s_gFP); rfl; exact bpx; all_goals intro hg) | (apply s_lalloc; rfl) | ((first | apply s_lbox); rfl; rfl; rfl) | (apply s_lstore; rfl; rfl; rfl; rfl; rfl) | (apply s_callB (hm := YC.m _ _); rfl; intro h3 o3 b3)
      have ain := li_in a
      have hafit : lv (li a) * 2 ^ s < B ((li a).length + 1) := by
        have h1 := lv_lt ain
        have h2 : (2 : Int) ^ s ≤ 2 ^ 31 := by exact_mod_cast Nat.pow_le_pow_right (n := 2) (by decide) (show s ≤ 31 by omega)
        have h3 : (2 : Int) ^ 31 = 2147483648 := by decide
        have h4 : lv (li a) * 2 ^ s < B (li a).length * 2 ^ s := Int.mul_lt_mul_of_pos_right h1 h2s
        have h5 : B (li a).length * 2 ^ s ≤ B (li a).length * 2147483648 := Int.mul_le_mul_of_nonneg_left (by omega) (by have := B_pos (li a).length; omega)
        have := B_pos (li a).length
        rw [B_succ]
        omega
      refine k144 (N := (li a).length + 1) ain (by omega) (by omega) hv2 hs hafit fun ou h3 A hou e3 hA hAi hAl hAv => ?_
      have hD3 : UA .u32 h3.ob od D := e3.row hD
      have hodl : od < h2.ob.length := (List.getElem?_eq_some_iff.mp hD).1
      repeat' first | (with_reducible first | exact SetAt.z | apply SetAt.s | apply s_end | exact Kept.nil) | refine qq (hk := ?_) | ((with_reducible first | apply Kept.cons | apply q_blky); rfl) | ((with_reducible apply Kept.skip); rfl) | refine ww (hk := ?_) | (apply c_condP; rfl; exact bpx; all_goals intro hc) | ((first | apply s_gTP | apply s_gFP); rfl; exact bpx; all_goals intro hg) | (apply s_lalloc; rfl) | ((first | apply s_lbox); rfl; rfl; rfl) | (apply s_lstore; rfl; rfl; rfl; rfl; rfl) | (apply s_callB (hm := YC.m _ _); rfl; intro h3 o3 b3)
      refine s_mk rfl rfl (by omega) fun h4 n4 => ?_
      rw [reps_U] at n4
      have hM : (((li a).length : Int) - (li b).length + 1).toNat = (li a).length - (li b).length + 1 := by omega
      rw [hM] at n4 ⊢
      have e4 := n4.ext
      have hD4 : UA .u32 h4.ob od D := e4.row hD3
      have hA4 : UA .u32 h4.ob ou A := e4.row hA
      have houl : ou < h3.ob.length := (List.getElem?_eq_some_iff.mp hA).1
      have hq4 := n4.at
      have uQ4 := UA.all (k := .u32) hq4 (m := (li a).length - (li b).length + 1) (by simp) (Nat.le_refl _)
      obtain ⟨oq, hoq⟩ : ∃ oq, h3.ob.length = oq := ⟨_, rfl⟩
      rw [hoq] at hq4 uQ4 ⊢
      have ee4 := (e2.trans e3).trans e4
      have hbar2 := e2.bar
      have hbar3 := e3.bar
      have hbar4 := e4.bar
      have hoo := e2.len
      have hoo3 := e3.len
      have hDtop : 2147483648 ≤ D.getD ((li b).length - 1) 0 := by
        have e1 := lv_last (V := D) (n := (li b).length - 1) (by omega)
        have e2 := lv_lt (hDi.take ((li b).length - 1))
        rw [List.length_take, Nat.min_eq_left (by omega)] at e2
        rw [← hDv, e1] at hbs_lo
        have e3 : B ((li b).length - 1) * 2147483648 < B ((li b).length - 1) * (D.getD ((li b).length - 1) 0 + 1) := by rw [Int.mul_add _ _ 1]; omega
        have e4 := Int.lt_of_mul_lt_mul_left e3 (by omega)
        omega
      have hDpos : 0 < lv D := by
        rw [hDv]
        have : B ((li b).length - 1) * 0 < B ((li b).length - 1) * 2147483648 := Int.mul_lt_mul_of_pos_left (by decide) hBp
        omega
      have hDlt : lv D < B (li b).length := by rw [hDv]; exact hbs_hi
      obtain ⟨M, hMe⟩ : ∃ M, (li a).length - (li b).length + 1 = M := ⟨_, rfl⟩
      rw [hMe] at hq4 uQ4 ⊢
      have hstart : lv (A.drop M) < lv D := by
        have e1 := lv_split A M (by omega)
        have e2 := lv_nonneg (hAi.take M)
        have e3 := lv_lt ain
        have e5 : B (li a).length = B M * B ((li b).length - 1) := by rw [← B_add]; congr 1; omega
        have e6 : lv (li a) * 2 ^ s < B (li a).length * 2 ^ s := Int.mul_lt_mul_of_pos_right e3 h2s
        have e7 : (2 : Int) ^ s ≤ 2147483648 := by
          have h2 : (2 : Int) ^ s ≤ 2 ^ 31 := by exact_mod_cast Nat.pow_le_pow_right (n := 2) (by decide) (show s ≤ 31 by omega)
          exact h2
        have e8 : B ((li b).length - 1) * 2 ^ s ≤ B ((li b).length - 1) * 2147483648 := Int.mul_le_mul_of_nonneg_left e7 (by omega)
        have e9 : B M * (B ((li b).length - 1) * 2 ^ s) ≤ B M * lv D := Int.mul_le_mul_of_nonneg_left (by omega) (by have := B_pos M; omega)
        have e10 : B M * B ((li b).length - 1) * 2 ^ s = B M * (B ((li b).length - 1) * 2 ^ s) := by grind
        rw [e5] at e6
        have e11 : B M * lv (A.drop M) < B M * lv D := by omega
        exact Int.lt_of_mul_lt_mul_left e11 (by have := B_pos M; omega)
      have hrep : (List.replicate M (0 : Int)).length = M := List.length_replicate
      repeat' first | (with_reducible first | exact SetAt.z | apply SetAt.s | apply s_end | exact Kept.nil) | refine qq (hk := ?_) | ((with_reducible first | apply Kept.cons | apply q_blky); rfl) | ((with_reducible apply Kept.skip); rfl) | refine ww (hk := ?_) | (apply c_condP; rfl; exact bpx; all_goals intro hc) | ((first | apply s_gTP | apply s_gFP); rfl; exact bpx; all_goals intro hg) | (apply s_lalloc; rfl) | ((first | apply s_lbox); rfl; rfl; rfl) | (apply s_lstore; rfl; rfl; rfl; rfl; rfl) | (apply s_callB (hm := YC.m _ _); rfl; intro h3 o3 b3)
      refine loopI (YC.m _ _) (fun m fr h5 => ∃ (A' qv : List Int), m ≤ M ∧ Ext h h5 ∧ UA .u32 h5.ob od D ∧ UA .u32 h5.ob ou A' ∧ UA .u32 h5.ob oq qv ∧ InB A' ∧ A'.length = (li a).length + 1 ∧ InB qv ∧ qv.length = M ∧ lv (A'.drop m) < lv D ∧ lv A = lv A' + lv D * (B m * lv (qv.drop m)) ∧
        fr = ⟨[(8, .v (.int .u64 s)), (9, .v (.int .i64 (li b).length)), (10, .v (.slice (some ⟨od, 0, none⟩) (li b).length (li b).length)), (11, .v (.slice (some ⟨ou, 0, none⟩) ((li a).length + 1) ((li a).length + 1))), (12, .v (.slice (some ⟨oq, 0, none⟩) M M)), (13, .v (.int .i64 ((m : Int) - 1)))], []⟩) M
        ⟨A, List.replicate M 0, Nat.le_refl _, ee4, hD4, hA4, hq4, hAi, hAl, InB.replicate _, by simp, hstart, by rw [List.drop_eq_nil_of_le (by simp)]; simp [lv], by simp⟩ ?_
      rintro m fr h5 ⟨A', qv, hm, e5, hD5, hA5, hq5, hA'i, hA'l, hqi, hql, hdl, hinv, rfl⟩
      have hbar5 := e5.bar
      by_cases hm0 : 0 < m
      · obtain ⟨pre, U, post, hsplit, hpl, hUl⟩ : ∃ pre U post, A' = pre ++ U ++ post ∧ pre.length = m - 1 ∧ U.length = (li b).length + 1 :=
          ⟨A'.take (m - 1), (A'.drop (m - 1)).take ((li b).length + 1), (A'.drop (m - 1)).drop ((li b).length + 1), by rw [List.append_assoc, List.take_append_drop, List.take_append_drop], by simp; omega, by simp; omega⟩
        subst hsplit
        have hpre := InB.left (InB.left hA'i)
        have hUi := InB.right (InB.left hA'i)
        have hpost := InB.right hA'i
        have hdrop : (pre ++ U ++ post).drop (m - 1) = U ++ post := by rw [List.append_assoc, List.drop_append_of_le_length (by omega), List.drop_eq_nil_of_le (by omega), List.nil_append]
        have hlvd : lv ((pre ++ U ++ post).drop (m - 1)) = lv U + B ((li b).length + 1) * lv post := by rw [hdrop, lv_append, hUl]
        have hsucc := lv_drop_succ (pre ++ U ++ post) (m - 1) (by omega)
        rw [show m - 1 + 1 = m by omega] at hsucc
        have hg0 := hA'i.getD (m - 1)
        have hUnn := lv_nonneg hUi
        have hpnn := lv_nonneg hpost
        have hpost0 : lv post = 0 := by
          apply Classical.byContradiction
          intro hne
          have h1 : B ((li b).length + 1) * 1 ≤ B ((li b).length + 1) * lv post := Int.mul_le_mul_of_nonneg_left (by omega) (by have := B_pos ((li b).length + 1); omega)
          have h2 := B_succ (li b).length
          omega
        rw [hpost0] at hlvd
        have hUlt : lv U < lv D * 4294967296 := by omega
        have qq0 : 0 ≤ lv U / lv D := Int.ediv_nonneg hUnn (by omega)
        have qq1 : lv U / lv D < 4294967296 := Int.ediv_lt_of_lt_mul hDpos (by rw [Int.mul_comm]; exact hUlt)
        have qm := Int.emod_add_mul_ediv (lv U) (lv D)
        have qr1 := Int.emod_lt_of_pos (lv U) hDpos
        have uQ5 := hq5.all hql.symm (Nat.le_refl _)
        repeat' first | (with_reducible first | exact SetAt.z | apply SetAt.s | apply s_end | exact Kept.nil) | refine qq (hk := ?_) | ((with_reducible first | apply Kept.cons | apply q_blky); rfl) | ((with_reducible apply Kept.skip); rfl) | (apply s_q; rfl; (first | ((with_reducible apply q_slM (p := m - 1) (m := (li b).length + 1) (c := (li a).length + 1 - (m - 1))); rfl; rfl; rfl; exact hA5; omega; omega; omega; omega; rfl))) | refine ww (hk := ?_) | (apply c_condP; rfl; exact bpx; all_goals intro hc) | ((first | apply s_gTP | apply s_gFP); rfl; exact bpx; all_goals intro hg) | (apply s_lalloc; rfl) | ((first | apply s_lbox); rfl; rfl; rfl) | (apply s_lstore; rfl; rfl; rfl; rfl; rfl) | (apply s_callB (hm := YC.m _ _); rfl; intro h3 o3 b3)
        refine k145' hpl hUl hDl hn2 (by omega) rfl hUi hDi hDtop hUlt hA5 (by omega) hD5 (by omega) (by omega) fun h6 U' s6 hU'i hU'l hU'v => ?_
        have hq6 : UA .u32 h6.ob oq qv := (s6.other (by omega)).trans hq5
        have hD6 : UA .u32 h6.ob od D := (s6.other (by omega)).trans hD5
        have hA6 : UA .u32 h6.ob ou (pre ++ U' ++ post) := s6.at hA5
        have e6 := s6.ext e5 (by omega)
        have hbar6 := e6.bar
        have uQ6 := hq6.all hql.symm (Nat.le_refl _)
        repeat' first | (with_reducible first | exact SetAt.z | apply SetAt.s | apply s_end | exact Kept.nil) | refine qq (hk := ?_) | ((with_reducible first | apply Kept.cons | apply q_blky); rfl) | ((with_reducible apply Kept.skip); rfl) | refine ww (hk := ?_) | (apply c_condP; rfl; exact bpx; all_goals intro hc) | ((first | apply s_gTP | apply s_gFP); rfl; exact bpx; all_goals intro hg) | (apply s_lalloc; rfl) | ((first | apply s_lbox); rfl; rfl; rfl) | (apply s_lstore; rfl; rfl; rfl; rfl; rfl) | (apply s_callB (hm := YC.m _ _); rfl; intro h3 o3 b3)
        refine s_stW (m - 1) (lv U / lv D) rfl rfl (by omega) hq6 (by omega) rfl (by omega) fun h7 s7 => ?_
        repeat' first | (with_reducible first | exact SetAt.z | apply SetAt.s | apply s_end | exact Kept.nil) | refine qq (hk := ?_) | ((with_reducible first | apply Kept.cons | apply q_blky); rfl) | ((with_reducible apply Kept.skip); rfl) | refine ww (hk := ?_) | (apply c_condP; rfl; exact bpx; all_goals intro hc) | ((first | apply s_gTP | apply s_gFP); rfl; exact bpx; all_goals intro hg) | (apply s_lalloc; rfl) | ((first | apply s_lbox); rfl; rfl; rfl) | (apply s_lstore; rfl; rfl; rfl; rfl; rfl) | (apply s_callB (hm := YC.m _ _); rfl; intro h3 o3 b3)
        refine q_seql (m := m - 1) (by omega) ⟨pre ++ U' ++ post, qv.set (m - 1) (lv U / lv D), by omega, s7.ext e6 (by omega), (s7.other (by omega)).trans hD6, (s7.other (by omega)).trans hA6, s7.at hq6, (hpre.append hU'i).append hpost, by simp at hA'l ⊢; omega, hqi.set _ qq0 qq1, by simpa using hql, ?_, ?_, by rw [Int.ofNat_sub (by omega)]; rfl⟩
        · rw [List.append_assoc, List.drop_append_of_le_length (by omega), List.drop_eq_nil_of_le (by omega), List.nil_append, lv_append, hpost0, hU'v]
          omega
        · rw [hinv, lv_app, lv_app, hU'l, hUl, hpost0, hU'v, hpl, drop_set (by omega), lv, show m - 1 + 1 = m by omega]
          have hBm : B m = 4294967296 * B (m - 1) := by rw [← B_succ]; congr 1; omega
          rw [hBm]
          generalize lv (qv.drop m) = x1, lv U / lv D = x2 at qm ⊢
          generalize lv U % lv D = x3 at qm ⊢
          generalize B (m - 1) = x4, B ((li b).length + 1) = x5, lv pre = x6
          generalize lv U = x7, lv D = x8 at qm ⊢
          subst qm
          grind
      · have hm0' : m = 0 := by omega
        subst hm0'
        have uQ5 := hq5.all hql.symm (Nat.le_refl _)
        have uA5 := hA5.all hA'l.symm (Nat.le_refl _)
        repeat' first | (with_reducible first | exact SetAt.z | apply SetAt.s | apply s_end | exact Kept.nil) | refine qq (hk := ?_) | ((with_reducible first | apply Kept.cons | apply q_blky); rfl) | ((with_reducible apply Kept.skip); rfl) | refine ww (hk := ?_) | (apply c_condP; rfl; exact bpx; all_goals intro hc) | ((first | apply s_gTP | apply s_gFP); rfl; exact bpx; all_goals intro hg) | (apply s_lalloc; rfl) | ((first | apply s_lbox); rfl; rfl; rfl) | (apply s_lstore; rfl; rfl; rfl; rfl; rfl) | (apply s_callB (hm := YC.m _ _); rfl; intro h3 o3 b3)
        refine k134 hqi (by omega) (by rw [o3]; exact uQ5) fun v' hv' => ?_
        rw [o3] at hv'
        intro h4' o4 b4
        obtain rfl : h4' = h5 := AH.same (o4.trans o3) b4
        repeat' first | (with_reducible first | exact SetAt.z | apply SetAt.s | apply s_end | exact Kept.nil) | refine qq (hk := ?_) | ((with_reducible first | apply Kept.cons | apply q_blky); rfl) | ((with_reducible apply Kept.skip); rfl) | refine ww (hk := ?_) | (apply c_condP; rfl; exact bpx; all_goals intro hc) | ((first | apply s_gTP | apply s_gFP); rfl; exact bpx; all_goals intro hg) | (apply s_lalloc; rfl) | ((first | apply s_lbox); rfl; rfl; rfl) | (apply s_lstore; rfl; rfl; rfl; rfl; rfl) | (apply s_callB (hm := YC.m _ _); rfl; intro h3 o3 b3)
        refine k146 (hA'i.take _) (by simp; omega) (by rw [o3]; exact uA5.upto (n := (li b).length) (by omega)) hs fun w' h6 e6 hw' => ?_
        intro h8 o8 b8
        have e6' : Ext h4' h8 := Ext.br (by assumption) e6 o8 b8
        have hv6 : US .u32 h8.ob (li (lv qv).toNat) v' := TS.ext e6' hv'
        rw [← o8] at hw'
        repeat' first | (with_reducible first | exact SetAt.z | apply SetAt.s | apply s_end | exact Kept.nil) | refine qq (hk := ?_) | ((with_reducible first | apply Kept.cons | apply q_blky); rfl) | ((with_reducible apply Kept.skip); rfl) | refine ww (hk := ?_) | (apply c_condP; rfl; exact bpx; all_goals intro hc) | ((first | apply s_gTP | apply s_gFP); rfl; exact bpx; all_goals intro hg) | (apply s_lalloc; rfl) | ((first | apply s_lbox); rfl; rfl; rfl) | (apply s_lstore; rfl; rfl; rfl; rfl; rfl) | (apply s_callB (hm := YC.m _ _); rfl; intro h3 o3 b3)
        rw [lv_li] at hAv hDv
        have hA'nn := lv_nonneg hA'i
        have hqnn := lv_nonneg hqi
        rw [List.drop_zero] at hdl
        rw [List.drop_zero, show B 0 = 1 from rfl, Int.one_mul, hAv, hDv] at hinv
        have htk : lv (A'.take (li b).length) = lv A' := by
          have e1 := lv_split A' (li b).length (by omega)
          have e2 := lv_nonneg (hA'i.drop (li b).length)
          have e3 := lv_nonneg (hA'i.take (li b).length)
          apply Classical.byContradiction
          intro hne
          have h1 : B (li b).length * 1 ≤ B (li b).length * lv (A'.drop (li b).length) := by
            refine Int.mul_le_mul_of_nonneg_left ?_ (by have := B_pos (li b).length; omega)
            apply Classical.byContradiction
            intro hz
            have hz' : lv (A'.drop (li b).length) = 0 := by omega
            rw [hz'] at e1
            omega
          omega
        have hr : lv A' = ((a : Int) - b * lv qv) * 2 ^ s := by
          rw [Int.sub_mul]
          have : (b : Int) * 2 ^ s * lv qv = b * lv qv * 2 ^ s := by grind
          omega
        have hr0 : 0 ≤ (a : Int) - b * lv qv := by
          apply Classical.byContradiction
          intro hneg
          have : ((a : Int) - b * lv qv) * 2 ^ s < 0 * 2 ^ s := Int.mul_lt_mul_of_pos_right (by omega) h2s
          omega
        have hr1 : (a : Int) - b * lv qv < b := by
          rw [hDv, hr] at hdl
          exact Int.lt_of_mul_lt_mul_right hdl (by omega)
        have hdiv : (a : Int) / b = lv qv := by
          have : (a : Int) = ((a : Int) - b * lv qv) + b * lv qv := by omega
          rw [this, Int.add_mul_ediv_left _ _ (by omega), Int.ediv_eq_zero_of_lt hr0 hr1, Int.zero_add]
        have hmod : (a : Int) % b = (a : Int) - b * lv qv := by
          have := Int.emod_add_mul_ediv (a : Int) b
          rw [hdiv] at this
          omega
        have g1 : (lv qv).toNat = a / b := by rw [← hdiv, ← Int.natCast_ediv, Int.toNat_natCast]
        have g2 : (lv (A'.take (li b).length) / 2 ^ s).toNat = a % b := by
          rw [htk, hr, Int.mul_ediv_cancel _ (by omega), ← hmod, ← Int.natCast_emod, Int.toNat_natCast]
        rw [g1] at hv6
        rw [g2] at hw'
        exact hq v' w' _ (e5.trans e6') hv6 hw'
end
end Am
end Go.Proofs.YtfhlblclcdhbiaaGreatDoor
