/- The law on greater rates. -/
import Derived.Test.YtfhlblclcdhbiaaGreatDoorW5
import Derived.Test.YtfhlblclcdhbiaaGreatDoorP1
namespace Go.Proofs.YtfhlblclcdhbiaaGreatDoor
open Go
set_option linter.unusedVariables false
set_option linter.unusedSimpArgs false
namespace Am
/-! ### a row of one's own, element by element -/
section
variable {C : CT} {h : AH} {K : Fr → AH → Prop} {r : List AI} {tm : List (Nat × TV)} {bx : List (Nat × List Value)} {α : Type} {en : α → List Value} {sz : Nat} {l : List α}
theorem over_flat (hw : ∀ a, (en a).length = sz) (a : α) : ∀ {l : List α} {i : Nat}, i < l.length → over (l.flatMap en) (i * sz) (en a) = some ((l.set i a).flatMap en)
  | [], i, h => by simp at h
  | b :: l, 0, h => by
    simp only [over, Nat.zero_mul, List.flatMap_cons, List.set_cons_zero, List.take_zero, List.nil_append, Nat.zero_add, hw]
    rw [if_pos (by rw [List.length_append, hw]; omega), List.drop_append_of_le_length (by rw [hw]; omega), List.drop_of_length_le (by rw [hw]; omega), List.nil_append]
  | b :: l, i + 1, h => by
    have ih := over_flat hw a (l := l) (i := i) (by simpa using h)
    simp only [over] at ih ⊢
    split at ih
    · rename_i h1
      rw [hw, flat_len hw] at h1
      have e := Option.some.inj ih
      rw [hw] at e
      rw [if_pos (by rw [hw, List.flatMap_cons, List.length_append, hw, flat_len hw, Nat.succ_mul]; omega)]
      congr 1
      rw [List.set_cons_succ, List.flatMap_cons, List.flatMap_cons, ← e, hw, List.take_append, hw, List.take_of_length_le (l := en b) (by rw [hw, Nat.succ_mul]; omega), List.drop_append, hw, List.drop_of_length_le (l := en b) (by rw [hw, Nat.succ_mul]; omega)]
      rw [show (i + 1) * sz - sz = i * sz by rw [Nat.succ_mul]; omega, show (i + 1) * sz + sz - sz = i * sz + sz by rw [Nat.succ_mul]; omega]
      simp
    · cases ih
theorem s_stT {a x : X} {b i off : Nat} {w : Value} (y : α) (ha : vl (⟨tm, bx⟩ : Fr) a = some (.pointer (some ⟨b, off, none⟩))) (hx : vl (⟨tm, bx⟩ : Fr) x = some w) (hw : ∀ a, (en a).length = sz) (hW : isW w = true) (hc : cl w = en y) (hoff : off = i * sz) (hb : h.bar ≤ b) (ho : h.ob[b]? = some (some (sz, l.flatMap en))) (hi : i < l.length)
    (hk : ∀ h', SetO h b (some (sz, (l.set i y).flatMap en)) h' → WI C r K (⟨tm, bx⟩ : Fr) h') : WI C (⟨none, none, .store sz a x⟩ :: r) K (⟨tm, bx⟩ : Fr) h := by
  subst hoff
  have hd : ad (⟨tm, bx⟩ : Fr) a = some (.h b (i * sz)) := by
    simp only [vl] at ha
    simp only [ad]
    split at ha
    · rename_i w hw
      cases ha
      simp [hw]
    · cases ha
  refine s_store hd hx (by rw [hW, hc, hw]; simp) (h' := { h with ob := h.ob.set b (some (sz, (l.set i y).flatMap en)) }) ?_ (hk _ ⟨rfl, rfl⟩)
  simp only [wr, ho, hc]
  rw [if_pos hb, over_flat hw y hi]
theorem row_ts {ob : Ob} {b n : Nat} (hw : ∀ a, (en a).length = sz) (ho : ob[b]? = some (some (sz, l.flatMap en))) (hn : n = l.length) : TS en sz ob l (.slice (some ⟨b, 0, none⟩) n n) := by
  subst hn
  exact ⟨hw, .row (Nat.le_refl _) ho (by rw [flat_len hw]; omega) (by rw [List.drop_zero, List.take_of_length_le (by rw [flat_len hw]; exact Nat.le_refl _)])⟩
theorem reps_flat (a : α) : ∀ n, reps (en a) n = (List.replicate n a).flatMap en
  | 0 => rfl
  | n + 1 => by rw [reps, reps_flat a n, List.replicate_succ, List.flatMap_cons]
/-- filled so far -/
def fillT (z : α) (l : List α) (i : Nat) : List α := l.take i ++ List.replicate (l.length - i) z
theorem fillT_len {z : α} {i : Nat} (hi : i ≤ l.length) : (fillT z l i).length = l.length := by simp [fillT]; omega
theorem fillT_zero {z : α} : fillT z l 0 = List.replicate l.length z := by simp [fillT]
theorem fillT_all {z : α} {i : Nat} (hi : i = l.length) : fillT z l i = l := by subst hi; simp [fillT]
theorem fillT_succ {z a : α} {i : Nat} (ha : l[i]? = some a) : (fillT z l i).set i a = fillT z l (i + 1) := by
  have h1 := (List.getElem?_eq_some_iff.mp ha).1
  unfold fillT
  have h2 : (l.take i).length = i := by simp; omega
  rw [List.set_append_right _ _ (by omega), h2, Nat.sub_self, take_snoc ha, show l.length - i = (l.length - (i + 1)) + 1 by omega, List.replicate_succ, List.set_cons_zero]
  simp
end
/-! ### the plain law -/
theorem fr_div {a b : Int} (ha : 0 ≤ a) (hb : 0 < b) : fr a b = (a : Rat) / (b : Rat) := by
  unfold fr rq
  have : (!(decide (a < 0) == decide (b < 0))) = false := by simp; omega
  rw [this, if_neg (by simp), Rat.mkRat_eq_div]
  have h1 : ((a.natAbs : Nat) : Int) = a := by omega
  have h2 : ((b.natAbs : Nat) : Int) = b := by omega
  rw [h1]
  congr 1
  rw [← Rat.intCast_natCast, h2]
theorem fr_mono {a b c : Int} (ha : 0 ≤ a) (hb : 0 < b) (hac : a ≤ c) : fr a b ≤ fr c b := by
  rw [fr_div ha hb, fr_div (by omega) hb, Rat.div_def, Rat.div_def]
  refine Rat.mul_le_mul_of_nonneg_right (Rat.intCast_le_intCast.mpr hac) ?_
  exact Rat.le_of_lt (Rat.inv_pos.mpr (Rat.intCast_lt_intCast.mpr hb : ((0 : Int) : Rat) < b))
theorem wor_mono {x : Vt} {t r r' : Tri} (ha : 0 ≤ x.am.q) (hr : r.q ≤ r'.q) (hw : wor x t r') : wor x t r := by
  obtain ⟨h1, h2⟩ := hw
  refine ⟨by grind, ?_⟩
  have := Rat.mul_le_mul_of_nonneg_left hr ha
  grind
theorem mem_wlist {zs : List (Vt × Tri)} {r : Tri} {n : Nat} {z : Int} : z ∈ wlist zs r n ↔ ∃ k : Nat, z = k ∧ k < n ∧ worB zs r k = true := by
  unfold wlist
  rw [List.mem_map]
  constructor
  · rintro ⟨k, hk, rfl⟩
    obtain ⟨h1, h2⟩ := List.mem_filter.mp hk
    exact ⟨k, rfl, List.mem_range.mp h1, h2⟩
  · rintro ⟨k, rfl, h1, h2⟩
    exact ⟨k, List.mem_filter.mpr ⟨List.mem_range.mpr h1, h2⟩, rfl⟩
open Classical in
/-- a greater rate makes nobody worse off who was not -/
theorem wres_sub {l : List Vt} {vs : List Tri} {r r' : Tri} (hr : r.q ≤ r'.q) (hi : inR r) : ∀ z ∈ wres l vs r', z ∈ wres l vs r := by
  intro z hz
  unfold wres at hz ⊢
  by_cases hc : chk l vs = 0 ∧ inR r'
  · rw [if_pos hc] at hz
    rw [if_pos ⟨hc.1, hi⟩]
    obtain ⟨k, rfl, h1, h2⟩ := mem_wlist.mp hz
    refine mem_wlist.mpr ⟨k, rfl, h1, ?_⟩
    unfold worB at h2 ⊢
    obtain ⟨x, t, h3, h4⟩ := of_decide_eq_true h2
    exact decide_eq_true ⟨x, t, h3, wor_mono (nn_of hc.1 (x, t) (List.mem_of_getElem? h3)).1 hr h4⟩
  · rw [if_neg hc] at hz
    cases hz
/-- the lesser of claim and value -/
def lesT (p : Vt × Tri) : Tri := triT (if p.2.q < p.1.am.q then p.2.q else p.1.am.q)
theorem zip_les {l : List Vt} {vs : List Tri} {p : Vt × Tri} (hp : p ∈ l.zip ((l.zip vs).map lesT)) : ∃ t, (p.1, t) ∈ l.zip vs ∧ p.2 = lesT (p.1, t) := by
  obtain ⟨k, hk⟩ := List.getElem?_of_mem hp
  obtain ⟨x, z⟩ := p
  rw [List.getElem?_zip_eq_some] at hk
  obtain ⟨h1, h2⟩ := hk
  rw [List.getElem?_map] at h2
  obtain ⟨⟨y, t⟩, h3, h4⟩ := Option.map_eq_some_iff.mp h2
  have h3' := h3
  rw [List.getElem?_zip_eq_some] at h3'
  rw [h3'.1] at h1
  cases h1
  exact ⟨t, List.mem_of_getElem? h3, h4.symm⟩
theorem chk_les {l : List Vt} {vs : List Tri} (h : chk l vs = 0) : chk l ((l.zip vs).map lesT) = 0 := by
  obtain ⟨c1, c2, c3, c4⟩ := chk_len h
  unfold chk
  rw [if_neg (by omega), if_neg (by simp; omega), if_neg]
  rintro (⟨x, hx, hb⟩ | ⟨t, ht, hb⟩)
  · exact c3 x hx hb
  · obtain ⟨p, hp, rfl⟩ := List.mem_map.mp ht
    have hb' := sgn_neg.mp hb
    obtain ⟨h1, h2, h3⟩ := nn_of h p hp
    unfold lesT at hb'
    rw [triT_q] at hb'
    split at hb'
    · exact absurd hb' (Rat.not_lt.mpr h3)
    · exact absurd hb' (Rat.not_lt.mpr h1)
theorem wres_les {l : List Vt} {vs : List Tri} (h : chk l vs = 0) : wres l ((l.zip vs).map lesT) (triT ((1 : Int) : Rat)) = [] := by
  have h2 := chk_les h
  refine List.length_eq_zero_iff.mp ?_
  suffices hh : ¬ 0 < (wres l ((l.zip vs).map lesT) (triT ((1 : Int) : Rat))).length by omega
  unfold wres
  rw [if_pos ⟨h2, inR_one⟩, wlist_pos (by rw [List.length_zip]; have := (chk_len h2).2.1; omega)]
  rintro ⟨p, hp, hw⟩
  obtain ⟨t, _, e⟩ := zip_les hp
  have := hw.2
  rw [e, triT_q, int_one, Rat.mul_one] at this
  unfold lesT at this
  rw [triT_q] at this
  simp only at this
  split at this
  · grind
  · exact Rat.lt_irrefl this
section
variable {B0 : Nat} {Q : Value → AH → Prop} {h : AH}
theorem k15d {l : List Vt} {vs : List Tri} {a : Int} {v w : Value} (ha : 0 ≤ a ∧ a ≤ 12) (hl : l.length ≤ 7) (hl2 : vs.length = l.length) (hv : VS h.ob l v) (hw : RS h.ob vs w) (hle : ∀ x ∈ l, x.Le 24) (hle2 : ∀ x ∈ vs, x.Le 24) (hck : chk l vs = 0)
    (hq : ∀ u h' A, Ext h h' → IS h'.ob A u → A = wres l vs (triT (fr a 12)) → A.length ≤ 64 → Q (.tuple #[u, .int .i64 0]) h') : YC Tryz.prog B0 15 [v, w, er (fr a 12)] Q h := by
  have e8 : (256 : Nat) ^ 8 = 18446744073709551616 := by decide
  have hR : (triT (fr a 12)).Le 24 := Tri.Le.mono (triT_le (bd_fr (by rw [e8]; omega) (by rw [e8]; omega) (by omega))) (by omega)
  refine k15 (r := triT (fr a 12)) (by omega) (by omega) hv hw hle hle2 hR fun u h' e i => ?_
  have hw1 : werr l vs (triT (fr a 12)) = 0 := by unfold werr; rw [if_pos hck, if_pos (inR_fr (by omega) (by omega) (by omega))]
  rw [hw1]
  exact hq u h' _ e i rfl wres_len
theorem k6 {U : List Qd} {W : List Int} {n m : Int} {v0 v1 : Value} (hU : ∀ x ∈ U, x.Ok) (hUl : U.length ≤ 9223372036854775807) (hW : ∀ x ∈ W, 0 ≤ x ∧ x < 65536) (hWl : W.length ≤ 9223372036854775807) (hn : 0 ≤ n ∧ n < 256) (hm : 0 ≤ m ∧ m < 256)
    (g0 : QS h.ob U v0) (g1 : US .u16 h.ob W v1) (hq : ∀ h', Ext h h' → Q (.bool true) h') : YC Tryz.prog B0 6 [v0, v1, .int .u8 n, .int .u8 m] Q h := by
  refine enterF mix Tryz.func6 ok6 rfl (tm := [(0, _), (1, _), (2, _), (3, _)]) (bx := []) rfl rfl fun hp => ?_
  repeat' first | (with_reducible first | exact SetAt.z | apply SetAt.s | apply s_end | exact Kept.nil) | refine qq (hk := ?_) | ((with_reducible first | apply Kept.cons | apply q_blky); rfl) | ((with_reducible apply Kept.skip); rfl) | refine wq (hk := ?_) | (apply c_condP; rfl; exact bpx; all_goals intro hc) | ((first | apply s_gTP | apply s_gFP); rfl; exact bpx; all_goals intro hg) | (apply s_lalloc; rfl) | ((first | apply s_lbox | apply s_lstoreR); rfl; rfl; rfl) | (apply s_lstore; rfl; rfl; rfl; rfl; rfl) | (apply s_callB (hm := YC.m _ _); rfl; intro h3 o3 b3)
  have hck := chk_drawn hU hW
  refine k10 hU hUl g0 fun v4 h1 e1 hv1 => ?_
  have l4 := voters_len U
  have le4 := voters_le hU
  generalize (U.take 7).map voterT = V at hv1 l4 le4 hck
  have g1' := g1.ext e1
  repeat' first | (with_reducible first | exact SetAt.z | apply SetAt.s | apply s_end | exact Kept.nil) | refine qq (hk := ?_) | ((with_reducible first | apply Kept.cons | apply q_blky); rfl) | ((with_reducible apply Kept.skip); rfl) | refine wq (hk := ?_) | (apply c_condP; rfl; exact bpx; all_goals intro hc) | ((first | apply s_gTP | apply s_gFP); rfl; exact bpx; all_goals intro hg) | (apply s_lalloc; rfl) | ((first | apply s_lbox | apply s_lstoreR); rfl; rfl; rfl) | (apply s_lstore; rfl; rfl; rfl; rfl; rfl) | (apply s_callB (hm := YC.m _ _); rfl; intro h3 o3 b3)
  refine k12 hW hWl (N := V.length) (by omega) g1' fun v5 h2 e2 hv5 => ?_
  have hv4 := hv1.ext e2
  have l5 := vals_len W V.length
  have le5 := le_vals (N := V.length) hW
  generalize valsT W V.length = Y at hv5 l5 le5 hck
  have e8 : (256 : Nat) ^ 8 = 18446744073709551616 := by decide
  repeat' first | (with_reducible first | exact SetAt.z | apply SetAt.s | apply s_end | exact Kept.nil) | refine qq (hk := ?_) | ((with_reducible first | apply Kept.cons | apply q_blky); rfl) | ((with_reducible apply Kept.skip); rfl) | (apply s_q; rfl; (first | ((with_reducible apply q_remB); rfl; rfl; omega; omega))) | refine wq (hk := ?_) | (apply c_condP; rfl; exact bpx; all_goals intro hc) | ((first | apply s_gTP | apply s_gFP); rfl; exact bpx; all_goals intro hg) | (apply s_lalloc; rfl) | ((first | apply s_lbox | apply s_lstoreR); rfl; rfl; rfl) | (apply s_lstore; rfl; rfl; rfl; rfl; rfl) | (apply s_callB (hm := YC.m _ _); rfl; intro h3 o3 b3)
  all_goals
    refine k16 (a := n % 13) (b := 12) (by omega) (by omega) (by omega) fun h3 e3 => ?_
    have hv4 := hv4.ext e3
    have hv5 := hv5.ext e3
    repeat' first | (with_reducible first | exact SetAt.z | apply SetAt.s | apply s_end | exact Kept.nil) | refine qq (hk := ?_) | ((with_reducible first | apply Kept.cons | apply q_blky); rfl) | ((with_reducible apply Kept.skip); rfl) | refine wq (hk := ?_) | (apply c_condP; rfl; exact bpx; all_goals intro hc) | ((first | apply s_gTP | apply s_gFP); rfl; exact bpx; all_goals intro hg) | (apply s_lalloc; rfl) | ((first | apply s_lbox | apply s_lstoreR); rfl; rfl; rfl) | (apply s_lstore; rfl; rfl; rfl; rfl; rfl) | (apply s_callB (hm := YC.m _ _); rfl; intro h3 o3 b3)
    refine k15d (by omega) (by omega) l5 hv4 hv5 le4 le5 hck fun q2 h4 A e4 i2 hA hAl => ?_
    have hv4 := hv4.ext e4
    have hv5 := hv5.ext e4
    repeat' first | (with_reducible first | exact SetAt.z | apply SetAt.s | apply s_end | exact Kept.nil) | refine qq (hk := ?_) | ((with_reducible first | apply Kept.cons | apply q_blky); rfl) | ((with_reducible apply Kept.skip); rfl) | refine wq (hk := ?_) | (apply c_condP; rfl; exact bpx; all_goals intro hc) | ((first | apply s_gTP | apply s_gFP); rfl; exact bpx; all_goals intro hg) | (apply s_lalloc; rfl) | ((first | apply s_lbox | apply s_lstoreR); rfl; rfl; rfl) | (apply s_lstore; rfl; rfl; rfl; rfl; rfl) | (apply s_callB (hm := YC.m _ _); rfl; intro h3 o3 b3)
    refine k16 (a := _) (b := 12) (by omega) (by omega) (by omega) fun h5 e5 => ?_
    have hv4 := hv4.ext e5
    have hv5 := hv5.ext e5
    have i2 := i2.ext e5
    repeat' first | (with_reducible first | exact SetAt.z | apply SetAt.s | apply s_end | exact Kept.nil) | refine qq (hk := ?_) | ((with_reducible first | apply Kept.cons | apply q_blky); rfl) | ((with_reducible apply Kept.skip); rfl) | refine wq (hk := ?_) | (apply c_condP; rfl; exact bpx; all_goals intro hc) | ((first | apply s_gTP | apply s_gFP); rfl; exact bpx; all_goals intro hg) | (apply s_lalloc; rfl) | ((first | apply s_lbox | apply s_lstoreR); rfl; rfl; rfl) | (apply s_lstore; rfl; rfl; rfl; rfl; rfl) | (apply s_callB (hm := YC.m _ _); rfl; intro h3 o3 b3)
    refine k15d (by omega) (by omega) l5 hv4 hv5 le4 le5 hck fun q3 h6 B e6 i3 hB hBl => ?_
    have hv4 := hv4.ext e6
    have hv5 := hv5.ext e6
    have i2 := i2.ext e6
    have hsub : ∀ z ∈ B, z ∈ A := by
      rw [hA, hB]
      exact wres_sub (by rw [triT_q, triT_q]; exact fr_mono (by omega) (by omega) (by omega)) (inR_fr (by omega) (by omega) (by omega))
    clear hA hB
    repeat' first | (with_reducible first | exact SetAt.z | apply SetAt.s | apply s_end | exact Kept.nil) | refine qq (hk := ?_) | ((with_reducible first | apply Kept.cons | apply q_blky); rfl) | ((with_reducible apply Kept.skip); rfl) | refine wq (hk := ?_) | (apply c_condP; rfl; exact bpx; all_goals intro hc) | ((first | apply s_gTP | apply s_gFP); rfl; exact bpx; all_goals intro hg) | (apply s_lalloc; rfl) | ((first | apply s_lbox | apply s_lstoreR); rfl; rfl; rfl) | (apply s_lstore; rfl; rfl; rfl; rfl; rfl) | (apply s_callB (hm := YC.m _ _); rfl; intro h3 o3 b3)
    refine loopI (YC.m _ _) (fun k fr h' => ∃ (i : Nat), k = B.length - i ∧ Ext h6 h' ∧ i ≤ B.length ∧ fr = ⟨[(9, .v v4), (10, .v v5), (13, .v q2), (15, .v q3), (17, .v (.int .i64 i))], []⟩) B.length
      ⟨0, by omega, Ext.refl h6, by omega, rfl⟩ ?_
    rintro k fr h' ⟨i, rfl, e7, hi, rfl⟩
    have i2' := i2.ext e7
    have i3' := i3.ext e7
    by_cases hlt : i < B.length
    · obtain ⟨z, hz⟩ := get_lt hlt
      have hzg : B.getD i 0 = z := by rw [List.getD_eq_getElem?_getD, hz]; rfl
      have hzA := hsub z (List.mem_of_getElem? hz)
      repeat' first | (with_reducible first | exact SetAt.z | apply SetAt.s | apply s_end | exact Kept.nil) | refine qq (hk := ?_) | ((with_reducible first | apply Kept.cons | apply q_blky); rfl) | ((with_reducible apply Kept.skip); rfl) | refine wq (hk := ?_) | (apply c_condP; rfl; exact bpx; all_goals intro hc) | ((first | apply s_gTP | apply s_gFP); rfl; exact bpx; all_goals intro hg) | (apply s_lalloc; rfl) | ((first | apply s_lbox | apply s_lstoreR); rfl; rfl; rfl) | (apply s_lstore; rfl; rfl; rfl; rfl; rfl) | (apply s_callB (hm := YC.m _ _); rfl; intro h3 o3 b3)
      refine loopI (YC.m _ _) (fun k fr h'' => ∃ (j : Nat) (met : Bool), k = A.length - j ∧ Ext h' h'' ∧ j ≤ A.length ∧ (met = true ↔ ∃ k', k' < j ∧ A[k']? = some z) ∧ fr = ⟨[(9, .v v4), (10, .v v5), (13, .v q2), (15, .v q3), (17, .v (.int .i64 i)), (18, .v (.bool met)), (19, .v (.int .i64 j))], []⟩) A.length
        ⟨0, false, by omega, Ext.refl h', by omega, by simp, rfl⟩ ?_
      rintro k fr h'' ⟨j, met, rfl, e8', hj, hmet, rfl⟩
      have i2'' := i2'.ext e8'
      have i3'' := i3'.ext e8'
      by_cases hlt2 : j < A.length
      · obtain ⟨y, hy⟩ := get_lt hlt2
        have hyg : A.getD j 0 = y := by rw [List.getD_eq_getElem?_getD, hy]; rfl
        cases met with
        | true =>
          repeat' first | (with_reducible first | exact SetAt.z | apply SetAt.s | apply s_end | exact Kept.nil) | refine qq (hk := ?_) | ((with_reducible first | apply Kept.cons | apply q_blky); rfl) | ((with_reducible apply Kept.skip); rfl) | refine wq (hk := ?_) | (apply c_condP; rfl; exact bpx; all_goals intro hc) | ((first | apply s_gTP | apply s_gFP); rfl; exact bpx; all_goals intro hg) | (apply s_lalloc; rfl) | ((first | apply s_lbox | apply s_lstoreR); rfl; rfl; rfl) | (apply s_lstore; rfl; rfl; rfl; rfl; rfl) | (apply s_callB (hm := YC.m _ _); rfl; intro h3 o3 b3)
          · refine q_seql (m := A.length - (j + 1)) (by omega) ⟨j + 1, true, rfl, exty, by omega, ?_, rfl⟩
            obtain ⟨k', h1', h2'⟩ := hmet.mp rfl
            simp only [true_iff]
            exact ⟨k', by omega, h2'⟩
        | false =>
          repeat' first | (with_reducible first | exact SetAt.z | apply SetAt.s | apply s_end | exact Kept.nil) | refine qq (hk := ?_) | ((with_reducible first | apply Kept.cons | apply q_blky); rfl) | ((with_reducible apply Kept.skip); rfl) | (apply s_q; rfl; (first | ((with_reducible apply q_iaTN); rfl; rfl; (with_reducible rfl); assumption; omega) | ((with_reducible apply q_ldE); rfl; assumption; omega; assumption))) | refine wq (hk := ?_) | (apply c_condP; rfl; exact bpx; all_goals intro hc) | ((first | apply s_gTP | apply s_gFP); rfl; exact bpx; all_goals intro hg) | (apply s_lalloc; rfl) | ((first | apply s_lbox | apply s_lstoreR); rfl; rfl; rfl) | (apply s_lstore; rfl; rfl; rfl; rfl; rfl) | (apply s_callB (hm := YC.m _ _); rfl; intro h3 o3 b3)
          refine q_seql (m := A.length - (j + 1)) (by omega) ⟨j + 1, _, rfl, exty, by omega, ?_, rfl⟩
          rw [beq_iff_eq, Nat.mul_one, Nat.mul_one, hyg, hzg]
          constructor
          · intro hh
            exact ⟨j, by omega, by rw [hy, hh]⟩
          · rintro ⟨k', h1', h2'⟩
            by_cases hk : k' = j
            · subst hk
              rw [hy] at h2'
              exact Option.some.inj h2'
            · have := hmet.mpr ⟨k', by omega, h2'⟩
              cases this
      · have hj3 : j = A.length := by omega
        have hm : met = true := by
          rw [hmet]
          obtain ⟨k', hk'⟩ := List.getElem?_of_mem hzA
          exact ⟨k', by have := (List.getElem?_eq_some_iff.mp hk').1; omega, hk'⟩
        subst hm
        repeat' first | (with_reducible first | exact SetAt.z | apply SetAt.s | apply s_end | exact Kept.nil) | refine qq (hk := ?_) | ((with_reducible first | apply Kept.cons | apply q_blky); rfl) | ((with_reducible apply Kept.skip); rfl) | refine wq (hk := ?_) | (apply c_condP; rfl; exact bpx; all_goals intro hc) | ((first | apply s_gTP | apply s_gFP); rfl; exact bpx; all_goals intro hg) | (apply s_lalloc; rfl) | ((first | apply s_lbox | apply s_lstoreR); rfl; rfl; rfl) | (apply s_lstore; rfl; rfl; rfl; rfl; rfl) | (apply s_callB (hm := YC.m _ _); rfl; intro h3 o3 b3)
        · exact absurd hc (by simp)
        refine q_seql (m := B.length - (i + 1)) (by omega) ⟨i + 1, rfl, exty, by omega, rfl⟩
    · repeat' first | (with_reducible first | exact SetAt.z | apply SetAt.s | apply s_end | exact Kept.nil) | refine qq (hk := ?_) | ((with_reducible first | apply Kept.cons | apply q_blky); rfl) | ((with_reducible apply Kept.skip); rfl) | refine wq (hk := ?_) | (apply c_condP; rfl; exact bpx; all_goals intro hc) | ((first | apply s_gTP | apply s_gFP); rfl; exact bpx; all_goals intro hg) | (apply s_lalloc; rfl) | ((first | apply s_lbox | apply s_lstoreR); rfl; rfl; rfl) | (apply s_lstore; rfl; rfl; rfl; rfl; rfl) | (apply s_callB (hm := YC.m _ _); rfl; intro h3 o3 b3)
      refine s_mk rfl rfl (by omega) fun h8 n8 => ?_
      have hZ : ((V.zip Y).map lesT).length = V.length := by simp; omega
      have hZp := chk_les hck
      have hZ0 := wres_les hck
      have hZe : werr V ((V.zip Y).map lesT) (triT ((1 : Int) : Rat)) = 0 := by unfold werr; rw [if_pos hZp, if_pos inR_one]
      have hZi : ∀ (i : Nat) x t, V[i]? = some x → Y[i]? = some t → ((V.zip Y).map lesT)[i]? = some (lesT (x, t)) := by
        intro i x t h1 h2
        rw [List.getElem?_map, show (V.zip Y)[i]? = some (x, t) by rw [List.getElem?_zip_eq_some]; exact ⟨h1, h2⟩]
        rfl
      have hZl : ∀ t ∈ (V.zip Y).map lesT, t.Le 24 := by
        intro t ht
        obtain ⟨p, hp, rfl⟩ := List.mem_map.mp ht
        unfold lesT
        refine triT_le ?_
        split
        · exact (le5 p.2 (List.of_mem_zip hp).2).bd (by omega)
        · exact (le4 p.1 (List.of_mem_zip hp).1).1.bd (by omega)
      generalize (V.zip Y).map lesT = Z at hZ hZp hZ0 hZe hZi hZl
      have hv4 := hv4.ext e7
      have hv5 := hv5.ext e7
      have r8 : h8.ob[h'.ob.length]? = some (some (3, (fillT zeroT Z 0).flatMap Tri.cs)) := by
        rw [n8.at, fillT_zero, hZ, ← reps_flat]; rfl
      have f7 : Ext h h' := e1.trans (e2.trans (e3.trans (e4.trans (e5.trans (e6.trans e7)))))
      have hb7 : h'.bar ≤ h'.ob.length := f7.pre hp
      repeat' first | (with_reducible first | exact SetAt.z | apply SetAt.s | apply s_end | exact Kept.nil) | refine qq (hk := ?_) | ((with_reducible first | apply Kept.cons | apply q_blky); rfl) | ((with_reducible apply Kept.skip); rfl) | refine wq (hk := ?_) | (apply c_condP; rfl; exact bpx; all_goals intro hc) | ((first | apply s_gTP | apply s_gFP); rfl; exact bpx; all_goals intro hg) | (apply s_lalloc; rfl) | ((first | apply s_lbox | apply s_lstoreR); rfl; rfl; rfl) | (apply s_lstore; rfl; rfl; rfl; rfl; rfl) | (apply s_callB (hm := YC.m _ _); rfl; intro h3 o3 b3)
      refine loopI (YC.m _ _) (fun k fr h'' => ∃ (i : Nat), k = V.length - i ∧ Ext h' h'' ∧ h''.ob[h'.ob.length]? = some (some (3, (fillT zeroT Z i).flatMap Tri.cs)) ∧ i ≤ V.length ∧ fr = ⟨[(9, .v v4), (10, .v v5), (20, .v (.slice (some ⟨h'.ob.length, 0, none⟩) V.length V.length)), (94, .v (.int .i64 V.length)), (95, .v (.int .i64 i))], []⟩) V.length
        ⟨0, by omega, n8.ext, r8, by omega, rfl⟩ ?_
      rintro k fr h'' ⟨i, rfl, e9, r9, hi9, rfl⟩
      have hv4 := hv4.ext e9
      have hv5 := hv5.ext e9
      by_cases hlt9 : i < V.length
      · obtain ⟨x, hx⟩ := get_lt hlt9
        obtain ⟨t, ht⟩ := get_lt (l := Y) (i := i) (by omega)
        repeat' first | (with_reducible first | exact SetAt.z | apply SetAt.s | apply s_end | exact Kept.nil) | refine qq (hk := ?_) | ((with_reducible first | apply Kept.cons | apply q_blky); rfl) | ((with_reducible apply Kept.skip); rfl) | (apply s_q; rfl; (first | ((with_reducible apply q_iaTN); rfl; rfl; (with_reducible rfl); assumption; omega) | ((with_reducible apply q_ldAm); rfl; assumption; assumption) | ((with_reducible apply q_ldTri); rfl; assumption; assumption))) | refine wq (hk := ?_) | (apply c_condP; rfl; exact bpx; all_goals intro hc) | ((first | apply s_gTP | apply s_gFP); rfl; exact bpx; all_goals intro hg) | (apply s_lalloc; rfl) | ((first | apply s_lbox | apply s_lstoreR); rfl; rfl; rfl) | (apply s_lstore; rfl; rfl; rfl; rfl; rfl) | (apply s_callB (hm := YC.m _ _); rfl; intro h3 o3 b3)
        refine k21 (s := x.am) (t := t) (K := 24) (by omega) (by omega) (le4 x (List.mem_of_getElem? hx)).1 (le5 t (List.mem_of_getElem? ht)) fun h10 e10 => ?_
        intro h11 o11 b11
        have f11 := Ext.br o3 e10 o11 b11
        have r11 := f11.row r9
        have z11 : RS h11.ob (fillT zeroT Z i) (.slice (some ⟨h'.ob.length, 0, none⟩) V.length V.length) := row_ts Tri.wd r11 (by rw [fillT_len (by omega), hZ])
        repeat' first | (with_reducible first | exact SetAt.z | apply SetAt.s | apply s_end | exact Kept.nil) | refine qq (hk := ?_) | ((with_reducible first | apply Kept.cons | apply q_blky); rfl) | ((with_reducible apply Kept.skip); rfl) | (apply s_q; rfl; (first | ((with_reducible apply q_iaTN); rfl; rfl; (with_reducible rfl); exact z11; rw [fillT_len (by omega)]; omega))) | refine wq (hk := ?_) | (apply c_condP; rfl; exact bpx; all_goals intro hc) | ((first | apply s_gTP | apply s_gFP); rfl; exact bpx; all_goals intro hg) | (apply s_lalloc; rfl) | ((first | apply s_lbox | apply s_lstoreR); rfl; rfl; rfl) | (apply s_lstore; rfl; rfl; rfl; rfl; rfl) | (apply s_callB (hm := YC.m _ _); rfl; intro h3 o3 b3)
        refine s_stT (i := i) (lesT (x, t)) rfl rfl Tri.wd rfl rfl (by simp) (by have := e9.bar; have := f11.bar; omega) r11 (by rw [fillT_len (by omega)]; omega) fun h12 n12 => ?_
        repeat' first | (with_reducible first | exact SetAt.z | apply SetAt.s | apply s_end | exact Kept.nil) | refine qq (hk := ?_) | ((with_reducible first | apply Kept.cons | apply q_blky); rfl) | ((with_reducible apply Kept.skip); rfl) | refine wq (hk := ?_) | (apply c_condP; rfl; exact bpx; all_goals intro hc) | ((first | apply s_gTP | apply s_gFP); rfl; exact bpx; all_goals intro hg) | (apply s_lalloc; rfl) | ((first | apply s_lbox | apply s_lstoreR); rfl; rfl; rfl) | (apply s_lstore; rfl; rfl; rfl; rfl; rfl) | (apply s_callB (hm := YC.m _ _); rfl; intro h3 o3 b3)
        refine q_seql (m := V.length - (i + 1)) (by omega) ⟨i + 1, rfl, n12.ext (e9.trans f11) (Nat.le_refl _), ?_, by omega, rfl⟩
        rw [n12.at r11, fillT_succ (hZi i x t hx ht)]
      · have hi9' : i = V.length := by omega
        subst hi9'
        rw [fillT_all hZ.symm] at r9
        have z9 : RS h''.ob Z (.slice (some ⟨h'.ob.length, 0, none⟩) V.length V.length) := row_ts Tri.wd r9 hZ.symm
        repeat' first | (with_reducible first | exact SetAt.z | apply SetAt.s | apply s_end | exact Kept.nil) | refine qq (hk := ?_) | ((with_reducible first | apply Kept.cons | apply q_blky); rfl) | ((with_reducible apply Kept.skip); rfl) | refine wq (hk := ?_) | (apply c_condP; rfl; exact bpx; all_goals intro hc) | ((first | apply s_gTP | apply s_gFP); rfl; exact bpx; all_goals intro hg) | (apply s_lalloc; rfl) | ((first | apply s_lbox | apply s_lstoreR); rfl; rfl; rfl) | (apply s_lstore; rfl; rfl; rfl; rfl; rfl) | (apply s_callB (hm := YC.m _ _); rfl; intro h3 o3 b3)
        refine k19 (n := 1) (by omega) fun h10 e10 => ?_
        have hv4 := hv4.ext e10
        have z10 := z9.ext e10
        repeat' first | (with_reducible first | exact SetAt.z | apply SetAt.s | apply s_end | exact Kept.nil) | refine qq (hk := ?_) | ((with_reducible first | apply Kept.cons | apply q_blky); rfl) | ((with_reducible apply Kept.skip); rfl) | refine wq (hk := ?_) | (apply c_condP; rfl; exact bpx; all_goals intro hc) | ((first | apply s_gTP | apply s_gFP); rfl; exact bpx; all_goals intro hg) | (apply s_lalloc; rfl) | ((first | apply s_lbox | apply s_lstoreR); rfl; rfl; rfl) | (apply s_lstore; rfl; rfl; rfl; rfl; rfl) | (apply s_callB (hm := YC.m _ _); rfl; intro h3 o3 b3)
        refine k15 (r := triT ((1 : Int) : Rat)) (by omega) (by omega) hv4 z10 le4 hZl (le1 (by omega)) fun q4 h11 e11 i4 => ?_
        rw [hZ0] at i4
        rw [hZe]
        repeat' first | (with_reducible first | exact SetAt.z | apply SetAt.s | apply s_end | exact Kept.nil) | refine qq (hk := ?_) | ((with_reducible first | apply Kept.cons | apply q_blky); rfl) | ((with_reducible apply Kept.skip); rfl) | refine wq (hk := ?_) | (apply c_condP; rfl; exact bpx; all_goals intro hc) | ((first | apply s_gTP | apply s_gFP); rfl; exact bpx; all_goals intro hg) | (apply s_lalloc; rfl) | ((first | apply s_lbox | apply s_lstoreR); rfl; rfl; rfl) | (apply s_lstore; rfl; rfl; rfl; rfl; rfl) | (apply s_callB (hm := YC.m _ _); rfl; intro h3 o3 b3)
        refine k9 fun h12 e12 => ?_
        have i4 := i4.ext e12
        repeat' first | (with_reducible first | exact SetAt.z | apply SetAt.s | apply s_end | exact Kept.nil) | refine qq (hk := ?_) | ((with_reducible first | apply Kept.cons | apply q_blky); rfl) | ((with_reducible apply Kept.skip); rfl) | refine wq (hk := ?_) | (apply c_condP; rfl; exact bpx; all_goals intro hc) | ((first | apply s_gTP | apply s_gFP); rfl; exact bpx; all_goals intro hg) | (apply s_lalloc; rfl) | ((first | apply s_lbox | apply s_lstoreR); rfl; rfl; rfl) | (apply s_lstore; rfl; rfl; rfl; rfl; rfl) | (apply s_callB (hm := YC.m _ _); rfl; intro h3 o3 b3)
        exact hq _ (f7.trans (e9.trans (e10.trans (e11.trans e12))))
end
end Am
end Go.Proofs.YtfhlblclcdhbiaaGreatDoor
