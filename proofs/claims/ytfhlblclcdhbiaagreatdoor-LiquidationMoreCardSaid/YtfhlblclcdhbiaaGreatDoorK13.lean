/- The program's rational numbers. -/
import Derived.Test.YtfhlblclcdhbiaaGreatDoorK8
import Derived.Test.YtfhlblclcdhbiaaGreatDoorRules
namespace Go.Proofs.YtfhlblclcdhbiaaGreatDoor
open Go
set_option linter.unusedVariables false
set_option linter.unusedSimpArgs false
namespace Am
section
variable {B0 : Nat} {Q : Value → AH → Prop} {h : AH}
section
variable {C : CT} {fr : Fr} {K : Fr → AH → Prop} {r : List AI} {tm : List (Nat × TV)} {bx : List (Nat × List Value)}
theorem s_lstoreR {k g : Nat} {a x : X} {n : Bool} {s t : ByteArray} {c1 c2 c3 : Value} {bx' : List (Nat × List Value)} (ha : ad (⟨tm, bx⟩ : Fr) a = some (.l k g 0)) (hv : vl (⟨tm, bx⟩ : Fr) x = some (rat n s t)) (hb : bx[k]? = some (g, [c1, c2, c3]))
    (hs : SetAt bx k (g, [.bool n, .string s, .string t]) bx') (hk : WI C r K ⟨tm, bx'⟩ h) : WI C (⟨none, none, .lstore 3 a x⟩ :: r) K (⟨tm, bx⟩ : Fr) h :=
  s_lstore ha hv rfl hb rfl hs hk
theorem q_lloadR {k g : Nat} {a : X} {n : Bool} {s t : ByteArray} (ha : ad (⟨tm, bx⟩ : Fr) a = some (.l k g 0)) (hb : bx[k]? = some (g, [.bool n, .string s, .string t])) : qO (.lload 3 true a) (⟨tm, bx⟩ : Fr) h = some (.v (rat n s t)) := by
  simp [qO, ha, hb, sub, ag, rat]
theorem q_bldR {x y z : X} {n : Bool} {s t : ByteArray} (hx : vl fr x = some (.bool n)) (hy : vl fr y = some (.string s)) (hz : vl fr z = some (.string t)) :
    qO (.bld [.bool false, .string ⟨#[]⟩, .string ⟨#[]⟩] [(0, (1, x)), (1, (1, y)), (2, (1, z))]) fr h = some (.v (rat n s t)) := by
  simp [qO, partsV, hx, hy, hz, isW, cl, fillC, over, rat]
theorem q_bld2 {x y : X} {n : Bool} {s : ByteArray} (hx : vl fr x = some (.bool n)) (hy : vl fr y = some (.string s)) :
    qO (.bld [.bool false, .string ⟨#[]⟩, .string ⟨#[]⟩] [(0, (1, x)), (1, (1, y))]) fr h = some (.v (rat n s ⟨#[]⟩)) := by
  simp [qO, partsV, hx, hy, isW, cl, fillC, over, rat]
theorem q_bld1 {y : X} {s : ByteArray} (hy : vl fr y = some (.string s)) :
    qO (.bld [.bool false, .string ⟨#[]⟩, .string ⟨#[]⟩] [(1, (1, y))]) fr h = some (.v (rat false s ⟨#[]⟩)) := by
  simp [qO, partsV, hy, isW, cl, fillC, over, rat]
theorem q_bld0 : qO (.bld [.bool false, .string ⟨#[]⟩, .string ⟨#[]⟩] []) fr h = some (.v (rat false ⟨#[]⟩ ⟨#[]⟩)) := by
  simp [qO, partsV, fillC, rat]
theorem e_retR {np nb k g m : Nat} {c : AC} {n : Bool} {s t : ByteArray} {Q : Value → AH → Prop} (ha : ad (⟨tm, bx⟩ : Fr) (.t m) = some (.l k g 0)) (hb : bx[k]? = some (g, [.bool n, .string s, .string t])) (hk : Q (rat n s t) h) : endQ ⟨np, nb, c, [.c (.t m) 3 true]⟩ Q .ret ⟨tm, bx⟩ h := by
  simp [endQ, resV, ha, ldA, hb, sub, ag, one]
  exact hk
theorem e_retR2 {np nb k g m p : Nat} {c : AC} {n : Bool} {s t : ByteArray} {v : Value} {Q : Value → AH → Prop} (ha : ad (⟨tm, bx⟩ : Fr) (.t m) = some (.l k g 0)) (hb : bx[k]? = some (g, [.bool n, .string s, .string t])) (hv : vl (⟨tm, bx⟩ : Fr) (.t p) = some v) (hw : isW v = true) (hk : Q (.tuple #[rat n s t, v]) h) : endQ ⟨np, nb, c, [.c (.t m) 3 true, .t p]⟩ Q .ret ⟨tm, bx⟩ h := by
  simp [endQ, resV, ha, ldA, hb, sub, ag, one, hv, hw]
  exact hk
end
theorem wq {p q : Prop} (f : Bx q → p := by intro hk; first | (apply s_pT; rfl; exact bpx; exact hhx; rfl; rfl; exact hk.out) | (apply s_pF; rfl; exact bpx; exact hhx; rfl; rfl; exact hk.out) | (apply s_q; rfl; (first | ((with_reducible apply q_lloadR); rfl; rfl) | ((with_reducible first | apply q_bldR | apply q_bld2 | apply q_bld1 | apply q_bld0) <;> rfl) | exact qx); exact hk.out) | ((first | apply s_call (hm := YC.m _ _) | apply s_gU); rfl; exact hk.out) | ((first | apply c_condT | apply s_gTy | apply s_gFy); rfl; exact bpx; exact hhx; exact hk.out) | ((first | apply c_condF | apply s_gTn | apply s_gFn); rfl; exact bpx; exact hhx; exact hk.out) | (apply e_retR; rfl; rfl; exact hk.out) | (apply e_retR2; rfl; rfl; rfl; exact iswx; exact hk.out) | ((with_reducible apply e_ret); rfl; exact hk.out) | (apply e_ret1; rfl; exact iswx; exact hk.out) | (apply e_ret2; rfl; rfl; exact iswx; exact iswx; exact hk.out)) (hk : q) : p := f ⟨hk⟩
theorem Ext.brr {h h3 h1 h2 : AH} (o2 : h2.ob = h1.ob) (e1 : Ext h3 h1) (o3 : h3.ob = h.ob) (b2 : h2.bar = h.bar) : Ext h h2 := Ext.br o3 e1 o2 b2
theorem Ext.br0 {h h3 h2 : AH} (o2 : h2.ob = h3.ob) (o3 : h3.ob = h.ob) (b2 : h2.bar = h.bar) : Ext h h2 := Ext.br o3 (Ext.refl h3) o2 b2
theorem exty {h h' : AH} (e : Ext h h' := by repeat' first | exact Ext.refl _ | assumption | refine Ext.trans ?_ (by assumption) | refine Ext.trans ?_ (Ext.brr (by assumption) (by assumption) (by assumption) (by assumption)) | refine Ext.trans ?_ (Ext.br0 (by assumption) (by assumption) (by assumption))) : Ext h h' := e
/-- a number's cells -/
def er (q : Rat) : Value := rat (decide (q.num < 0)) (bs (sb q.num.natAbs)) (bs (strD q.den))
theorem er_of {neg : Bool} {a b : List UInt8} (h : okQ neg a b) : rat neg (bs a) (bs b) = er (dec neg a b) := by
  obtain ⟨h1, h2, h3⟩ := er_dec h
  rw [er, h1, h2, h3]
theorem er_zero : er 0 = rat false (bs []) (bs []) := by
  have h : okQ false [] [] := by
    refine ⟨sb_zero, sb_zero, ?_⟩
    simp
  rw [er_of h]
  unfold dec
  rw [if_pos h, show bv [] = 0 from rfl, rq_zero]
theorem BP.de {t : Bool} {p q : Prop} {d : Decidable q} (hp : BP t p) (h : q ↔ p) : @decide q d = t := by
  cases t with
  | true => exact decide_eq_true (h.mpr (hp.iff.mp rfl))
  | false => exact decide_eq_false fun e => by have := hp.iff.mpr (h.mp e); cases this
theorem sb_eq_one {n : Nat} : sb n = [1] ↔ n = 1 := ⟨fun h => sb_inj (h.trans sb_one.symm), fun h => by rw [h, sb_one]⟩
theorem k95 {neg : Bool} {a b : List UInt8} (ha : a.length ≤ 68719476736) (hb : b.length ≤ 68719476736) (hq : ∀ h', Ext h h' → Q (.bool (decide (okQ neg a b))) h') : YC Tryz.prog B0 95 [rat neg (bs a) (bs b)] Q h := by
  refine enterF mix Tryz.func95 ok95 rfl (tm := [(0, _)]) (bx := [_]) rfl rfl fun hp => ?_
  repeat' first | (with_reducible first | exact SetAt.z | apply SetAt.s | apply s_end | exact Kept.nil) | refine qq (hk := ?_) | ((with_reducible first | apply Kept.cons | apply q_blky); rfl) | ((with_reducible apply Kept.skip); rfl) | refine wq (hk := ?_) | (apply c_condP; rfl; exact bpx; all_goals intro hc) | ((first | apply s_gTP | apply s_gFP); rfl; exact bpx; all_goals intro hg) | (apply s_lalloc; rfl) | ((first | apply s_lbox | apply s_lstoreR); rfl; rfl; rfl) | (apply s_lstore; rfl; rfl; rfl; rfl; rfl) | (apply s_callB (hm := YC.m _ _); rfl; intro h3 o3 b3) | ((with_reducible refine YCi (f := 97) ?_); (refine k97 ?_; try intro h2 o2 b2)) | ((with_reducible refine YCi (f := 98) ?_); (refine k98 (by omega) (by omega) fun h1 e1 => ?_))
  all_goals refine cast (congrArg (fun b => Q (.bool b) _) ?_) (hq _ exty)
  all_goals refine BP.de (by exact bpx) ?_
  all_goals (unfold okQ; simp_all [sb_eq_one])
theorem k65 {neg : Bool} {a b : List UInt8} (ha : a.length ≤ 68719476736) (hb : b.length ≤ 68719476736) (hq : ∀ h', Ext h h' → Q (er (dec neg a b)) h') : YC Tryz.prog B0 65 [rat neg (bs a) (bs b)] Q h := by
  refine enterF mix Tryz.func65 ok65 rfl (tm := [(0, _)]) (bx := [_, _]) rfl rfl fun hp => ?_
  repeat' first | (with_reducible first | exact SetAt.z | apply SetAt.s | apply s_end | exact Kept.nil) | refine qq (hk := ?_) | ((with_reducible first | apply Kept.cons | apply q_blky); rfl) | ((with_reducible apply Kept.skip); rfl) | refine wq (hk := ?_) | (apply c_condP; rfl; exact bpx; all_goals intro hc) | ((first | apply s_gTP | apply s_gFP); rfl; exact bpx; all_goals intro hg) | (apply s_lalloc; rfl) | ((first | apply s_lbox | apply s_lstoreR); rfl; rfl; rfl) | (apply s_lstore; rfl; rfl; rfl; rfl; rfl) | (apply s_callB (hm := YC.m _ _); rfl; intro h3 o3 b3) | ((with_reducible refine YCi (f := 95) ?_); (refine k95 ha hb fun h1 e1 => ?_))
  · have hn : ¬ okQ neg a b := by simpa using hc
    refine cast (congrArg (fun v => Q v _) ?_) (hq _ exty)
    rw [dec, if_neg hn, er_zero]
    rfl
  · have hy : okQ neg a b := by simpa using hc
    refine cast (congrArg (fun v => Q v _) ?_) (hq _ exty)
    rw [← er_of hy]
def sgn (q : Rat) : Int := if q.num = 0 then 0 else if q.num < 0 then -1 else 1
theorem k91 {q : Rat} (hq : Q (.int .i64 (sgn q)) h) : YC Tryz.prog B0 91 [er q] Q h := by
  refine enterF mix Tryz.func91 ok91 rfl (tm := [(0, _)]) (bx := [_]) rfl rfl fun hp => ?_
  unfold sgn at hq
  repeat' first | (with_reducible first | exact SetAt.z | apply SetAt.s | apply s_end | exact Kept.nil) | refine qq (hk := ?_) | ((with_reducible first | apply Kept.cons | apply q_blky); rfl) | ((with_reducible apply Kept.skip); rfl) | refine wq (hk := ?_) | (apply c_condP; rfl; exact bpx; all_goals intro hc) | ((first | apply s_gTP | apply s_gFP); rfl; exact bpx; all_goals intro hg) | (apply s_lalloc; rfl) | ((first | apply s_lbox | apply s_lstoreR); rfl; rfl; rfl) | (apply s_lstore; rfl; rfl; rfl; rfl; rfl) | (apply s_callB (hm := YC.m _ _); rfl; intro h3 o3 b3)
  · have h0 : q.num = 0 := by rw [sb_nil] at hc; omega
    rw [if_pos h0] at hq
    exact hq
  · rename_i h1
    have h0 : ¬ q.num = 0 := by rw [sb_nil] at h1; omega
    have h2 : q.num < 0 := by simpa using hc
    rw [if_neg h0, if_pos h2] at hq
    exact hq
  · rename_i h1
    have h0 : ¬ q.num = 0 := by rw [sb_nil] at h1; omega
    have h2 : ¬ q.num < 0 := by simpa using hc
    rw [if_neg h0, if_neg h2] at hq
    exact hq
theorem k60 {neg : Bool} {a b : List UInt8} (ha : a.length ≤ 68719476736) (hb : b.length ≤ 68719476736) (hq : ∀ h', Ext h h' → Q (.int .i64 (sgn (dec neg a b))) h') : YC Tryz.prog B0 60 [rat neg (bs a) (bs b)] Q h := by
  refine enterF mix Tryz.func60 ok60 rfl (tm := [(0, _)]) (bx := [_]) rfl rfl fun hp => ?_
  repeat' first | (with_reducible first | exact SetAt.z | apply SetAt.s | apply s_end | exact Kept.nil) | refine qq (hk := ?_) | ((with_reducible first | apply Kept.cons | apply q_blky); rfl) | ((with_reducible apply Kept.skip); rfl) | refine wq (hk := ?_) | (apply c_condP; rfl; exact bpx; all_goals intro hc) | ((first | apply s_gTP | apply s_gFP); rfl; exact bpx; all_goals intro hg) | (apply s_lalloc; rfl) | ((first | apply s_lbox | apply s_lstoreR); rfl; rfl; rfl) | (apply s_lstore; rfl; rfl; rfl; rfl; rfl) | (apply s_callB (hm := YC.m _ _); rfl; intro h3 o3 b3) | ((with_reducible refine YCi (f := 65) ?_); (refine k65 ha hb fun h1 e1 => ?_)) | ((with_reducible refine YCi (f := 91) ?_); (refine k91 ?_))
  exact hq _ exty
theorem k85 {q : Rat} (hq : Q (.string (bs (sb q.den))) h) : YC Tryz.prog B0 85 [er q] Q h := by
  refine enterF mix Tryz.func85 ok85 rfl (tm := [(0, _)]) (bx := [_]) rfl rfl fun hp => ?_
  repeat' first | (with_reducible first | exact SetAt.z | apply SetAt.s | apply s_end | exact Kept.nil) | refine qq (hk := ?_) | ((with_reducible first | apply Kept.cons | apply q_blky); rfl) | ((with_reducible apply Kept.skip); rfl) | refine wq (hk := ?_) | (apply c_condP; rfl; exact bpx; all_goals intro hc) | ((first | apply s_gTP | apply s_gFP); rfl; exact bpx; all_goals intro hg) | (apply s_lalloc; rfl) | ((first | apply s_lbox | apply s_lstoreR); rfl; rfl; rfl) | (apply s_lstore; rfl; rfl; rfl; rfl; rfl) | (apply s_callB (hm := YC.m _ _); rfl; intro h3 o3 b3)
  · have h1 : q.den = 1 := by
      unfold strD at hc
      split at hc
      · assumption
      · rw [sb_nil] at hc; exact absurd hc q.den_nz
    rw [h1, sb_one] at hq
    exact hq
  · have h1 : strD q.den = sb q.den := by
      unfold strD at hc ⊢
      split
      · rename_i h1; rw [if_pos h1] at hc; exact absurd rfl hc
      · rfl
    rw [h1]
    exact hq
theorem er_rq' {neg : Bool} {n d : Nat} (hd : d ≠ 0) (hn : ¬ n = 0) : er (rq neg n d) = rat neg (bs (sb (n / Nat.gcd n d))) (bs (strD (d / Nat.gcd n d))) := by
  obtain ⟨h1, h2, h3⟩ := er_rq (neg := neg) hd hn
  rw [er, h1, h2, h3]
theorem k67 {neg : Bool} {a b : List UInt8} (ha : a.length ≤ 274877906944) (hb : b.length ≤ 274877906944) (h0 : bv b ≠ 0) (hq : ∀ h', Ext h h' → Q (er (rq neg (bv a) (bv b))) h') : YC Tryz.prog B0 67 [.bool neg, .string (bs a), .string (bs b)] Q h := by
  refine enterF mix Tryz.func67 ok67 rfl (tm := [(0, _), (1, _), (2, _)]) (bx := [_]) rfl rfl fun hp => ?_
  have la : (sb (bv a)).length ≤ a.length := sb_len (bv_lt a)
  have lb : (sb (bv b)).length ≤ b.length := sb_len (bv_lt b)
  have hg0 : Nat.gcd (bv a) (bv b) ≠ 0 := by
    intro e
    exact h0 (Nat.eq_zero_of_gcd_eq_zero_right e)
  have hgl : Nat.gcd (bv a) (bv b) ≤ bv b := Nat.gcd_le_right _ (by omega)
  have lg : (sb (Nat.gcd (bv a) (bv b))).length ≤ b.length := sb_len (Nat.lt_of_le_of_lt hgl (bv_lt b))
  have n0 : bv (sb (Nat.gcd (bv a) (bv b))) ≠ 0 := by rw [bv_sb]; exact hg0
  have n0' : bv (sb (Nat.gcd (bv (sb (bv a))) (bv (sb (bv b))))) ≠ 0 := by rw [bv_sb, bv_sb, bv_sb]; exact hg0
  have lg' : (sb (Nat.gcd (bv (sb (bv a))) (bv (sb (bv b))))).length ≤ b.length := by rw [bv_sb, bv_sb]; exact lg
  repeat' first | (with_reducible first | exact SetAt.z | apply SetAt.s | apply s_end | exact Kept.nil) | refine qq (hk := ?_) | ((with_reducible first | apply Kept.cons | apply q_blky); rfl) | ((with_reducible apply Kept.skip); rfl) | refine wq (hk := ?_) | (apply c_condP; rfl; exact bpx; all_goals intro hc) | ((first | apply s_gTP | apply s_gFP); rfl; exact bpx; all_goals intro hg) | (apply s_lalloc; rfl) | ((first | apply s_lbox | apply s_lstoreR); rfl; rfl; rfl) | (apply s_lstore; rfl; rfl; rfl; rfl; rfl) | (apply s_callB (hm := YC.m _ _); rfl; intro h3 o3 b3) | ((with_reducible refine YCi (f := 97) ?_); (refine k97 ?_)) | ((with_reducible refine YCi (f := 98) ?_); (refine k98 (by omega) (by omega) fun h1 e1 => ?_)) | ((with_reducible refine YCi (f := 99) ?_); (refine k99 (by omega) (by omega) n0' fun h1 e1 => ?_))
  · refine cast (congrArg (fun v => Q v _) ?_) (hq _ exty)
    rw [sb_nil] at hc
    rw [hc, rq_zero, er_zero]
    rfl
  all_goals refine cast (congrArg (fun v => Q v _) ?_) (hq _ exty)
  all_goals simp only [bv_sb, sb_eq_one, sb_nil, Classical.not_not] at *
  all_goals rw [er_rq' h0 (by assumption)]
  all_goals first
    | (exfalso; contradiction)
    | (simp only [strD]; simp [*]; done)
    | (simp only [strD]; simp [*]; rfl)
end
end Am
end Go.Proofs.YtfhlblclcdhbiaaGreatDoor
