/- THE FUNCTIONS, ONE BY ONE: strings, limbs. -/
import Derived.Test.YtfhlblclcdhbiaaGreatDoorT
import Derived.Test.YtfhlblclcdhbiaaGreatDoorRules
namespace Go.Proofs.YtfhlblclcdhbiaaGreatDoor
open Go
set_option linter.unusedVariables false
set_option linter.unusedSimpArgs false
namespace Am
theorem mix : Tryz.prog.follows .mixedOrders = true := by kernel_rfl
section
variable {B0 : Nat} {Q : Value → AH → Prop} {h : AH}
theorem enterF (hmix : Tryz.prog.follows .mixedOrders = true) {f : Nat} {fn : Func} {af : AF} {H : Hint} {keep : List (Nat × List Nat)} (hf : Tryz.prog.funcs[f]? = some fn) (hc : cF Tryz.prog H keep fn = some af) {args : List Value} (hlen : args.length = af.np)
    {tm : List (Nat × TV)} {bx : List (Nat × List Value)} (ht : args0 0 args = tm) (hb : List.replicate af.nb (0, []) = bx) (hw : h.bar ≤ h.ob.length → WC (YC Tryz.prog B0) af.body (endQ af Q) ⟨tm, bx⟩ h) : YC Tryz.prog B0 f args Q h := by
  subst ht
  subst hb
  exact fun hp => fn_sound hmix hf hc hlen (hw hp).out hp
/-- a rational number's cells -/
def rat (n : Bool) (a b : ByteArray) : Value := .agg #[.bool n, .string a, .string b]
theorem qs_tail {x : UInt8} {l : List UInt8} {n : Nat} {tm : List (Nat × TV)} {bx : List (Nat × List Value)} : qO (.sls (.t n) (some (.c (.int .i64 1))) none) ⟨(n, .v (.string (bs (x :: l)))) :: tm, bx⟩ h = some (.v (.string (bs l))) := by
  have h1 : (1 : Int) ≤ (l.length : Int) + 1 := by omega
  simp [qO, vl, tv, look, oX, bnds, bnd, h1, bs_ext, bs_size]
theorem qs_head {x : UInt8} {l : List UInt8} {n : Nat} {tm : List (Nat × TV)} {bx : List (Nat × List Value)} : qO (.ixs (.t n) (.c (.int .i64 0))) ⟨(n, .v (.string (bs (x :: l)))) :: tm, bx⟩ h = some (.v (.int .u8 x.toNat)) := by
  simp [qO, vl, tv, look, bs_get]
theorem k137 {c : UInt8} {l : List UInt8} (hq : Q (.string (bs (l.dropWhile (· == c)))) h) : YC Tryz.prog B0 137 [.string (bs l), .int .u8 c.toNat] Q h := by
  refine enterF mix Tryz.func137 ok137 rfl (tm := [(0, _), (1, _)]) (bx := []) rfl rfl fun hp => ?_
  repeat' first | (with_reducible first | exact SetAt.z | apply SetAt.s | apply s_end | exact Kept.nil) | refine qq (hk := ?_) | ((with_reducible first | apply Kept.cons | apply q_blky); rfl) | ((with_reducible apply Kept.skip); rfl) | refine ww (hk := ?_) | (apply c_condP; rfl; exact bpx; all_goals intro hc) | ((first | apply s_gTP | apply s_gFP); rfl; exact bpx; all_goals intro hg) | (apply s_lalloc; rfl) | ((first | apply s_lbox); rfl; rfl; rfl) | (apply s_lstore; rfl; rfl; rfl; rfl; rfl) | (apply s_callB (hm := YC.m _ _); rfl; intro h3 o3 b3)
  refine loopI (YC.m _ _) (fun n fr h' => ∃ l : List UInt8, n = l.length ∧ h' = h ∧ Q (.string (bs (l.dropWhile (· == c)))) h ∧ fr = ⟨[(0, .v (.string (bs l))), (1, .v (.int .u8 c.toNat))], []⟩) l.length ⟨l, rfl, rfl, hq, rfl⟩ ?_
  rintro n fr h' ⟨l, rfl, rfl, hq, rfl⟩
  cases l with
  | nil =>
    repeat' first | (with_reducible first | exact SetAt.z | apply SetAt.s | apply s_end | exact Kept.nil) | refine qq (hk := ?_) | ((with_reducible first | apply Kept.cons | apply q_blky); rfl) | ((with_reducible apply Kept.skip); rfl) | refine ww (hk := ?_) | (apply c_condP; rfl; exact bpx; all_goals intro hc) | ((first | apply s_gTP | apply s_gFP); rfl; exact bpx; all_goals intro hg) | (apply s_lalloc; rfl) | ((first | apply s_lbox); rfl; rfl; rfl) | (apply s_lstore; rfl; rfl; rfl; rfl; rfl) | (apply s_callB (hm := YC.m _ _); rfl; intro h3 o3 b3)
    all_goals first
      | exact hq
      | (simp at hg; done)
  | cons x l =>
    repeat' first | (with_reducible first | exact SetAt.z | apply SetAt.s | apply s_end | exact Kept.nil) | refine qq (hk := ?_) | ((with_reducible first | apply Kept.cons | apply q_blky); rfl) | ((with_reducible apply Kept.skip); rfl) | (apply s_q; rfl; (first | exact qs_head | exact qs_tail)) | refine ww (hk := ?_) | (apply c_condP; rfl; exact bpx; all_goals intro hc) | ((first | apply s_gTP | apply s_gFP); rfl; exact bpx; all_goals intro hg) | (apply s_lalloc; rfl) | ((first | apply s_lbox); rfl; rfl; rfl) | (apply s_lstore; rfl; rfl; rfl; rfl; rfl) | (apply s_callB (hm := YC.m _ _); rfl; intro h3 o3 b3)
    all_goals first
      | exact q_seql (m := l.length) (by simp) ⟨l, rfl, rfl, by rwa [List.dropWhile_cons_of_pos (by simpa [← UInt8.toNat_inj] using (Int.ofNat_inj.mp hc))] at hq, rfl⟩
      | (rwa [List.dropWhile_cons_of_neg (by intro e; exact hc (congrArg (fun x : UInt8 => (x.toNat : Int)) (by simpa using e)))] at hq)
      | (simp at hg; done)
theorem k123 {l : List UInt8} (hq : Q (.string (bs (l.dropWhile (· == 0)))) h) : YC Tryz.prog B0 123 [.string (bs l), .string ⟨#[0]⟩] Q h := by
  refine enterF mix Tryz.func123 ok123 rfl (tm := [(0, _), (1, _)]) (bx := []) rfl rfl fun hp => ?_
  repeat' first | (with_reducible first | exact SetAt.z | apply SetAt.s | apply s_end | exact Kept.nil) | refine qq (hk := ?_) | ((with_reducible first | apply Kept.cons | apply q_blky); rfl) | ((with_reducible apply Kept.skip); rfl) | refine ww (hk := ?_) | (apply c_condP; rfl; exact bpx; all_goals intro hc) | ((first | apply s_gTP | apply s_gFP); rfl; exact bpx; all_goals intro hg) | (apply s_lalloc; rfl) | ((first | apply s_lbox); rfl; rfl; rfl) | (apply s_lstore; rfl; rfl; rfl; rfl; rfl) | (apply s_callB (hm := YC.m _ _); rfl; intro h3 o3 b3) | ((with_reducible refine YCi (f := 137) ?_); refine k137 (c := 0) ?_)
  all_goals first
    | exact hq
    | (simp at hc; done)
    | (simp only [Classical.not_not] at hg; subst hg; exact hq)
    | (subst hg; exact hq)
    | (simp at hg; done)
theorem k97 {l : List UInt8} (hq : Q (.string (bs (sb (bv l)))) h) : YC Tryz.prog B0 97 [.string (bs l)] Q h := by
  refine enterF mix Tryz.func97 ok97 rfl (tm := [(0, _)]) (bx := []) rfl rfl fun hp => ?_
  rw [sb_bv] at hq
  repeat' first | (with_reducible first | exact SetAt.z | apply SetAt.s | apply s_end | exact Kept.nil) | refine qq (hk := ?_) | ((with_reducible first | apply Kept.cons | apply q_blky); rfl) | ((with_reducible apply Kept.skip); rfl) | refine ww (hk := ?_) | (apply c_condP; rfl; exact bpx; all_goals intro hc) | ((first | apply s_gTP | apply s_gFP); rfl; exact bpx; all_goals intro hg) | (apply s_lalloc; rfl) | ((first | apply s_lbox); rfl; rfl; rfl) | (apply s_lstore; rfl; rfl; rfl; rfl; rfl) | (apply s_callB (hm := YC.m _ _); rfl; intro h3 o3 b3) | ((with_reducible refine YCi (f := 123) ?_); refine k123 ?_)
  exact hq
theorem k121 {i : Int} (hq : Q (.int .i64 (if i < 0 then -1 else if 0 < i then 1 else 0)) h) : YC Tryz.prog B0 121 [.int .i64 i] Q h := by
  refine enterF mix Tryz.func121 ok121 rfl (tm := [(0, _)]) (bx := []) rfl rfl fun hp => ?_
  repeat' first | (with_reducible first | exact SetAt.z | apply SetAt.s | apply s_end | exact Kept.nil) | refine qq (hk := ?_) | ((with_reducible first | apply Kept.cons | apply q_blky); rfl) | ((with_reducible apply Kept.skip); rfl) | refine ww (hk := ?_) | (apply c_condP; rfl; exact bpx; all_goals intro hc) | ((first | apply s_gTP | apply s_gFP); rfl; exact bpx; all_goals intro hg) | (apply s_lalloc; rfl) | ((first | apply s_lbox); rfl; rfl; rfl) | (apply s_lstore; rfl; rfl; rfl; rfl; rfl) | (apply s_callB (hm := YC.m _ _); rfl; intro h3 o3 b3)
  · rwa [if_pos hc] at hq
  · rwa [if_neg (by omega), if_pos hc] at hq
  · rwa [if_neg (by omega), if_neg hc] at hq
theorem li_take {l : List Int} {n : Nat} (hb : InB l) (hn : n ≤ l.length) (hv : lv (l.take n) = lv l) (hz : 0 < n → l.getD (n - 1) 0 ≠ 0) : li (lv l).toNat = l.take n := by
  rw [← hv]
  refine li_of (hb.take n) (Trim.of_getD fun hl => ?_)
  have h1 : (l.take n).length = n := by simp; omega
  rw [h1] at hl ⊢
  have := hz hl
  rwa [List.getD_eq_getElem?_getD, List.getElem?_take, if_pos (by omega), ← List.getD_eq_getElem?_getD]
theorem k134 {l : List Int} {v : Value} (hb : InB l) (hl : l.length ≤ 1152921504606846976) (hu : US .u32 h.ob l v) (hq : ∀ v', US .u32 h.ob (li (lv l).toNat) v' → Q v' h) : YC Tryz.prog B0 134 [v] Q h := by
  refine enterF mix Tryz.func134 ok134 rfl (tm := [(0, _)]) (bx := []) rfl rfl fun hp => ?_
  repeat' first | (with_reducible first | exact SetAt.z | apply SetAt.s | apply s_end | exact Kept.nil) | refine qq (hk := ?_) | ((with_reducible first | apply Kept.cons | apply q_blky); rfl) | ((with_reducible apply Kept.skip); rfl) | refine ww (hk := ?_) | (apply c_condP; rfl; exact bpx; all_goals intro hc) | ((first | apply s_gTP | apply s_gFP); rfl; exact bpx; all_goals intro hg) | (apply s_lalloc; rfl) | ((first | apply s_lbox); rfl; rfl; rfl) | (apply s_lstore; rfl; rfl; rfl; rfl; rfl) | (apply s_callB (hm := YC.m _ _); rfl; intro h3 o3 b3)
  refine loopI (YC.m _ _) (fun n fr h' => h' = h ∧ n ≤ l.length ∧ lv (l.take n) = lv l ∧ fr = ⟨[(0, .v v), (3, .v (.int .i64 n))], []⟩) l.length ⟨rfl, by omega, by simp, rfl⟩ ?_
  rintro n fr h' ⟨rfl, hn, hv, rfl⟩
  repeat' first | (with_reducible first | exact SetAt.z | apply SetAt.s | apply s_end | exact Kept.nil) | refine qq (hk := ?_) | ((with_reducible first | apply Kept.cons | apply q_blky); rfl) | ((with_reducible apply Kept.skip); rfl) | refine ww (hk := ?_) | (apply c_condP; rfl; exact bpx; all_goals intro hc) | ((first | apply s_gTP | apply s_gFP); rfl; exact bpx; all_goals intro hg) | (apply s_lalloc; rfl) | ((first | apply s_lbox); rfl; rfl; rfl) | (apply s_lstore; rfl; rfl; rfl; rfl; rfl) | (apply s_callB (hm := YC.m _ _); rfl; intro h3 o3 b3)
  · refine q_seql (m := n - 1) (by omega) ⟨rfl, by omega, ?_, by rw [Int.ofNat_sub (by omega)]; rfl⟩
    have := lv_take_succ l (n - 1) (by omega)
    rw [show (((n : Int) - 1).toNat) = n - 1 by omega] at hc
    rw [show n - 1 + 1 = n by omega, hc] at this
    omega
  · refine hq _ ?_
    rw [li_take hb hn hv fun _ => by rwa [show (((n : Int) - 1).toNat) = n - 1 by omega] at hc]
    exact hu.upto hn
  · refine hq _ ?_
    rw [li_take hb hn hv fun _ => by omega]
    exact hu.upto hn
end
end Am
end Go.Proofs.YtfhlblclcdhbiaaGreatDoor
