/- Rules of the abstract machine; natural and rational numbers as strings. -/
import Derived.Test.YtfhlblclcdhbiaaGreatDoorCore5
import Derived.Test.YtfhlblclcdhbiaaGreatDoorCore1
namespace Go.Proofs.YtfhlblclcdhbiaaGreatDoor
open Go
set_option linter.unusedVariables false
set_option linter.unusedSimpArgs false
namespace Am
/-- numbers in range stand as they are -/
theorem wI64 {n : Int} (h : -9223372036854775808 ≤ n ∧ n ≤ 9223372036854775807) : IntKind.i64.wrap n = n := by
  simp [IntKind.wrap, IntKind.bits, IntKind.signed]; split <;> omega
theorem wU64 (n : Int) : IntKind.u64.wrap n = n % 18446744073709551616 := by simp [IntKind.wrap, IntKind.bits, IntKind.signed]
theorem wU32 (n : Int) : IntKind.u32.wrap n = n % 4294967296 := by simp [IntKind.wrap, IntKind.bits, IntKind.signed]
theorem wU16 (n : Int) : IntKind.u16.wrap n = n % 65536 := by simp [IntKind.wrap, IntKind.bits, IntKind.signed]
theorem wU8 (n : Int) : IntKind.u8.wrap n = n % 256 := by simp [IntKind.wrap, IntKind.bits, IntKind.signed]
/-- what a truth value says -/
structure BP (t : Bool) (p : Prop) : Prop where
  iff : t = true ↔ p
theorem BP.dec {p : Prop} [d : Decidable p] : BP (decide p) p := ⟨decide_eq_true_iff⟩
theorem BP.eqI {x y : Int} : BP (x == y) (x = y) := ⟨beq_iff_eq⟩
theorem BP.neI {x y : Int} : BP (x != y) (x ≠ y) := ⟨bne_iff_ne⟩
theorem BP.eqS {x y : List UInt8} : BP (x == y) (x = y) := ⟨beq_iff_eq⟩
theorem BP.eqB {x y : Bool} : BP (x == y) (x = y) := ⟨beq_iff_eq⟩
theorem BP.not {t : Bool} {p : Prop} (h : BP t p) : BP (!t) (¬ p) := ⟨by rw [← h.iff]; simp⟩
theorem BP.and {t u : Bool} {p q : Prop} (h : BP t p) (g : BP u q) : BP (t && u) (p ∧ q) := ⟨by rw [← h.iff, ← g.iff]; simp⟩
theorem BP.or {t u : Bool} {p q : Prop} (h : BP t p) (g : BP u q) : BP (t || u) (p ∨ q) := ⟨by rw [← h.iff, ← g.iff]; simp⟩
theorem BP.tt : BP true True := ⟨by simp⟩
theorem BP.ff : BP false False := ⟨by simp⟩
theorem BP.var {t : Bool} : BP t (t = true) := ⟨Iff.rfl⟩
theorem BP.no {t : Bool} {p : Prop} (h : BP t p) (n : ¬ p) : t = false := by
  cases t with
  | true => exact absurd (h.iff.mp rfl) n
  | false => rfl
def bs (l : List UInt8) : ByteArray := ⟨l.toArray⟩
theorem bs_size (l : List UInt8) : (bs l).size = l.length := rfl
theorem bs_ext (l : List UInt8) (a b : Nat) : (bs l).extract a b = bs ((l.drop a).take (b - a)) := by
  apply ByteArray.ext
  simp [bs, ByteArray.data_extract, List.take_drop]
theorem bs_get (l : List UInt8) (i : Nat) : (bs l)[i]? = l[i]? := by
  simp only [bs, getElem?_def]
  by_cases h : i < l.length
  · rw [dif_pos h, dif_pos (by exact h)]
    rfl
  · rw [dif_neg h, dif_neg (by exact h)]
theorem bs_toList (l : List UInt8) : (bs l).toList = l := by
  simp [bs]
theorem bs_app (a b : List UInt8) : bs a ++ bs b = bs (a ++ b) := by
  apply ByteArray.ext
  simp [bs]
theorem BP.str {x y : List UInt8} : BP ((bs x).toList == (bs y).toList) (x = y) := ⟨by rw [bs_toList, bs_toList]; exact beq_iff_eq⟩
section
variable {C : CT} {fr : Fr} {h : AH} {Q : Ex → Fr → AH → Prop} {K : Fr → AH → Prop} {r : List AI} {d : Option Nat} {o : AO} {tm : List (Nat × TV)} {bx : List (Nat × List Value)}
theorem c_condP {c : X} {a b : AC} {t : Bool} {p : Prop} (hc : vl fr c = some (.bool t)) (hp : BP t p) (h1 : p → WC C a Q fr h) (h2 : ¬ p → WC C b Q fr h) : WC C (.cond c a b) Q fr h :=
  c_cond hc (fun e => h1 (hp.iff.mp e)) (fun e => h2 fun q => by rw [hp.iff.mpr q] at e; cases e)
theorem c_condT {c : X} {a b : AC} {t : Bool} {p : Prop} (hc : vl fr c = some (.bool t)) (hp : BP t p) (hh : p) (h1 : WC C a Q fr h) : WC C (.cond c a b) Q fr h :=
  c_condP hc hp (fun _ => h1) (fun n => absurd hh n)
theorem c_condF {c : X} {a b : AC} {t : Bool} {p : Prop} (hc : vl fr c = some (.bool t)) (hp : BP t p) (hh : ¬ p) (h2 : WC C b Q fr h) : WC C (.cond c a b) Q fr h :=
  c_condP hc hp (fun y => absurd y hh) (fun _ => h2)
theorem s_pT {n : Nat} {c x y : X} {t : Bool} {p : Prop} {u v : Value} (hc : vl ⟨tm, bx⟩ c = some (.bool t)) (hp : BP t p) (hh : p) (hx : vl ⟨tm, bx⟩ x = some u) (hy : vl ⟨tm, bx⟩ y = some v) (hk : WI C r K ⟨(n, .v u) :: tm, bx⟩ h) : WI C (⟨some n, none, .pick c x y⟩ :: r) K ⟨tm, bx⟩ h :=
  s_pickT hc (hp.iff.mpr hh) hx hy hk
theorem s_pF {n : Nat} {c x y : X} {t : Bool} {p : Prop} {u v : Value} (hc : vl ⟨tm, bx⟩ c = some (.bool t)) (hp : BP t p) (hh : ¬ p) (hx : vl ⟨tm, bx⟩ x = some u) (hy : vl ⟨tm, bx⟩ y = some v) (hk : WI C r K ⟨(n, .v v) :: tm, bx⟩ h) : WI C (⟨some n, none, .pick c x y⟩ :: r) K ⟨tm, bx⟩ h :=
  s_pickF hc (hp.no hh) hx hy hk
theorem s_gTP {g n : Nat} {t : Bool} {p : Prop} (hl : look tm g = some (.v (.bool t))) (hp : BP t p) (h1 : p → WI C (⟨some n, none, o⟩ :: r) K (⟨tm, bx⟩ : Fr) h) (h2 : ¬ p → WI C r K ⟨(n, .v undef) :: tm, bx⟩ h) : WI C (⟨some n, some (g, true), o⟩ :: r) K (⟨tm, bx⟩ : Fr) h :=
  s_gT hl (fun e => h1 (hp.iff.mp e)) (fun e => h2 fun q => by rw [hp.iff.mpr q] at e; cases e)
theorem s_gFP {g n : Nat} {t : Bool} {p : Prop} (hl : look tm g = some (.v (.bool t))) (hp : BP t p) (h1 : ¬ p → WI C (⟨some n, none, o⟩ :: r) K (⟨tm, bx⟩ : Fr) h) (h2 : p → WI C r K ⟨(n, .v undef) :: tm, bx⟩ h) : WI C (⟨some n, some (g, false), o⟩ :: r) K (⟨tm, bx⟩ : Fr) h :=
  s_gF hl (fun e => h1 fun q => by rw [hp.iff.mpr q] at e; cases e) (fun e => h2 (hp.iff.mp e))
theorem s_gTy {g n : Nat} {t : Bool} {p : Prop} (hl : look tm g = some (.v (.bool t))) (hp : BP t p) (hh : p) (h1 : WI C (⟨some n, none, o⟩ :: r) K (⟨tm, bx⟩ : Fr) h) : WI C (⟨some n, some (g, true), o⟩ :: r) K (⟨tm, bx⟩ : Fr) h :=
  s_gTP hl hp (fun _ => h1) (fun n => absurd hh n)
theorem s_gTn {g n : Nat} {t : Bool} {p : Prop} (hl : look tm g = some (.v (.bool t))) (hp : BP t p) (hh : ¬ p) (h2 : WI C r K ⟨(n, .v undef) :: tm, bx⟩ h) : WI C (⟨some n, some (g, true), o⟩ :: r) K (⟨tm, bx⟩ : Fr) h :=
  s_gTP hl hp (fun y => absurd y hh) (fun _ => h2)
theorem s_gFy {g n : Nat} {t : Bool} {p : Prop} (hl : look tm g = some (.v (.bool t))) (hp : BP t p) (hh : ¬ p) (h1 : WI C (⟨some n, none, o⟩ :: r) K (⟨tm, bx⟩ : Fr) h) : WI C (⟨some n, some (g, false), o⟩ :: r) K (⟨tm, bx⟩ : Fr) h :=
  s_gFP hl hp (fun _ => h1) (fun n => absurd n hh)
theorem s_gFn {g n : Nat} {t : Bool} {p : Prop} (hl : look tm g = some (.v (.bool t))) (hp : BP t p) (hh : p) (h2 : WI C r K ⟨(n, .v undef) :: tm, bx⟩ h) : WI C (⟨some n, some (g, false), o⟩ :: r) K (⟨tm, bx⟩ : Fr) h :=
  s_gFP hl hp (fun y => absurd hh y) (fun _ => h2)
theorem q_addI {x y : X} {a b : Int} (hx : vl fr x = some (.int .i64 a)) (hy : vl fr y = some (.int .i64 b)) (hr : -9223372036854775808 ≤ a + b ∧ a + b ≤ 9223372036854775807) : qO (.bin .add x y) fr h = some (.v (.int .i64 (a + b))) := by
  simp [qO, hx, hy, binV, wI64 hr]
theorem q_subI {x y : X} {a b : Int} (hx : vl fr x = some (.int .i64 a)) (hy : vl fr y = some (.int .i64 b)) (hr : -9223372036854775808 ≤ a - b ∧ a - b ≤ 9223372036854775807) : qO (.bin .sub x y) fr h = some (.v (.int .i64 (a - b))) := by
  simp [qO, hx, hy, binV, wI64 hr]
theorem q_mulI {x y : X} {a b : Int} (hx : vl fr x = some (.int .i64 a)) (hy : vl fr y = some (.int .i64 b)) (hr : -9223372036854775808 ≤ a * b ∧ a * b ≤ 9223372036854775807) : qO (.bin .mul x y) fr h = some (.v (.int .i64 (a * b))) := by
  simp [qO, hx, hy, binV, wI64 hr]
theorem q_quoI {x y : X} {a b : Int} (hx : vl fr x = some (.int .i64 a)) (hy : vl fr y = some (.int .i64 b)) (ha : 0 ≤ a ∧ a ≤ 9223372036854775807) (hb : 0 < b) : qO (.bin .quo x y) fr h = some (.v (.int .i64 (a / b))) := by
  have h1 : a.tdiv b = a / b := Int.tdiv_eq_ediv_of_nonneg ha.1
  have h2 : 0 ≤ a / b := Int.ediv_nonneg ha.1 (by omega)
  have h3 : a / b ≤ a := Int.ediv_le_self _ ha.1
  have hb' : b ≠ 0 := by omega
  simp [qO, hx, hy, binV, hb', h1, wI64 (n := a / b) (by omega)]
theorem q_remI {x y : X} {a b : Int} {k : IntKind} (hx : vl fr x = some (.int k a)) (hy : vl fr y = some (.int k b)) (ha : 0 ≤ a) (hb : 0 < b) : qO (.bin .rem x y) fr h = some (.v (.int k (a % b))) := by
  have h1 : a.tmod b = a % b := Int.tmod_eq_emod_of_nonneg ha
  have hb' : b ≠ 0 := by omega
  simp [qO, hx, hy, binV, hb', h1]
theorem q_addL {x y : X} {a b : Int} (hx : vl fr x = some (.int .u64 a)) (hy : vl fr y = some (.int .u64 b)) (hr : 0 ≤ a + b ∧ a + b ≤ 18446744073709551615) : qO (.bin .add x y) fr h = some (.v (.int .u64 (a + b))) := by
  simp [qO, hx, hy, binV, wU64]; omega
theorem q_subL {x y : X} {a b : Int} (hx : vl fr x = some (.int .u64 a)) (hy : vl fr y = some (.int .u64 b)) (hr : 0 ≤ a - b ∧ a - b ≤ 18446744073709551615) : qO (.bin .sub x y) fr h = some (.v (.int .u64 (a - b))) := by
  simp [qO, hx, hy, binV, wU64]; omega
theorem q_mulL {x y : X} {a b : Int} (hx : vl fr x = some (.int .u64 a)) (hy : vl fr y = some (.int .u64 b)) (hr : 0 ≤ a * b ∧ a * b ≤ 18446744073709551615) : qO (.bin .mul x y) fr h = some (.v (.int .u64 (a * b))) := by
  simp [qO, hx, hy, binV, wU64]; omega
theorem q_quoL {x y : X} {a b : Int} (hx : vl fr x = some (.int .u64 a)) (hy : vl fr y = some (.int .u64 b)) (ha : 0 ≤ a ∧ a ≤ 18446744073709551615) (hb : 0 < b) : qO (.bin .quo x y) fr h = some (.v (.int .u64 (a / b))) := by
  have h1 : a.tdiv b = a / b := Int.tdiv_eq_ediv_of_nonneg ha.1
  have h2 : 0 ≤ a / b := Int.ediv_nonneg ha.1 (by omega)
  have h3 : a / b ≤ a := Int.ediv_le_self _ ha.1
  have hb' : b ≠ 0 := by omega
  simp [qO, hx, hy, binV, hb', h1, wU64]
  omega
theorem q_addU {x y : X} {a b : Int} (hx : vl fr x = some (.int .u32 a)) (hy : vl fr y = some (.int .u32 b)) : qO (.bin .add x y) fr h = some (.v (.int .u32 ((a + b) % 4294967296))) := by
  simp [qO, hx, hy, binV, wU32]
/-- shift right -/
theorem q_shr {x y : X} {a b : Int} {k k' : IntKind} (hx : vl fr x = some (.int k a)) (hy : vl fr y = some (.int k' b)) (hb : 0 ≤ b ∧ b ≤ k.bits) : qO (.bin .shr x y) fr h = some (.v (.int k (a / 2 ^ b.toNat))) := by
  have h0 : ¬ b < 0 := by omega
  have h1 : min b.toNat k.bits = b.toNat := by omega
  simp only [qO, hx, hy, binV, h0, if_false, h1]
  rw [Int.fdiv_eq_ediv_of_nonneg _ (by exact_mod_cast Nat.zero_le _)]
theorem q_shr32 {x y : X} {a : Int} {k' : IntKind} (hx : vl fr x = some (.int .u64 a)) (hy : vl fr y = some (.int k' 32)) : qO (.bin .shr x y) fr h = some (.v (.int .u64 (a / 4294967296))) :=
  q_shr hx hy (by simp [IntKind.bits])
/-- shift left, in range -/
theorem q_shlL {x y : X} {a b : Int} {k' : IntKind} (hx : vl fr x = some (.int .u64 a)) (hy : vl fr y = some (.int k' b)) (hb : 0 ≤ b ∧ b ≤ 64) (hr : 0 ≤ a * 2 ^ b.toNat ∧ a * 2 ^ b.toNat ≤ 18446744073709551615) : qO (.bin .shl x y) fr h = some (.v (.int .u64 (a * 2 ^ b.toNat))) := by
  have h0 : ¬ b < 0 := by omega
  have h1 : min b.toNat IntKind.u64.bits = b.toNat := by simp [IntKind.bits]; omega
  simp only [qO, hx, hy, binV, h0, if_false, h1, wU64]
  rw [Int.emod_eq_of_lt hr.1 (by omega)]
theorem q_shrN {x y : X} {a b : Int} {s : Nat} {k k' : IntKind} (hx : vl fr x = some (.int k a)) (hy : vl fr y = some (.int k' b)) (hs : b = (s : Int)) (hb : s ≤ k.bits) : qO (.bin .shr x y) fr h = some (.v (.int k (a / 2 ^ s))) := by
  have := q_shr (h := h) hx hy (by omega)
  rw [hs] at this
  exact this
theorem q_shlN {x y : X} {a b : Int} {s : Nat} {k' : IntKind} (hx : vl fr x = some (.int .u64 a)) (hy : vl fr y = some (.int k' b)) (hs : b = (s : Int)) (hb : s ≤ 64) (hr : 0 ≤ a * 2 ^ s ∧ a * 2 ^ s ≤ 18446744073709551615) : qO (.bin .shl x y) fr h = some (.v (.int .u64 (a * 2 ^ s))) := by
  have := q_shlL (h := h) hx hy (by omega) (by rw [hs]; exact hr)
  rw [hs] at this
  exact this
theorem q_shl32 {x y : X} {a : Int} {k' : IntKind} (hx : vl fr x = some (.int .u64 a)) (hy : vl fr y = some (.int k' 32)) (hr : 0 ≤ a ∧ a < 4294967296) : qO (.bin .shl x y) fr h = some (.v (.int .u64 (a * 4294967296))) :=
  q_shlL hx hy (by omega) (by simp; omega)
theorem q_shlU {x y : X} {a b : Int} {k' : IntKind} (hx : vl fr x = some (.int .u32 a)) (hy : vl fr y = some (.int k' b)) (hb : 0 ≤ b ∧ b ≤ 32) (hr : 0 ≤ a * 2 ^ b.toNat ∧ a * 2 ^ b.toNat ≤ 4294967295) : qO (.bin .shl x y) fr h = some (.v (.int .u32 (a * 2 ^ b.toNat))) := by
  have h0 : ¬ b < 0 := by omega
  have h1 : min b.toNat IntKind.u32.bits = b.toNat := by simp [IntKind.bits]; omega
  simp only [qO, hx, hy, binV, h0, if_false, h1, wU32]
  rw [Int.emod_eq_of_lt hr.1 (by omega)]
/-- or: what overlaps nowhere is a sum -/
theorem or_sum {s : Nat} {a b : Nat} (h : a < 2 ^ s) : (b * 2 ^ s) ||| a = b * 2 ^ s + a := by
  rw [Nat.mul_comm, ← Nat.two_pow_add_eq_or_of_lt h]
theorem orV {k : IntKind} {s : Nat} {a b : Int} (h0 : 0 ≤ a) (h1 : a < 2 ^ s) (h2 : 0 ≤ b) (h3 : b * 2 ^ s + a < 2 ^ k.bits) (hk : k.signed = false) :
    k.wrap (BitVec.ofInt k.bits (b * 2 ^ s) ||| BitVec.ofInt k.bits a).toNat = b * 2 ^ s + a := by
  obtain ⟨m, rfl⟩ := Int.eq_ofNat_of_zero_le h0
  obtain ⟨n, rfl⟩ := Int.eq_ofNat_of_zero_le h2
  have e1 : ((n : Int) * 2 ^ s) = ((n * 2 ^ s : Nat) : Int) := by push_cast; rfl
  have e2 : ((2 : Int) ^ k.bits) = ((2 ^ k.bits : Nat) : Int) := by push_cast; rfl
  have e3 : ((2 : Int) ^ s) = ((2 ^ s : Nat) : Int) := by push_cast; rfl
  rw [e1, e2] at h3
  rw [e3] at h1
  have h1' : m < 2 ^ s := by exact_mod_cast h1
  have h3' : n * 2 ^ s + m < 2 ^ k.bits := by exact_mod_cast h3
  rw [e1, BitVec.toNat_or, BitVec.toNat_ofInt, BitVec.toNat_ofInt]
  have l1 : ((n * 2 ^ s : Nat) : Int) % ((2 ^ k.bits : Nat) : Int) = ((n * 2 ^ s : Nat) : Int) := by
    rw [← Int.natCast_emod, Nat.mod_eq_of_lt (by omega)]
  have l2 : ((m : Nat) : Int) % ((2 ^ k.bits : Nat) : Int) = ((m : Nat) : Int) := by
    rw [← Int.natCast_emod, Nat.mod_eq_of_lt (by omega)]
  rw [l1, l2, Int.toNat_natCast, Int.toNat_natCast, or_sum h1']
  simp only [IntKind.wrap, hk, Bool.false_and, Bool.false_eq_true, if_false]
  rw [e2, ← Int.natCast_emod, Nat.mod_eq_of_lt h3']
  push_cast
  rfl
theorem q_or {x y : X} {a b c : Int} {k : IntKind} (s : Nat) (hx : vl fr x = some (.int k c)) (hy : vl fr y = some (.int k a)) (hc : c = b * 2 ^ s) (h0 : 0 ≤ a) (h1 : a < 2 ^ s) (h2 : 0 ≤ b) (h3 : b * 2 ^ s + a < 2 ^ k.bits) (hk : k.signed = false) :
    qO (.bin .or x y) fr h = some (.v (.int k (b * 2 ^ s + a))) := by
  subst hc
  simp only [qO, hx, hy, binV, ne_eq, not_true, if_false, orV h0 h1 h2 h3 hk]
theorem q_or' {x y : X} {a b c : Int} {k : IntKind} (s : Nat) (hx : vl fr x = some (.int k a)) (hy : vl fr y = some (.int k c)) (hc : c = b * 2 ^ s) (h0 : 0 ≤ a) (h1 : a < 2 ^ s) (h2 : 0 ≤ b) (h3 : b * 2 ^ s + a < 2 ^ k.bits) (hk : k.signed = false) :
    qO (.bin .or x y) fr h = some (.v (.int k (b * 2 ^ s + a))) := by
  subst hc
  simp only [qO, hx, hy, binV, ne_eq, not_true, if_false]
  rw [BitVec.or_comm, orV h0 h1 h2 h3 hk]
theorem q_orz {x y : X} {a b : Int} {k : IntKind} (hx : vl fr x = some (.int k a)) (hy : vl fr y = some (.int k b)) (ha : a = 0) (h0 : 0 ≤ b ∧ b < 2 ^ k.bits) (hk : k.signed = false) :
    qO (.bin .or x y) fr h = some (.v (.int k b)) := by
  have := q_or (fr := fr) (h := h) (a := 0) (b := b) 0 hy (by rw [ha] at hx; exact hx) (by simp) (by omega) (by simp) h0.1 (by simpa using h0.2) hk
  subst ha
  obtain ⟨m, rfl⟩ := Int.eq_ofNat_of_zero_le h0.1
  have h1 : ((m : Nat) : Int) % ((2 ^ k.bits : Nat) : Int) = ((m : Nat) : Int) := by
    have : ((m : Nat) : Int) < ((2 ^ k.bits : Nat) : Int) := by push_cast; exact h0.2
    rw [Int.emod_eq_of_lt (by omega) this]
  simp only [qO, hx, hy, binV, ne_eq, not_true, if_false]
  have e : BitVec.ofInt k.bits 0 = 0#k.bits := by simp
  rw [e, BitVec.zero_or, BitVec.toNat_ofInt, h1, Int.toNat_natCast]
  simp only [IntKind.wrap, hk, Bool.false_and, Bool.false_eq_true, if_false]
  rw [Int.emod_eq_of_lt h0.1 h0.2]
theorem q_or32 {x y : X} {a b : Int} (hx : vl fr x = some (.int .u64 (b * 4294967296))) (hy : vl fr y = some (.int .u64 a)) (h1 : 0 ≤ a ∧ a < 4294967296) (h2 : 0 ≤ b ∧ b < 4294967296) :
    qO (.bin .or x y) fr h = some (.v (.int .u64 (b * 4294967296 + a))) :=
  q_or (b := b) 32 hx hy rfl h1.1 (by simpa using h1.2) h2.1 (by simp [IntKind.bits]; omega) rfl
/-- conversions -/
theorem q_cvI {x : X} {k : IntKind} {a : Int} (hx : vl fr x = some (.int k a)) (hr : -9223372036854775808 ≤ a ∧ a ≤ 9223372036854775807) : qO (.conv .i64 x) fr h = some (.v (.int .i64 a)) := by
  simp [qO, hx, wI64 hr]
theorem q_cvL {x : X} {k : IntKind} {a : Int} (hx : vl fr x = some (.int k a)) (hr : 0 ≤ a ∧ a ≤ 18446744073709551615) : qO (.conv .u64 x) fr h = some (.v (.int .u64 a)) := by
  simp [qO, hx, wU64]; omega
theorem q_cvU {x : X} {k : IntKind} {a : Int} (hx : vl fr x = some (.int k a)) (hr : 0 ≤ a ∧ a ≤ 4294967295) : qO (.conv .u32 x) fr h = some (.v (.int .u32 a)) := by
  simp [qO, hx, wU32]; omega
theorem q_cvUm {x : X} {k : IntKind} {a : Int} (hx : vl fr x = some (.int k a)) : qO (.conv .u32 x) fr h = some (.v (.int .u32 (a % 4294967296))) := by
  simp [qO, hx, wU32]
theorem q_cvB {x : X} {k : IntKind} {a : Int} (hx : vl fr x = some (.int k a)) : qO (.conv .u8 x) fr h = some (.v (.int .u8 (a % 256))) := by
  simp [qO, hx, wU8]
theorem q_cvU8 {x : X} {b : UInt8} (hx : vl fr x = some (.int .u8 b.toNat)) : qO (.conv .u32 x) fr h = some (.v (.int .u32 b.toNat)) :=
  q_cvU hx ⟨by omega, by have := b.toNat_lt; omega⟩
theorem q_cvL8 {x : X} {b : UInt8} (hx : vl fr x = some (.int .u8 b.toNat)) : qO (.conv .u64 x) fr h = some (.v (.int .u64 b.toNat)) :=
  q_cvL hx ⟨by omega, by have := b.toNat_lt; omega⟩
theorem q_e20 {x : X} {a b : Value} (hx : vl fr x = some (.tuple #[a, b])) : qO (.ext 0 x) fr h = some (.v a) := by simp [qO, hx]
theorem q_e21 {x : X} {a b : Value} (hx : vl fr x = some (.tuple #[a, b])) : qO (.ext 1 x) fr h = some (.v b) := by simp [qO, hx]
theorem q_e30 {x : X} {a b c : Value} (hx : vl fr x = some (.tuple #[a, b, c])) : qO (.ext 0 x) fr h = some (.v a) := by simp [qO, hx]
theorem q_e31 {x : X} {a b c : Value} (hx : vl fr x = some (.tuple #[a, b, c])) : qO (.ext 1 x) fr h = some (.v b) := by simp [qO, hx]
theorem q_e32 {x : X} {a b c : Value} (hx : vl fr x = some (.tuple #[a, b, c])) : qO (.ext 2 x) fr h = some (.v c) := by simp [qO, hx]
theorem qs_len {x : X} {l : List UInt8} (hx : vl fr x = some (.string (bs l))) : qO (.slen x) fr h = some (.v (.int .i64 l.length)) := by
  simp [qO, hx, bs_size]
theorem qs_ix {x i : X} {l : List UInt8} {k : IntKind} {j : Int} (hx : vl fr x = some (.string (bs l))) (hi : vl fr i = some (.int k j)) (h0 : 0 ≤ j) (h1 : j < l.length) : qO (.ixs x i) fr h = some (.v (.int .u8 (l.getD j.toNat 0).toNat)) := by
  have h2 : j.toNat < l.length := by omega
  simp [qO, hx, hi, h0, bs_get, List.getD_eq_getElem?_getD, h2]
theorem qs_ixN {x i : X} {l : List UInt8} {k : IntKind} {j' : Int} {j : Nat} (hx : vl fr x = some (.string (bs l))) (hi : vl fr i = some (.int k j')) (hj : j' = (j : Int)) (h1 : j < l.length) : qO (.ixs x i) fr h = some (.v (.int .u8 (l.getD j 0).toNat)) := by
  have := qs_ix (h := h) hx hi (by omega) (by omega)
  rw [hj] at this
  exact this
theorem qs_from {x i : X} {l : List UInt8} {k : IntKind} {j' : Int} {j : Nat} (hx : vl fr x = some (.string (bs l))) (hi : vl fr i = some (.int k j')) (hj : j' = (j : Int)) (h1 : j ≤ l.length) : qO (.sls x (some i) none) fr h = some (.v (.string (bs (l.drop j)))) := by
  subst hj
  have e1 : ((j : Nat) : Int) ≤ l.length := by omega
  simp [qO, hx, hi, oX, bs_size, bnds, bnd, e1, bs_ext, List.take_of_length_le]
theorem qs_sl {x : X} {lo hi : Option X} {l : List UInt8} {a b : Option Value} {m n : Nat} (hx : vl fr x = some (.string (bs l))) (hl : oX fr lo = some a) (hh : oX fr hi = some b) (hb : bnds a b l.length l.length = some (m, n)) : qO (.sls x lo hi) fr h = some (.v (.string (bs ((l.drop m).take (n - m))))) := by
  simp [qO, hx, hl, hh, bs_size, hb, bs_ext]
end
end Am
end Go.Proofs.YtfhlblclcdhbiaaGreatDoor
namespace Go.Proofs.YtfhlblclcdhbiaaGreatDoor
open Go
set_option linter.unusedVariables false
set_option linter.unusedSimpArgs false
namespace Am
abbrev Ob := List (Option (Nat × List Value))
/-- v is a slice of n elements, sz cells each; these are its cells. -/
inductive SL (ob : Ob) (sz n : Nat) (cs : List Value) : Value → Prop where
  | nil (hn : n = 0) (hc : cs = []) : SL ob sz n cs (.slice none 0 0)
  | row {o off c z : Nat} {all : List Value} (hc : n ≤ c) (hr : ob[o]? = some (some (z, all))) (hs : off + n * sz ≤ all.length) (he : (all.drop off).take (n * sz) = cs) : SL ob sz n cs (.slice (some ⟨o, off, none⟩) n c)
/-- where a slice's k-th cell lies -/
def pt (v : Value) (k : Nat) : Value := match v with
  | .slice (some ⟨o, off, _⟩) _ _ => .pointer (some ⟨o, off + k, none⟩)
  | v => v
/-- the heap has grown, what was there stands as it was -/
structure Ext (h h' : AH) : Prop where
  bar : h'.bar = h.bar
  len : h.ob.length ≤ h'.ob.length
  old : ∀ o, o < h.ob.length → h'.ob[o]? = h.ob[o]?
theorem Ext.refl (h : AH) : Ext h h := ⟨rfl, Nat.le_refl _, fun _ _ => rfl⟩
theorem Ext.trans {a b c : AH} (h : Ext a b) (g : Ext b c) : Ext a c := ⟨g.bar.trans h.bar, Nat.le_trans h.len g.len, fun o ho => (g.old o (Nat.lt_of_lt_of_le ho h.len)).trans (h.old o ho)⟩
theorem Ext.row {h h' : AH} (e : Ext h h') {o : Nat} {x : Option (Nat × List Value)} (hr : h.ob[o]? = some x) : h'.ob[o]? = some x := by
  rw [e.old o (List.getElem?_eq_some_iff.mp hr).1, hr]
theorem Ext.low {h h' : AH} (e : Ext { h with bar := h.ob.length } h') : Ext h { h' with bar := h.bar } := ⟨rfl, e.len, e.old⟩
theorem Ext.pre {h h' : AH} (e : Ext h h') (p : h.bar ≤ h.ob.length) : h'.bar ≤ h'.ob.length := by rw [e.bar]; exact Nat.le_trans p e.len
theorem SL.ext {h h' : AH} (e : Ext h h') {sz n : Nat} {cs : List Value} {v : Value} (s : SL h.ob sz n cs v) : SL h'.ob sz n cs v := by
  cases s with
  | nil hn hc => exact .nil hn hc
  | row hc hr hs he => exact .row hc (e.row hr) hs he
theorem sub_of {cs : List Value} {off n : Nat} (h : off + n ≤ cs.length) : sub cs off n = some ((cs.drop off).take n) := if_pos h
theorem SL.len {ob : Ob} {sz n : Nat} {cs : List Value} {v : Value} (s : SL ob sz n cs v) : cs.length = n * sz := by
  cases s with
  | nil hn hc => subst hn; subst hc; simp
  | row hc hr hs he => subst he; simp; omega
theorem SL.at {h : AH} {sz n : Nat} {cs : List Value} {v : Value} (s : SL h.ob sz n cs v) (hn : 0 < n) : ∃ o off c, v = .slice (some ⟨o, off, none⟩) n c ∧ n ≤ c ∧ ∀ k m, k + m ≤ n * sz → rd h o (off + k) m = some ((cs.drop k).take m) := by
  cases s with
  | nil h0 hc => omega
  | @row o off c z all hc hr hs he =>
    refine ⟨o, off, c, rfl, hc, fun k m hk => ?_⟩
    simp only [rd, hr]
    rw [sub_of (by omega), ← he, List.drop_take, List.take_take, List.drop_drop]
    congr 2
    omega
section
variable {C : CT} {fr : Fr} {h : AH} {Q : Ex → Fr → AH → Prop} {K : Fr → AH → Prop} {r : List AI} {d : Option Nat} {o : AO} {tm : List (Nat × TV)} {bx : List (Nat × List Value)}
theorem q_lenS {x : X} {v : Value} {sz n : Nat} {cs : List Value} (hx : vl fr x = some v) (hs : SL h.ob sz n cs v) : qO (.len x) fr h = some (.v (.int .i64 n)) := by
  cases hs with
  | nil hn hc => subst hn; simp [qO, hx]
  | row hc hr hs he => simp [qO, hx]
theorem q_iaS {x i : X} {v : Value} {sz n : Nat} {cs : List Value} {k : IntKind} {j : Int} (hx : vl fr x = some v) (hi : vl fr i = some (.int k j)) (hs : SL h.ob sz n cs v) (hj : 0 ≤ j ∧ j < n) : qO (.ia sz x i) fr h = some (.v (pt v (j.toNat * sz))) := by
  obtain ⟨o, off, c, rfl, hc, hr⟩ := hs.at (by omega)
  simp [qO, hx, hi, hj, pt]
theorem q_faS {a : X} {v : Value} {sz n k off : Nat} {cs : List Value} (ha : vl fr a = some (pt v k)) (hs : SL h.ob sz n cs v) (hn : 0 < n) : qO (.fa off a) fr h = some (.v (pt v (k + off))) := by
  obtain ⟨o, off, c, rfl, hc, hr⟩ := hs.at hn
  have : ad fr a = some (.h o (off + k)) := by
    simp only [vl] at ha
    simp only [ad]
    split at ha
    · rename_i w hw
      cases ha
      simp [hw, pt]
    · cases ha
  simp [qO, this, pt, Nat.add_assoc]
theorem q_ldS {a : X} {v w : Value} {sz n k m : Nat} {agg : Bool} {cs : List Value} (ha : vl fr a = some (pt v k)) (hs : SL h.ob sz n cs v) (hn : 0 < n) (hk : k + m ≤ n * sz) (hw : ag agg ((cs.drop k).take m) = some w) : qO (.load m agg a) fr h = some (.v w) := by
  obtain ⟨o, off, c, rfl, hc, hr⟩ := hs.at hn
  have : ad fr a = some (.h o (off + k)) := by
    simp only [vl] at ha
    simp only [ad]
    split at ha
    · rename_i w hw
      cases ha
      simp [hw, pt]
    · cases ha
  simp [qO, this, hr k m hk, hw]
end
/-- a slice of things that are written as sz cells each -/
structure TS {α : Type} (en : α → List Value) (sz : Nat) (ob : Ob) (l : List α) (v : Value) : Prop where
  wd : ∀ a, (en a).length = sz
  sl : SL ob sz l.length (l.flatMap en) v
theorem TS.ext {α : Type} {en : α → List Value} {sz : Nat} {h h' : AH} (e : Ext h h') {l : List α} {v : Value} (t : TS en sz h.ob l v) : TS en sz h'.ob l v := ⟨t.wd, t.sl.ext e⟩
theorem flat_at {α : Type} {en : α → List Value} {sz : Nat} (hw : ∀ a, (en a).length = sz) : ∀ {l : List α} {j : Nat} {x : α}, l[j]? = some x → ∀ off m, off + m ≤ sz → ((l.flatMap en).drop (j * sz + off)).take m = ((en x).drop off).take m
  | [], j, x, h, off, m, hm => by simp at h
  | a :: l, 0, x, h, off, m, hm => by
    simp at h
    subst h
    simp only [List.flatMap_cons, Nat.zero_mul, Nat.zero_add]
    rw [List.drop_append_of_le_length (by rw [hw]; omega), List.take_append_of_le_length (by rw [List.length_drop, hw]; omega)]
  | a :: l, j + 1, x, h, off, m, hm => by
    simp at h
    have := flat_at hw h off m hm
    rw [List.flatMap_cons, List.drop_append, List.drop_eq_nil_of_le (by rw [hw, Nat.succ_mul]; omega), List.nil_append, hw]
    rw [show (j + 1) * sz + off - sz = j * sz + off by rw [Nat.succ_mul]; omega]
    exact this
section
variable {C : CT} {fr : Fr} {h : AH} {Q : Ex → Fr → AH → Prop} {K : Fr → AH → Prop} {r : List AI} {tm : List (Nat × TV)} {bx : List (Nat × List Value)} {α : Type} {en : α → List Value} {sz : Nat} {l : List α}
theorem q_lenT {x : X} {v : Value} (hx : vl fr x = some v) (hs : TS en sz h.ob l v) : qO (.len x) fr h = some (.v (.int .i64 l.length)) := q_lenS hx hs.sl
theorem q_iaT {x i : X} {v : Value} {k : IntKind} {j : Int} (hx : vl fr x = some v) (hi : vl fr i = some (.int k j)) (hs : TS en sz h.ob l v) (hj : 0 ≤ j ∧ j < l.length) : qO (.ia sz x i) fr h = some (.v (pt v (j.toNat * sz))) := q_iaS hx hi hs.sl hj
theorem q_faT {a : X} {v : Value} {j off : Nat} {x : α} (ha : vl fr a = some (pt v (j * sz))) (hs : TS en sz h.ob l v) (hj : l[j]? = some x) : qO (.fa off a) fr h = some (.v (pt v (j * sz + off))) :=
  q_faS ha hs.sl (by have := (List.getElem?_eq_some_iff.mp hj).1; omega)
theorem at_lt {j : Nat} {x : α} (hj : l[j]? = some x) {off m : Nat} (hm : off + m ≤ sz) : j * sz + off + m ≤ l.length * sz := by
  have h1 := (List.getElem?_eq_some_iff.mp hj).1
  have h2 : (j + 1) * sz ≤ l.length * sz := Nat.mul_le_mul_right _ h1
  rw [Nat.succ_mul] at h2
  omega
/-- a whole element -/
theorem q_ldT {a : X} {v w : Value} {j : Nat} {agg : Bool} {x : α} (ha : vl fr a = some (pt v (j * sz))) (hs : TS en sz h.ob l v) (hj : l[j]? = some x) (hw : ag agg (en x) = some w) : qO (.load sz agg a) fr h = some (.v w) := by
  refine q_ldS ha hs.sl (by have := (List.getElem?_eq_some_iff.mp hj).1; omega) (at_lt hj (off := 0) (m := sz) (by omega)) ?_
  have := flat_at hs.wd hj 0 sz (by omega)
  rw [Nat.add_zero] at this
  rw [this, List.drop_zero, List.take_of_length_le (by rw [hs.wd]; exact Nat.le_refl _)]
  exact hw
/-- a part of an element -/
theorem q_ldF {a : X} {v w : Value} {j off m : Nat} {agg : Bool} {x : α} (ha : vl fr a = some (pt v (j * sz + off))) (hs : TS en sz h.ob l v) (hj : l[j]? = some x) (hm : off + m ≤ sz) (hw : ag agg (((en x).drop off).take m) = some w) : qO (.load m agg a) fr h = some (.v w) := by
  refine q_ldS ha hs.sl (by have := (List.getElem?_eq_some_iff.mp hj).1; omega) (at_lt hj hm) ?_
  rw [flat_at hs.wd hj off m hm]
  exact hw
end
/-- numbers -/
abbrev US (k : IntKind) (ob : Ob) (l : List Int) (v : Value) : Prop := TS (fun x : Int => [Value.int k x]) 1 ob l v
theorem flat_one {α : Type} (f : α → Value) (l : List α) : l.flatMap (fun x => [f x]) = l.map f := by
  induction l with
  | nil => rfl
  | cons a l ih => simp [ih]
theorem getD_some {l : List Int} {j : Nat} (h : j < l.length) : l[j]? = some (l.getD j 0) := by
  rw [List.getD_eq_getElem?_getD, List.getElem?_eq_getElem h]; rfl
/-- the heap with one more row; with a row put anew -/
structure NewO (h : AH) (x : Option (Nat × List Value)) (h' : AH) : Prop where
  ob : h'.ob = h.ob ++ [x]
  bar : h'.bar = h.bar
structure SetO (h : AH) (o : Nat) (x : Option (Nat × List Value)) (h' : AH) : Prop where
  ob : h'.ob = h.ob.set o x
  bar : h'.bar = h.bar
theorem NewO.ext {h h' : AH} {x : Option (Nat × List Value)} (n : NewO h x h') : Ext h h' := ⟨n.bar, by rw [n.ob]; simp, fun o ho => by rw [n.ob, List.getElem?_append_left ho]⟩
theorem NewO.at {h h' : AH} {x : Option (Nat × List Value)} (n : NewO h x h') : h'.ob[h.ob.length]? = some x := by rw [n.ob]; simp
theorem NewO.len {h h' : AH} {x : Option (Nat × List Value)} (n : NewO h x h') : h'.ob.length = h.ob.length + 1 := by rw [n.ob]; simp
theorem SetO.ext {h0 h h' : AH} {o : Nat} {x : Option (Nat × List Value)} (n : SetO h o x h') (e : Ext h0 h) (ho : h0.ob.length ≤ o) : Ext h0 h' :=
  ⟨n.bar.trans e.bar, by rw [n.ob]; simpa using e.len, fun p hp => by rw [n.ob, List.getElem?_set_ne (by omega)]; exact e.old p hp⟩
theorem SetO.at {h h' : AH} {o : Nat} {x y : Option (Nat × List Value)} (n : SetO h o x h') (ho : h.ob[o]? = some y) : h'.ob[o]? = some x := by
  rw [n.ob, List.getElem?_set_self (List.getElem?_eq_some_iff.mp ho).1]
theorem SetO.other {h h' : AH} {o p : Nat} {x : Option (Nat × List Value)} (n : SetO h o x h') (hp : p ≠ o) : h'.ob[p]? = h.ob[p]? := by
  rw [n.ob, List.getElem?_set_ne (by omega)]
theorem SetO.len {h h' : AH} {o : Nat} {x : Option (Nat × List Value)} (n : SetO h o x h') : h'.ob.length = h.ob.length := by rw [n.ob]; simp
/-- a row of numbers of one's own -/
abbrev UA (k : IntKind) (ob : Ob) (o : Nat) (l : List Int) : Prop := ob[o]? = some (some (1, l.map (Value.int k)))
theorem UA.us {k : IntKind} {ob : Ob} {o : Nat} {l : List Int} (a : UA k ob o l) {m c : Nat} (hm : m ≤ l.length) (hc : m ≤ c) : US k ob (l.take m) (.slice (some ⟨o, 0, none⟩) m c) := by
  refine ⟨fun _ => rfl, ?_⟩
  have h1 : (l.take m).length = m := by simp; omega
  rw [flat_one, h1]
  exact .row hc a (by simp; omega) (by simp [List.map_take])
theorem UA.all {k : IntKind} {ob : Ob} {o : Nat} {l : List Int} (a : UA k ob o l) {m c : Nat} (hm : m = l.length) (hc : m ≤ c) : US k ob l (.slice (some ⟨o, 0, none⟩) m c) := by
  have := a.us (m := m) (c := c) (by omega) hc
  rw [List.take_of_length_le (by omega)] at this
  exact this
theorem US.nil {k : IntKind} {ob : Ob} : US k ob [] (.slice none 0 0) := ⟨fun _ => rfl, .nil rfl rfl⟩
section
variable {C : CT} {fr : Fr} {h : AH} {Q : Ex → Fr → AH → Prop} {K : Fr → AH → Prop} {r : List AI} {tm : List (Nat × TV)} {bx : List (Nat × List Value)}
theorem q_iaU {x i : X} {v : Value} {k k' : IntKind} {j : Int} {l : List Int} (hx : vl fr x = some v) (hi : vl fr i = some (.int k j)) (hs : US k' h.ob l v) (hj : 0 ≤ j ∧ j < l.length) : qO (.ia 1 x i) fr h = some (.v (pt v j.toNat)) := by
  have := q_iaT hx hi hs hj
  rwa [Nat.mul_one] at this
theorem q_iaN {x i : X} {v : Value} {k k' : IntKind} {j' : Int} {j : Nat} {l : List Int} (hx : vl fr x = some v) (hi : vl fr i = some (.int k j')) (hj' : j' = (j : Int)) (hs : US k' h.ob l v) (hj : j < l.length) : qO (.ia 1 x i) fr h = some (.v (pt v j)) := by
  have := q_iaU (k := k) hx hi hs (by omega)
  rw [hj'] at this
  exact this
theorem q_ldU {a : X} {v : Value} {j : Nat} {k : IntKind} {l : List Int} (ha : vl fr a = some (pt v j)) (hs : US k h.ob l v) (hj : j < l.length) : qO (.load 1 false a) fr h = some (.v (.int k (l.getD j 0))) :=
  q_ldT (sz := 1) (by rw [Nat.mul_one]; exact ha) hs (getD_some hj) rfl
theorem flat_take {α : Type} {en : α → List Value} {sz : Nat} (hw : ∀ a, (en a).length = sz) : ∀ (l : List α) (n : Nat), (l.take n).flatMap en = (l.flatMap en).take (n * sz)
  | [], n => by simp
  | a :: l, 0 => by simp
  | a :: l, n + 1 => by
    rw [List.take_succ_cons, List.flatMap_cons, List.flatMap_cons, flat_take hw l n, List.take_append, hw, List.take_of_length_le (l := en a) (by rw [hw, Nat.succ_mul]; omega), show (n + 1) * sz - sz = n * sz by rw [Nat.succ_mul]; omega]
def byt (n : Int) : UInt8 := UInt8.ofNat n.toNat
theorem nums8_map (l : List Int) : nums8 (l.map (Value.int .u8)) = some (l.map byt) := by
  induction l with
  | nil => rfl
  | cons a l ih => simp [nums8, ih, byt]
theorem qs_b2s {x : X} {v : Value} {l : List Int} (hx : vl fr x = some v) (hu : US .u8 h.ob l v) : qO (.b2s x) fr h = some (.v (.string (bs (l.map byt)))) := by
  by_cases hn : 0 < l.length
  · obtain ⟨o, off, c, rfl, hc, hr⟩ := hu.sl.at hn
    have := hr 0 l.length (by omega)
    rw [flat_one] at this
    simp only [Nat.add_zero, List.drop_zero] at this
    rw [List.take_of_length_le (by simp)] at this
    simp [qO, hx, this, nums8_map, bs]
  · have : l = [] := List.length_eq_zero_iff.mp (by omega)
    subst this
    cases hu.sl with
    | nil h1 h2 => simp [qO, hx, bs]; rfl
    | @row o off c z all hc hr hs he =>
      have h1 : rd h o off 0 = some [] := by
        simp only [rd, hr]
        rw [sub_of (by simpa using hs)]
        simp
      simp [qO, hx, h1, nums8, bs]
theorem q_ldE {a : X} {v : Value} {j : Nat} {k : IntKind} {l : List Int} {x : Int} (ha : vl fr a = some (pt v j)) (hs : US k h.ob l v) (hj : j < l.length) (he : l.getD j 0 = x) : qO (.load 1 false a) fr h = some (.v (.int k x)) := by
  rw [← he]; exact q_ldU ha hs hj
/-- a slice from its beginning on -/
def upto (v : Value) (n : Nat) : Value := match v with
  | .slice p _ c => .slice p n c
  | v => v
theorem TS.upto {α : Type} {en : α → List Value} {sz : Nat} {ob : Ob} {l : List α} {v : Value} (t : TS en sz ob l v) {n : Nat} (hn : n ≤ l.length) : TS en sz ob (l.take n) (upto v n) := by
  refine ⟨t.wd, ?_⟩
  have hl : (l.take n).length = n := by simp; omega
  rw [hl]
  cases t.sl with
  | nil h1 h2 =>
    have : n = 0 := by omega
    subst this
    exact .nil rfl (by simp)
  | @row o off c z all hc hr hs he =>
    have h0 : n * sz ≤ l.length * sz := Nat.mul_le_mul_right _ hn
    refine .row (by omega) hr (by omega) ?_
    have h1 := flat_take t.wd l n
    rw [h1, ← he, List.take_take]
    congr 1
    omega
theorem q_upto {α : Type} {en : α → List Value} {sz : Nat} {l : List α} {x hi : X} {v : Value} {k : IntKind} {n : Int} (hx : vl fr x = some v) (hi' : vl fr hi = some (.int k n)) (hs : TS en sz h.ob l v) (hn : 0 ≤ n ∧ n ≤ l.length) : qO (.sl sz x none (some hi) none) fr h = some (.v (upto v n.toNat)) := by
  cases hs.sl with
  | nil h1 h2 =>
    have : n = 0 := by omega
    subst this
    simp [qO, hx, hi', oX, capM, bnds, bnd, Am.upto]
  | @row o off c z all hc hr hs he =>
    have h3 : n ≤ (c : Int) := by omega
    simp [qO, hx, hi', oX, capM, bnds, bnd, hn.1, h3, Am.upto]
theorem s_mk2 {n : Nat} {sz bytes : Nat} {z : List Value} {l c : X} {m p : Int} (hl : vl (⟨tm, bx⟩ : Fr) l = some (.int .i64 p)) (hc : vl (⟨tm, bx⟩ : Fr) c = some (.int .i64 m)) (h0 : p ≤ m ∧ 0 ≤ p ∧ m < 9223372036854775808 ∧ (bytes : Int) * m ≤ 281474976710656)
    (hk : ∀ h', NewO h (some (sz, reps z m.toNat)) h' → WI C r K ⟨(n, .v (.slice (some ⟨h.ob.length, 0, none⟩) p.toNat m.toNat)) :: tm, bx⟩ h') : WI C (⟨some n, none, .mk sz bytes z l c⟩ :: r) K (⟨tm, bx⟩ : Fr) h := by
  constructor
  simp only [wIs, wI, wO, hl, hc]
  rw [if_pos h0]
  exact (hk (mkO h sz (reps z m.toNat)) ⟨rfl, rfl⟩).out
theorem s_mk {n : Nat} {sz bytes : Nat} {z : List Value} {l c : X} {m : Int} (hl : vl (⟨tm, bx⟩ : Fr) l = some (.int .i64 m)) (hc : vl (⟨tm, bx⟩ : Fr) c = some (.int .i64 m)) (h0 : 0 ≤ m ∧ m < 9223372036854775808 ∧ (bytes : Int) * m ≤ 281474976710656)
    (hk : ∀ h', NewO h (some (sz, reps z m.toNat)) h' → WI C r K ⟨(n, .v (.slice (some ⟨h.ob.length, 0, none⟩) m.toNat m.toNat)) :: tm, bx⟩ h') : WI C (⟨some n, none, .mk sz bytes z l c⟩ :: r) K (⟨tm, bx⟩ : Fr) h :=
  s_mk2 hl hc ⟨Int.le_refl _, h0.1, h0.2.1, h0.2.2⟩ hk
theorem over_map {k : IntKind} {w : Int} : ∀ {l : List Int} {i : Nat}, i < l.length → over (l.map (Value.int k)) i [.int k w] = some ((l.set i w).map (Value.int k)) := by
  intro l i hi
  simp only [over, List.length_map, List.length_singleton]
  rw [if_pos (by omega)]
  congr 1
  induction l generalizing i with
  | nil => simp at hi
  | cons a l ih =>
    cases i with
    | zero => simp
    | succ i => simpa using ih (i := i) (by simpa using hi)
theorem s_stU {a x : X} {b i : Nat} {k : IntKind} {w : Int} {l : List Int} (ha : vl (⟨tm, bx⟩ : Fr) a = some (.pointer (some ⟨b, i, none⟩))) (hx : vl (⟨tm, bx⟩ : Fr) x = some (.int k w)) (hb : h.bar ≤ b) (ho : UA k h.ob b l) (hi : i < l.length)
    (hk : ∀ h', SetO h b (some (1, (l.set i w).map (Value.int k))) h' → WI C r K (⟨tm, bx⟩ : Fr) h') : WI C (⟨none, none, .store 1 a x⟩ :: r) K (⟨tm, bx⟩ : Fr) h := by
  have hd : ad (⟨tm, bx⟩ : Fr) a = some (.h b i) := by
    simp only [vl] at ha
    simp only [ad]
    split at ha
    · rename_i w hw
      cases ha
      simp [hw]
    · cases ha
  refine s_store hd hx (by rfl) (h' := { h with ob := h.ob.set b (some (1, (l.set i w).map (Value.int k))) }) ?_ (hk _ ⟨rfl, rfl⟩)
  simp only [wr, ho, cl]
  rw [if_pos hb, over_map hi]
theorem s_stW {a x : X} {b i : Nat} (j : Nat) {k : IntKind} {w : Int} (w' : Int) {l : List Int} (ha : vl (⟨tm, bx⟩ : Fr) a = some (.pointer (some ⟨b, i, none⟩))) (hx : vl (⟨tm, bx⟩ : Fr) x = some (.int k w)) (hb : h.bar ≤ b) (ho : UA k h.ob b l) (hi : i = j) (hw : w = w') (hj : j < l.length)
    (hk : ∀ h', SetO h b (some (1, (l.set j w').map (Value.int k))) h' → WI C r K (⟨tm, bx⟩ : Fr) h') : WI C (⟨none, none, .store 1 a x⟩ :: r) K (⟨tm, bx⟩ : Fr) h := by
  subst hi
  subst hw
  exact s_stU ha hx hb ho hj hk
theorem reps_one (v : Value) (n : Nat) : reps [v] n = List.replicate n v := by
  induction n with
  | zero => rfl
  | succ n ih => simp [reps, ih, List.replicate_succ]
theorem reps_U (k : IntKind) (n : Nat) : reps [.int k 0] n = (List.replicate n (0 : Int)).map (Value.int k) := by rw [reps_one]; simp
/-- a loop: an invariant with a measure -/
def SeqL (I : Nat → Fr → AH → Prop) (n : Nat) (Q : Ex → Fr → AH → Prop) : Ex → Fr → AH → Prop := fun e fr h => match e with
  | .normal => ∃ m, m < n ∧ I m fr h
  | e => Q e fr h
theorem loopI (hm : Mono C) {a : AC} (I : Nat → Fr → AH → Prop) (n : Nat) (h0 : I n fr h) (hs : ∀ n fr h, I n fr h → WC C a (SeqL I n Q) fr h) : WC C (.loop a) Q fr h := by
  induction n using Nat.strongRecOn generalizing fr h with
  | ind n ih =>
    refine c_loop hm ⟨wC_mono hm (hs n fr h h0).out fun e fr' h' hq => ?_⟩
    cases e with
    | normal =>
      obtain ⟨m, hlt, hi⟩ := hq
      exact ih m hlt hi
    | exit id => exact hq
    | ret => exact hq
theorem TS.isW {α : Type} {en : α → List Value} {sz : Nat} {ob : Ob} {l : List α} {v : Value} (t : TS en sz ob l v) : isW v = true := by
  cases t.sl <;> rfl
theorem TS.isWu {α : Type} {en : α → List Value} {sz : Nat} {ob : Ob} {l : List α} {v : Value} (t : TS en sz ob l v) (n : Nat) : Am.isW (Am.upto v n) = true := by
  cases t.sl <;> rfl
theorem e_ret1 {np nb : Nat} {c : AC} {n : Nat} {v : Value} {Q : Value → AH → Prop} (hv : vl fr (.t n) = some v) (hw : isW v = true) (hk : Q v h) : endQ ⟨np, nb, c, [.t n]⟩ Q .ret fr h := by
  simp only [endQ, resV, hv, hw, if_true, one]
  exact hk
theorem e_ret2 {np nb : Nat} {c : AC} {n m : Nat} {v w : Value} {Q : Value → AH → Prop} (hv : vl fr (.t n) = some v) (hm : vl fr (.t m) = some w) (h1 : isW v = true) (h2 : isW w = true) (hk : Q (.tuple #[v, w]) h) : endQ ⟨np, nb, c, [.t n, .t m]⟩ Q .ret fr h := by
  simp only [endQ, resV, hv, hm, h1, h2, if_true, one]
  exact hk
theorem s_callB {n f : Nat} {args : List X} {vs : List Value} (hv : vls (⟨tm, bx⟩ : Fr) args = some vs) (hk : ∀ h3 : AH, h3.ob = h.ob → h3.bar = h.ob.length → C f vs (fun v h' => ∀ h2 : AH, h2.ob = h'.ob → h2.bar = h.bar → WI C r K ⟨(n, .v v) :: tm, bx⟩ h2) h3)
    (hm : Mono C) : WI C (⟨some n, none, .call f args true⟩ :: r) K (⟨tm, bx⟩ : Fr) h :=
  s_callb hv (hm.m (hk { h with bar := h.ob.length } rfl rfl) fun v h' hw => hw { h' with bar := h.bar } rfl rfl) hm
theorem Ext.br {h h3 h1 h2 : AH} (o3 : h3.ob = h.ob) (e1 : Ext h3 h1) (o2 : h2.ob = h1.ob) (b2 : h2.bar = h.bar) : Ext h h2 :=
  ⟨b2, by rw [o2, ← o3]; exact e1.len, fun o ho => by rw [o2, e1.old o (by rw [o3]; exact ho), o3]⟩
theorem AH.same {a b : AH} (h1 : a.ob = b.ob) (h2 : a.bar = b.bar) : a = b := by
  cases a; cases b; cases h1; cases h2; rfl
theorem YCi {P : Program} {B0 f : Nat} {args : List Value} {Q : Value → AH → Prop} (hy : YC P B0 f args Q h) : YC P B0 f args Q h := hy
/-- only one way out, and what holds there -/
def OnlyN (M : Fr → AH → Prop) : Ex → Fr → AH → Prop := fun e fr h => match e with
  | .normal => M fr h
  | _ => False
theorem q_only {M : Fr → AH → Prop} (hM : M fr h) : OnlyN M .normal fr h := hM
theorem c_cut (hm : Mono C) (M : Fr → AH → Prop) {id : Nat} {a b : AC} (h1 : WC C a (BlkQ id (OnlyN M)) fr h) (h2 : ∀ fr h, M fr h → WC C b Q fr h) : WC C a (BlkQ id (SeqQ C b Q)) fr h := by
  refine ⟨wC_mono hm h1.out fun e fr h hq => ?_⟩
  cases e with
  | normal => exact h2 _ _ hq
  | exit i =>
    simp only [BlkQ] at hq ⊢
    split
    · rename_i hi; rw [if_pos hi] at hq; exact h2 _ _ hq
    · rename_i hi; rw [if_neg hi] at hq; exact hq.elim
  | ret => exact False.elim hq
theorem q_seql {I : Nat → Fr → AH → Prop} {n m : Nat} (hm : m < n) (hi : I m fr h) : SeqL I n Q .normal fr h := ⟨m, hm, hi⟩
theorem q_seqlx {I : Nat → Fr → AH → Prop} {n i : Nat} (hk : Q (.exit i) fr h) : SeqL I n Q (.exit i) fr h := hk
theorem q_seqlr {I : Nat → Fr → AH → Prop} {n : Nat} (hk : Q .ret fr h) : SeqL I n Q .ret fr h := hk
end
theorem bpx {t : Bool} {p : Prop} (h : BP t p := by first | with_reducible exact BP.dec | with_reducible exact BP.eqI | with_reducible exact BP.neI | with_reducible exact BP.not BP.dec | with_reducible exact BP.not BP.eqI | exact BP.str | exact BP.not BP.str | with_reducible exact BP.tt | with_reducible exact BP.ff | with_reducible exact BP.var) : BP t p := h
theorem hhx {p : Prop} (h : p := by first | assumption | omega | exact trivial | exact not_false) : p := h
theorem qx {o : AO} {fr : Fr} {h : AH} {v : TV} (hv : qO o fr h = some v := by first | ((with_reducible apply q_addI); rfl; rfl; (omega)) | ((with_reducible apply q_subI); rfl; rfl; (omega)) | ((with_reducible apply q_mulI); rfl; rfl; (omega)) | ((with_reducible apply q_quoI); rfl; rfl; (omega); (omega)) | ((with_reducible apply q_remI); rfl; rfl; (omega); (omega)) | ((with_reducible apply q_addL); rfl; rfl; (omega)) | ((with_reducible apply q_subL); rfl; rfl; (omega)) | ((with_reducible apply q_mulL); rfl; rfl; (omega)) | ((with_reducible apply q_quoL); rfl; rfl; (omega); (omega)) | ((with_reducible apply q_addU); rfl; rfl) | ((with_reducible apply q_shr32); rfl; rfl) | ((with_reducible apply q_shrN); rfl; rfl; (with_reducible rfl); (simp only [IntKind.bits]; omega)) | ((with_reducible apply q_shlN); rfl; rfl; (with_reducible rfl); (omega); (omega)) | ((with_reducible apply q_shl32); rfl; rfl; (omega)) | ((with_reducible apply q_or32); rfl; rfl; (omega); (omega)) | ((with_reducible apply q_cvU8); rfl) | ((with_reducible apply q_cvL8); rfl) | ((with_reducible apply q_cvI); rfl; (omega)) | ((with_reducible apply q_cvL); rfl; (omega)) | ((with_reducible apply q_cvU); rfl; (omega)) | ((with_reducible apply q_cvUm); rfl) | ((with_reducible apply q_cvB); rfl) | ((with_reducible apply q_e20); rfl) | ((with_reducible apply q_e21); rfl) | ((with_reducible apply q_e30); rfl) | ((with_reducible apply q_e31); rfl) | ((with_reducible apply q_e32); rfl) | ((with_reducible apply qs_len); rfl) | ((with_reducible apply qs_ixN); rfl; rfl; (with_reducible rfl); (omega)) | ((with_reducible apply qs_ix); rfl; rfl; (omega); (omega)) | ((with_reducible apply qs_from); rfl; rfl; (with_reducible rfl); (omega)) | ((with_reducible apply q_lenT); rfl; (first | assumption | exact TS.ext (by assumption) (by assumption))) | ((with_reducible apply q_iaN); rfl; rfl; (with_reducible rfl); (first | assumption | exact TS.ext (by assumption) (by assumption)); (omega)) | ((with_reducible apply q_iaU); rfl; rfl; (first | assumption | exact TS.ext (by assumption) (by assumption)); (omega)) | ((with_reducible apply q_iaT); rfl; rfl; (first | assumption | exact TS.ext (by assumption) (by assumption)); (omega)) | ((with_reducible apply q_ldU); rfl; (first | assumption | exact TS.ext (by assumption) (by assumption)); (omega)) | ((with_reducible apply q_ldT); rfl; (first | assumption | exact TS.ext (by assumption) (by assumption)); (assumption); rfl) | ((with_reducible apply q_faT); rfl; (first | assumption | exact TS.ext (by assumption) (by assumption)); (assumption)) | ((with_reducible apply q_ldF); rfl; (first | assumption | exact TS.ext (by assumption) (by assumption)); (assumption); (omega); rfl) | ((with_reducible apply q_upto); rfl; rfl; (first | assumption | exact TS.ext (by assumption) (by assumption)); (omega)) | ((with_reducible apply qs_b2s); rfl; (first | assumption | exact TS.ext (by assumption) (by assumption))) | rfl) : qO o fr h = some v := hv
theorem extx {h h' : AH} (e : Ext h h' := by repeat' first | exact Ext.refl _ | assumption | refine Ext.trans ?_ (by assumption) | refine Ext.trans ?_ (Ext.br (o2 := by assumption) (e1 := by assumption) (o3 := by assumption) (b2 := by assumption))) : Ext h h' := e
theorem iswx {v : Value} (h : isW v = true := by first | rfl | (with_reducible exact TS.isW (by first | assumption | exact TS.ext (by assumption) (by assumption))) | exact TS.isWu (by assumption) _) : isW v = true := h
theorem qq {p q : Prop} (f : q → p := by with_reducible first | exact q_seq | exact q_blk | exact q_blkr | exact q_blkx | exact q_seqlx | exact q_seqlr | exact c_exit | exact q_seqx | exact q_seqr | exact c_seq (YC.m _ _) | exact c_reg | exact c_skip | exact c_ret | exact c_block) (hk : q) : p := f hk
structure Bx (q : Prop) : Prop where
  out : q
theorem ww {p q : Prop} (f : Bx q → p := by intro hk; first | (apply s_pT; rfl; exact bpx; exact hhx; rfl; rfl; exact hk.out) | (apply s_pF; rfl; exact bpx; exact hhx; rfl; rfl; exact hk.out) | (apply s_q; rfl; exact qx; exact hk.out) | ((first | apply s_call (hm := YC.m _ _) | apply s_gU); rfl; exact hk.out) | ((first | apply c_condT | apply s_gTy | apply s_gFy); rfl; exact bpx; exact hhx; exact hk.out) | ((first | apply c_condF | apply s_gTn | apply s_gFn); rfl; exact bpx; exact hhx; exact hk.out) | ((with_reducible apply e_ret); rfl; exact hk.out) | (apply e_ret1; rfl; exact iswx; exact hk.out) | (apply e_ret2; rfl; rfl; exact iswx; exact iswx; exact hk.out)) (hk : q) : p := f ⟨hk⟩
end Am
end Go.Proofs.YtfhlblclcdhbiaaGreatDoor
namespace Go.Proofs.YtfhlblclcdhbiaaGreatDoor
open Go
set_option linter.unusedVariables false
set_option linter.unusedSimpArgs false
namespace Am
/-- the value of limbs -/
def lv : List Int → Int
  | [] => 0
  | x :: xs => x + 4294967296 * lv xs
def InB (l : List Int) : Prop := ∀ x ∈ l, 0 ≤ x ∧ x < 4294967296
def B (n : Nat) : Int := 4294967296 ^ n
theorem B_zero : B 0 = 1 := rfl
theorem B_succ (n : Nat) : B (n + 1) = 4294967296 * B n := by unfold B; rw [Int.pow_succ]; omega
theorem B_add (m n : Nat) : B (m + n) = B m * B n := by unfold B; rw [Int.pow_add]
theorem B_pos (n : Nat) : 0 < B n := by
  induction n with
  | zero => decide
  | succ n ih => rw [B_succ]; omega
theorem InB.nil : InB [] := fun _ h => by cases h
theorem InB.cons {x : Int} {l : List Int} (h0 : 0 ≤ x) (h1 : x < 4294967296) (h : InB l) : InB (x :: l) := by
  intro y hy
  rcases List.mem_cons.mp hy with rfl | hy
  · exact ⟨h0, h1⟩
  · exact h y hy
theorem InB.tail {x : Int} {l : List Int} (h : InB (x :: l)) : InB l := fun y hy => h y (List.mem_cons_of_mem _ hy)
theorem InB.head {x : Int} {l : List Int} (h : InB (x :: l)) : 0 ≤ x ∧ x < 4294967296 := h x List.mem_cons_self
theorem InB.append {a b : List Int} (ha : InB a) (hb : InB b) : InB (a ++ b) := by
  intro y hy
  rcases List.mem_append.mp hy with h | h
  · exact ha y h
  · exact hb y h
theorem InB.left {a b : List Int} (h : InB (a ++ b)) : InB a := fun y hy => h y (List.mem_append_left _ hy)
theorem InB.right {a b : List Int} (h : InB (a ++ b)) : InB b := fun y hy => h y (List.mem_append_right _ hy)
theorem InB.take {l : List Int} (h : InB l) (n : Nat) : InB (l.take n) := fun y hy => h y (List.mem_of_mem_take hy)
theorem InB.drop {l : List Int} (h : InB l) (n : Nat) : InB (l.drop n) := fun y hy => h y (List.mem_of_mem_drop hy)
theorem InB.set {l : List Int} (h : InB l) (n : Nat) {v : Int} (h0 : 0 ≤ v) (h1 : v < 4294967296) : InB (l.set n v) := by
  intro y hy
  rcases List.mem_or_eq_of_mem_set hy with hy | rfl
  · exact h y hy
  · exact ⟨h0, h1⟩
theorem InB.replicate (n : Nat) : InB (List.replicate n 0) := by
  intro y hy
  obtain ⟨_, rfl⟩ := List.mem_replicate.mp hy
  omega
theorem InB.getD {l : List Int} (h : InB l) (n : Nat) : 0 ≤ l.getD n 0 ∧ l.getD n 0 < 4294967296 := by
  rw [List.getD_eq_getElem?_getD]
  by_cases hn : n < l.length
  · rw [List.getElem?_eq_getElem hn]
    exact h _ (List.getElem_mem hn)
  · rw [List.getElem?_eq_none (by omega)]
    simp
theorem lv_nonneg {l : List Int} (h : InB l) : 0 ≤ lv l := by
  induction l with
  | nil => simp [lv]
  | cons x xs ih =>
    have := ih h.tail
    have := h.head
    simp only [lv]
    omega
theorem lv_lt {l : List Int} (h : InB l) : lv l < B l.length := by
  induction l with
  | nil => simp [lv, B]
  | cons x xs ih =>
    have := ih h.tail
    have := h.head
    simp only [lv, List.length_cons, B_succ]
    omega
theorem lv_append (a b : List Int) : lv (a ++ b) = lv a + B a.length * lv b := by
  induction a with
  | nil => simp [lv, B]
  | cons x xs ih =>
    simp only [List.cons_append, lv, List.length_cons, B_succ, ih]
    grind
theorem lv_snoc (a : List Int) (x : Int) : lv (a ++ [x]) = lv a + B a.length * x := by
  rw [lv_append]; simp [lv]
theorem lv_replicate (n : Nat) : lv (List.replicate n 0) = 0 := by
  induction n with
  | zero => rfl
  | succ n ih => rw [List.replicate_succ]; simp [lv, ih]
theorem lv_set {l : List Int} {n : Nat} (hn : n < l.length) (v : Int) : lv (l.set n v) = lv l + B n * (v - l.getD n 0) := by
  induction l generalizing n with
  | nil => simp at hn
  | cons x xs ih =>
    cases n with
    | zero => simp [lv, B]; omega
    | succ n =>
      simp only [List.set_cons_succ, lv, List.getD_cons_succ, B_succ]
      rw [ih (by simpa using hn)]
      grind
theorem lv_split (l : List Int) (n : Nat) (hn : n ≤ l.length) : lv l = lv (l.take n) + B n * lv (l.drop n) := by
  have h := lv_append (l.take n) (l.drop n)
  rw [List.take_append_drop, List.length_take, Nat.min_eq_left hn] at h
  exact h
theorem take_succ_getD (l : List Int) (n : Nat) (hn : n < l.length) : l.take (n + 1) = l.take n ++ [l.getD n 0] := by
  rw [List.take_succ_eq_append_getElem hn, List.getD_eq_getElem?_getD, List.getElem?_eq_getElem hn]
  rfl
theorem lv_take_succ (l : List Int) (n : Nat) (hn : n < l.length) : lv (l.take (n + 1)) = lv (l.take n) + B n * l.getD n 0 := by
  rw [take_succ_getD l n hn, lv_snoc, List.length_take, Nat.min_eq_left (by omega)]
theorem lv_drop_succ (l : List Int) (n : Nat) (hn : n < l.length) : lv (l.drop n) = l.getD n 0 + 4294967296 * lv (l.drop (n + 1)) := by
  rw [List.drop_eq_getElem_cons hn, lv, List.getD_eq_getElem?_getD, List.getElem?_eq_getElem hn]
  rfl
/-- no zero at the end -/
def Trim (l : List Int) : Prop := ∀ h : l ≠ [], l.getLast h ≠ 0
theorem Trim.nil : Trim [] := fun h => absurd rfl h
theorem Trim.getD {l : List Int} (h : Trim l) (hl : 0 < l.length) : l.getD (l.length - 1) 0 ≠ 0 := by
  have hne : l ≠ [] := by intro e; simp [e] at hl
  have := h hne
  rw [List.getLast_eq_getElem] at this
  rw [List.getD_eq_getElem?_getD, List.getElem?_eq_getElem (by omega)]
  exact this
theorem Trim.of_getD {l : List Int} (h : 0 < l.length → l.getD (l.length - 1) 0 ≠ 0) : Trim l := by
  intro hne
  have hl : 0 < l.length := List.length_pos_iff.mpr hne
  have := h hl
  rw [List.getD_eq_getElem?_getD, List.getElem?_eq_getElem (by omega)] at this
  rw [List.getLast_eq_getElem]
  exact this
theorem Trim.ge {l : List Int} (h : Trim l) (hb : InB l) (hl : 0 < l.length) : B (l.length - 1) ≤ lv l := by
  have h1 := lv_split l (l.length - 1) (by omega)
  have h2 := lv_drop_succ l (l.length - 1) (by omega)
  rw [show l.length - 1 + 1 = l.length from by omega, List.drop_length] at h2
  simp only [lv] at h2
  have h3 := h.getD hl
  have h4 := hb.getD (l.length - 1)
  have h5 := lv_nonneg (hb.take (l.length - 1))
  have h6 : B (l.length - 1) * 1 ≤ B (l.length - 1) * lv (l.drop (l.length - 1)) := Int.mul_le_mul_of_nonneg_left (by omega) (by have := B_pos (l.length - 1); omega)
  omega
theorem B_mono {m n : Nat} (h : m ≤ n) : B m ≤ B n := by
  obtain ⟨k, rfl⟩ := Nat.exists_eq_add_of_le h
  rw [B_add]
  have := B_pos m; have := B_pos k
  have : B m * 1 ≤ B m * B k := Int.mul_le_mul_of_nonneg_left (by omega) (by omega)
  omega
/-- limbs without zeros at the end are one another's equals where their values are -/
theorem length_le_of_lv {a b : List Int} (ha : Trim a) (hab : InB a) (hbb : InB b) (h : lv a ≤ lv b) : a.length ≤ b.length := by
  by_cases hl : 0 < a.length
  · have h1 := ha.ge hab hl
    have h2 := lv_lt hbb
    apply Classical.byContradiction
    intro hn
    have h3 : B b.length ≤ B (a.length - 1) := B_mono (by omega)
    omega
  · omega
theorem lv_inj_len {a b : List Int} (hab : InB a) (hbb : InB b) (hl : a.length = b.length) (h : lv a = lv b) : a = b := by
  induction a generalizing b with
  | nil => cases b with
    | nil => rfl
    | cons _ _ => simp at hl
  | cons x xs ih =>
    cases b with
    | nil => simp at hl
    | cons y ys =>
      simp only [lv] at h
      have h1 := hab.head; have h2 := hbb.head
      have h3 : x = y := by omega
      subst h3
      rw [ih hab.tail hbb.tail (by simpa using hl) (by omega)]
theorem lv_inj {a b : List Int} (ha : Trim a) (hb : Trim b) (hab : InB a) (hbb : InB b) (h : lv a = lv b) : a = b :=
  lv_inj_len hab hbb (Nat.le_antisymm (length_le_of_lv ha hab hbb (by omega)) (length_le_of_lv hb hbb hab (by omega))) h
theorem lv_zero {a : List Int} (ha : Trim a) (hab : InB a) (h : lv a = 0) : a = [] := lv_inj ha Trim.nil hab InB.nil h
theorem lv_pos {a : List Int} (ha : Trim a) (hab : InB a) (h : 0 < a.length) : 0 < lv a := by
  have := ha.ge hab h; have := B_pos (a.length - 1); omega
theorem mul_lt_cancel {a b c : Nat} (h : a * c < b * c) : a < b := by
  exact Nat.lt_of_mul_lt_mul_right h

/-- q ≤ top / d1 -/
theorem guess_ge (B P d1 d0 D2 u0 U2 q top : Nat)
    (hU2 : U2 < P) (hu0 : u0 < B)
    (hq : q * ((d1 * B + d0) * P + D2) ≤ (top * B + u0) * P + U2) : q * d1 ≤ top := by
  have h1 : q * d1 * B * P ≤ q * ((d1 * B + d0) * P + D2) := by
    have : q * ((d1 * B + d0) * P + D2) = q * d1 * B * P + (q * d0 * P + q * D2) := by grind
    omega
  have h2 : (top * B + u0) * P + U2 < (top + 1) * B * P := by
    have e1 : (top + 1) * B * P = top * B * P + B * P := by grind
    have e2 : (top * B + u0) * P = top * B * P + u0 * P := by grind
    have : u0 * P + P ≤ B * P := by
      have : (u0 + 1) * P ≤ B * P := Nat.mul_le_mul_right _ hu0
      grind
    omega
  have h3 : q * d1 * (B * P) < (top + 1) * (B * P) := by
    have : q * d1 * (B * P) = q * d1 * B * P := by grind
    have : (top + 1) * (B * P) = (top + 1) * B * P := by grind
    omega
  have := Nat.lt_of_mul_lt_mul_right h3
  omega

/-- where the test says too great, it is -/
theorem guess_too_great (B P d1 d0 D2 u0 U2 q top g r : Nat) (hU2 : U2 < P)
    (hg : g * d1 + r = top) (ht : r * B + u0 < g * d0)
    (hq : q * ((d1 * B + d0) * P + D2) ≤ (top * B + u0) * P + U2) : q < g := by
  have h1 : top * B + u0 + 1 ≤ g * (d1 * B + d0) := by
    have : g * (d1 * B + d0) = (g * d1) * B + g * d0 := by grind
    have : top * B = (g * d1) * B + r * B := by rw [← hg]; grind
    omega
  have h2 : (top * B + u0) * P + U2 < g * ((d1 * B + d0) * P + D2) := by
    have h3 : (top * B + u0 + 1) * P ≤ g * (d1 * B + d0) * P := Nat.mul_le_mul_right _ h1
    have e1 : (top * B + u0 + 1) * P = (top * B + u0) * P + P := by grind
    have e2 : g * ((d1 * B + d0) * P + D2) = g * (d1 * B + d0) * P + g * D2 := by grind
    omega
  have h4 : q * ((d1 * B + d0) * P + D2) < g * ((d1 * B + d0) * P + D2) := by omega
  exact Nat.lt_of_mul_lt_mul_right h4

/-- behind the loop the guess is too great by at most 1 -/
theorem guess_near (B P d1 d0 D2 u0 U2 top g r : Nat) (hB : 0 < B) (hd1 : 0 < d1)
    (hD2 : D2 < P) (hgB : g ≤ B)
    (hg : g * d1 + r = top) (ht : g * d0 ≤ r * B + u0) :
    g * ((d1 * B + d0) * P + D2) < (top * B + u0) * P + U2 + ((d1 * B + d0) * P + D2) := by
  have h1 : g * (d1 * B + d0) ≤ top * B + u0 := by
    have : g * (d1 * B + d0) = (g * d1) * B + g * d0 := by grind
    have : top * B = (g * d1) * B + r * B := by rw [← hg]; grind
    omega
  have h2 : g * (d1 * B + d0) * P ≤ (top * B + u0) * P := Nat.mul_le_mul_right _ h1
  have e2 : g * ((d1 * B + d0) * P + D2) = g * (d1 * B + d0) * P + g * D2 := by grind
  have h3 : g * D2 ≤ B * D2 := Nat.mul_le_mul_right _ hgB
  have h4 : B * D2 + B ≤ B * P := by
    have : B * (D2 + 1) ≤ B * P := Nat.mul_le_mul_left _ hD2
    grind
  have h5 : B * P ≤ d1 * B * P := by
    have : 1 * (B * P) ≤ d1 * (B * P) := Nat.mul_le_mul_right _ hd1
    grind
  have e3 : (d1 * B + d0) * P = d1 * B * P + d0 * P := by grind
  omega
def li (n : Nat) : List Int := if h : n = 0 then [] else ((n % 4294967296 : Nat) : Int) :: li (n / 4294967296)
theorem li_zero : li 0 = [] := by rw [li]; simp
theorem li_pos {n : Nat} (h : n ≠ 0) : li n = ((n % 4294967296 : Nat) : Int) :: li (n / 4294967296) := by rw [li]; simp [h]
theorem li_in (n : Nat) : InB (li n) := by
  induction n using Nat.strongRecOn with
  | ind n ih =>
    by_cases h : n = 0
    · subst h; rw [li_zero]; exact InB.nil
    · rw [li_pos h]
      exact InB.cons (by omega) (by omega) (ih _ (by omega))
theorem lv_li (n : Nat) : lv (li n) = n := by
  induction n using Nat.strongRecOn with
  | ind n ih =>
    by_cases h : n = 0
    · subst h; rw [li_zero]; rfl
    · rw [li_pos h, lv, ih _ (by omega)]
      omega
theorem li_trim (n : Nat) : Trim (li n) := by
  induction n using Nat.strongRecOn with
  | ind n ih =>
    by_cases h : n = 0
    · subst h; rw [li_zero]; exact Trim.nil
    · rw [li_pos h]
      intro hne
      by_cases h2 : n / 4294967296 = 0
      · have e : li (n / 4294967296) = [] := by rw [h2, li_zero]
        simp only [e, List.getLast_singleton]
        omega
      · have hl : li (n / 4294967296) ≠ [] := by rw [li_pos h2]; simp
        rw [List.getLast_cons hl]
        exact ih _ (by omega) hl
theorem li_of {l : List Int} (hb : InB l) (ht : Trim l) : li (lv l).toNat = l :=
  lv_inj (li_trim _) ht (li_in _) hb (by rw [lv_li]; have := lv_nonneg hb; omega)
theorem li_one : li 1 = [1] := by rw [li_pos (by decide), show 1 / 4294967296 = 0 from rfl, li_zero]; rfl
theorem li_small {n : Nat} (h0 : 0 < n) (h : n < 4294967296) : li n = [(n : Int)] := by
  rw [li_pos (by omega), Nat.div_eq_of_lt h, li_zero, Nat.mod_eq_of_lt h]
theorem li_len {n k : Nat} (h : (n : Int) < B k) : (li n).length ≤ k := by
  by_cases hl : 0 < (li n).length
  · have h1 := (li_trim n).ge (li_in n) hl
    rw [lv_li] at h1
    apply Classical.byContradiction
    intro hn
    have := B_mono (show k ≤ (li n).length - 1 by omega)
    omega
  · omega
theorem li_nil {n : Nat} : li n = [] ↔ n = 0 := by
  constructor
  · intro h
    have := lv_li n
    rw [h] at this
    simp [lv] at this
    omega
  · rintro rfl; exact li_zero
theorem li_inj {m n : Nat} (h : li m = li n) : m = n := by
  have h1 := lv_li m
  have h2 := lv_li n
  rw [h] at h1
  omega
theorem li_lt (n : Nat) : (n : Int) < B (li n).length := by have := lv_lt (li_in n); rwa [lv_li] at this
theorem li_ge {n : Nat} (h : 0 < n) : B ((li n).length - 1) ≤ n := by
  have h0 : 0 < (li n).length := by
    rw [List.length_pos_iff]; intro e; rw [li_nil] at e; omega
  have := (li_trim n).ge (li_in n) h0
  rwa [lv_li] at this
/-- the value of bytes, the least significant first -/
def bvl : List UInt8 → Nat
  | [] => 0
  | b :: l => b.toNat + 256 * bvl l
def bv (l : List UInt8) : Nat := bvl l.reverse
def sbl (n : Nat) : List UInt8 := if h : n = 0 then [] else UInt8.ofNat n :: sbl (n / 256)
def sb (n : Nat) : List UInt8 := (sbl n).reverse
theorem sbl_zero : sbl 0 = [] := by rw [sbl]; simp
theorem sbl_pos {n : Nat} (h : n ≠ 0) : sbl n = UInt8.ofNat n :: sbl (n / 256) := by rw [sbl]; simp [h]
theorem bvl_append (a b : List UInt8) : bvl (a ++ b) = bvl a + 256 ^ a.length * bvl b := by
  induction a with
  | nil => simp [bvl]
  | cons x a ih => simp only [List.cons_append, bvl, ih, List.length_cons, Nat.pow_succ]; grind
theorem bvl_sbl (n : Nat) : bvl (sbl n) = n := by
  induction n using Nat.strongRecOn with
  | ind n ih =>
    by_cases h : n = 0
    · subst h; rw [sbl_zero]; rfl
    · rw [sbl_pos h, bvl, ih _ (by omega)]
      simp
      omega
theorem bv_sb (n : Nat) : bv (sb n) = n := by rw [bv, sb, List.reverse_reverse, bvl_sbl]
theorem bvl_lt (l : List UInt8) : bvl l < 256 ^ l.length := by
  induction l with
  | nil => simp [bvl]
  | cons x l ih =>
    have := x.toNat_lt
    simp only [bvl, List.length_cons, Nat.pow_succ]
    omega
theorem bv_lt (l : List UInt8) : bv l < 256 ^ l.length := by have := bvl_lt l.reverse; simpa [bv] using this
theorem sbl_len {n k : Nat} (h : n < 256 ^ k) : (sbl n).length ≤ k := by
  induction k generalizing n with
  | zero => simp at h; subst h; simp [sbl_zero]
  | succ k ih =>
    by_cases h0 : n = 0
    · subst h0; simp [sbl_zero]
    · rw [sbl_pos h0]
      have : (sbl (n / 256)).length ≤ k := ih (by rw [Nat.pow_succ] at h; omega)
      simpa using this
theorem sb_len {n k : Nat} (h : n < 256 ^ k) : (sb n).length ≤ k := by have := sbl_len h; simpa [sb] using this
/-- no zero in front -/
theorem sbl_last (n : Nat) : ∀ h : sbl n ≠ [], (sbl n).getLast h ≠ 0 := by
  induction n using Nat.strongRecOn with
  | ind n ih =>
    intro h
    by_cases h0 : n = 0
    · subst h0; exact absurd sbl_zero h
    · by_cases h2 : n / 256 = 0
      · have e : sbl n = [UInt8.ofNat n] := by rw [sbl_pos h0, h2, sbl_zero]
        simp only [e, List.getLast_singleton]
        intro hh
        have := congrArg UInt8.toNat hh
        simp at this
        omega
      · have e := sbl_pos h0
        have hl : sbl (n / 256) ≠ [] := by rw [sbl_pos h2]; simp
        simp only [e]
        rw [List.getLast_cons hl]
        exact ih _ (by omega) hl
theorem bvl_zero_of {l : List UInt8} (h : bvl l = 0) : ∀ x ∈ l, x = 0 := by
  induction l with
  | nil => intro x hx; cases hx
  | cons y l ih =>
    simp only [bvl] at h
    intro x hx
    rcases List.mem_cons.mp hx with rfl | hx
    · exact UInt8.toNat_inj.mp (by simp; omega)
    · exact ih (by omega) x hx
theorem sbl_of : ∀ {l : List UInt8}, (∀ h : l ≠ [], l.getLast h ≠ 0) → sbl (bvl l) = l
  | [], _ => sbl_zero
  | x :: l, h => by
    have hx := x.toNat_lt
    have hne : bvl (x :: l) ≠ 0 := by
      intro e
      have := bvl_zero_of e _ (List.getLast_mem (l := x :: l) (by simp))
      exact h (by simp) this
    rw [sbl_pos hne]
    have h1 : bvl (x :: l) / 256 = bvl l := by simp only [bvl]; omega
    have h2 : UInt8.ofNat (bvl (x :: l)) = x := by
      apply UInt8.toNat_inj.mp
      simp [bvl]
    rw [h1, h2, sbl_of]
    intro hl
    have := h (by simp)
    rwa [List.getLast_cons hl] at this
theorem sb_of {l : List UInt8} (h : ∀ x r, l = x :: r → x ≠ 0) : sb (bv l) = l := by
  rw [sb, bv, sbl_of, List.reverse_reverse]
  intro hne
  cases l with
  | nil => simp at hne
  | cons x r => simpa using h x r rfl
theorem bv_cons (x : UInt8) (l : List UInt8) : bv (x :: l) = x.toNat * 256 ^ l.length + bv l := by
  simp only [bv, List.reverse_cons, bvl_append, bvl, List.length_reverse]
  grind
theorem bv_drop (l : List UInt8) : bv (l.dropWhile (· == 0)) = bv l := by
  induction l with
  | nil => rfl
  | cons x l ih =>
    by_cases h : x = 0
    · subst h
      rw [List.dropWhile_cons_of_pos (by rfl), ih, bv_cons]
      simp
    · rw [List.dropWhile_cons_of_neg (by simpa using h)]
/-- the canonical string of a number -/
theorem sb_bv (l : List UInt8) : sb (bv l) = l.dropWhile (· == 0) := by
  rw [← bv_drop, sb_of]
  intro x r he hx
  subst hx
  have := List.head_dropWhile_not (p := fun x : UInt8 => x == 0) (l := l) (by simp [he])
  simp [he] at this
theorem sb_zero : sb 0 = [] := by rw [sb, sbl_zero]; rfl
theorem sb_one : sb 1 = [1] := by rw [sb, sbl_pos (by decide), show 1 / 256 = 0 from rfl, sbl_zero]; rfl
theorem sb_inj {m n : Nat} (h : sb m = sb n) : m = n := by rw [← bv_sb m, h, bv_sb]
theorem sb_nil {n : Nat} : sb n = [] ↔ n = 0 := ⟨fun h => sb_inj (h.trans sb_zero.symm), fun h => by rw [h, sb_zero]⟩
theorem sb_drop (n : Nat) : (sb n).dropWhile (· == 0) = sb n := by rw [← sb_bv, bv_sb]
end Am
end Go.Proofs.YtfhlblclcdhbiaaGreatDoor
namespace Go.Proofs.YtfhlblclcdhbiaaGreatDoor
open Go
set_option linter.unusedVariables false
set_option linter.unusedSimpArgs false
namespace Am
/-- the number that a sign and two natural numbers stand for -/
def rq (neg : Bool) (n d : Nat) : Rat := mkRat (if neg then -(n : Int) else n) d
def strD (d : Nat) : List UInt8 := if d = 1 then [] else sb d
def denN (b : List UInt8) : Nat := if b = [] then 1 else bv b
/-- a number in its valid form -/
def okQ (neg : Bool) (a b : List UInt8) : Prop := sb (bv a) = a ∧ sb (bv b) = b ∧ (if a = [] then neg = false ∧ b = [] else b = [] ∨ (b ≠ [1] ∧ Nat.gcd (bv a) (bv b) = 1))
instance (neg : Bool) (a b : List UInt8) : Decidable (okQ neg a b) := by unfold okQ; infer_instance
/-- what three cells stand for: 0 where they are not valid -/
def dec (neg : Bool) (a b : List UInt8) : Rat := if okQ neg a b then rq neg (bv a) (denN b) else 0
theorem denN_strD {d : Nat} (h : d ≠ 0) : denN (strD d) = d := by
  unfold denN strD
  by_cases h1 : d = 1
  · simp [h1]
  · rw [if_neg h1, if_neg (by rw [sb_nil]; exact h), bv_sb]
theorem natAbs_sgn (neg : Bool) (n : Nat) : (if neg then -(n : Int) else n).natAbs = n := by cases neg <;> simp
theorem rq_num {neg : Bool} {n d : Nat} (hd : d ≠ 0) : (rq neg n d).num = if neg then -((n / Nat.gcd n d : Nat) : Int) else ((n / Nat.gcd n d : Nat) : Int) := by
  unfold rq
  rw [Rat.num_mkRat, if_neg hd, natAbs_sgn, Nat.gcd_comm d n]
  have hg : 0 < Nat.gcd n d := Nat.gcd_pos_of_pos_right _ (Nat.pos_of_ne_zero hd)
  obtain ⟨k, hk⟩ := Nat.gcd_dvd_left n d
  have e : n / Nat.gcd n d = k := by rw [Nat.div_eq_iff_eq_mul_right hg (Nat.gcd_dvd_left n d)]; exact hk
  rw [e]
  cases neg
  · simp only [Bool.false_eq_true, if_false]
    have : ((n : Nat) : Int) / ((Nat.gcd n d : Nat) : Int) = ((n / Nat.gcd n d : Nat) : Int) := by rw [Int.natCast_ediv]
    rw [this, e]
  · simp only [if_true]
    have h1 : (-(n : Int)) = (Nat.gcd n d : Int) * (-(k : Int)) := by
      have : (n : Int) = (Nat.gcd n d : Int) * k := by rw [← Int.natCast_mul, ← hk]
      rw [Int.mul_neg, ← this]
    rw [h1, Int.mul_ediv_cancel_left _ (by omega)]
theorem rq_num_den {neg : Bool} {n d : Nat} (hd : d ≠ 0) : (rq neg n d).num.natAbs = n / Nat.gcd n d ∧ (rq neg n d).den = d / Nat.gcd n d := by
  constructor
  · rw [rq_num hd]; generalize n / Nat.gcd n d = k; cases neg <;> simp
  · unfold rq
    rw [Rat.den_mkRat, if_neg hd, natAbs_sgn, Nat.gcd_comm d n]
theorem rq_neg {neg : Bool} {n d : Nat} (hd : d ≠ 0) (hn : n ≠ 0) : decide ((rq neg n d).num < 0) = neg := by
  have hg : 0 < Nat.gcd n d := Nat.gcd_pos_of_pos_right _ (Nat.pos_of_ne_zero hd)
  have hq : 0 < n / Nat.gcd n d := Nat.div_pos (Nat.le_of_dvd (by omega) (Nat.gcd_dvd_left n d)) hg
  rw [rq_num hd]
  cases neg
  · exact decide_eq_false (by simp only [Bool.false_eq_true, if_false]; omega)
  · exact decide_eq_true (by simp only [if_true]; omega)
theorem rq_zero (neg : Bool) (d : Nat) : rq neg 0 d = 0 := by
  by_cases hd : d = 0
  · subst hd; unfold rq; exact Rat.mkRat_zero _
  · rw [← Rat.num_eq_zero, rq_num hd]; cases neg <;> simp
/-- the cells of a number: its sign, its two strings -/
theorem er_rq {neg : Bool} {n d : Nat} (hd : d ≠ 0) (hn : n ≠ 0) :
    decide ((rq neg n d).num < 0) = neg ∧ sb (rq neg n d).num.natAbs = sb (n / Nat.gcd n d) ∧ strD (rq neg n d).den = strD (d / Nat.gcd n d) := by
  have h := rq_num_den (neg := neg) (n := n) hd
  exact ⟨rq_neg hd hn, by rw [h.1], by rw [h.2]⟩
theorem rq_self (q : Rat) : rq (decide (q.num < 0)) q.num.natAbs q.den = q := by
  unfold rq
  have : (if decide (q.num < 0) = true then -(q.num.natAbs : Int) else q.num.natAbs) = q.num := by
    by_cases h : q.num < 0
    · simp [h]; omega
    · simp [h]; omega
  rw [this, Rat.mkRat_self]
/-- the written form of a number is valid and stands for it -/
theorem ok_er (q : Rat) : okQ (decide (q.num < 0)) (sb q.num.natAbs) (strD q.den) := by
  have hd := q.den_nz
  have hr : Nat.gcd q.num.natAbs q.den = 1 := q.reduced
  refine ⟨by rw [bv_sb], ?_, ?_⟩
  · unfold strD
    split
    · exact sb_zero
    · rw [bv_sb]
  · by_cases h0 : q.num.natAbs = 0
    · have h1 : q.den = 1 := by rw [h0, Nat.gcd_zero_left] at hr; exact hr
      rw [if_pos (by rw [sb_nil]; exact h0)]
      exact ⟨decide_eq_false (by omega), by unfold strD; rw [if_pos h1]⟩
    · rw [if_neg (by rw [sb_nil]; exact h0)]
      by_cases h1 : q.den = 1
      · left; unfold strD; rw [if_pos h1]
      · right
        unfold strD
        rw [if_neg h1, bv_sb, bv_sb]
        refine ⟨fun e => h1 ?_, hr⟩
        rw [← sb_one] at e
        exact sb_inj e
theorem dec_er (q : Rat) : dec (decide (q.num < 0)) (sb q.num.natAbs) (strD q.den) = q := by
  unfold dec
  rw [if_pos (ok_er q), bv_sb, denN_strD q.den_nz, rq_self]
/-- a valid form is the form of the number it stands for -/
theorem er_dec {neg : Bool} {a b : List UInt8} (h : okQ neg a b) : decide ((dec neg a b).num < 0) = neg ∧ sb (dec neg a b).num.natAbs = a ∧ strD (dec neg a b).den = b := by
  have h' := h
  unfold dec
  rw [if_pos h']
  obtain ⟨h1, h2, h3⟩ := h
  by_cases ha : a = []
  · rw [if_pos ha] at h3
    obtain ⟨rfl, rfl⟩ := h3
    subst ha
    rw [show bv [] = 0 from rfl, rq_zero]
    exact ⟨by decide, sb_zero, rfl⟩
  · rw [if_neg ha] at h3
    have hn : bv a ≠ 0 := by
      intro e
      rw [e, sb_zero] at h1
      exact ha h1.symm
    by_cases hb : b = []
    · subst hb
      obtain ⟨e1, e2, e3⟩ := er_rq (neg := neg) (d := 1) (by decide) hn
      have hD : denN [] = 1 := rfl
      rw [hD]
      refine ⟨e1, ?_, ?_⟩
      · rw [e2, Nat.gcd_one_right, Nat.div_one, h1]
      · rw [e3, Nat.gcd_one_right]; rfl
    · obtain ⟨hb1, hg⟩ := h3.resolve_left hb
      have hD : denN b = bv b := if_neg hb
      have hd : bv b ≠ 0 := by
        intro e
        rw [e, sb_zero] at h2
        exact hb h2.symm
      obtain ⟨e1, e2, e3⟩ := er_rq (neg := neg) hd hn
      rw [hD]
      refine ⟨e1, ?_, ?_⟩
      · rw [e2, hg, Nat.div_one, h1]
      · rw [e3, hg, Nat.div_one]
        unfold strD
        rw [if_neg, h2]
        intro e
        rw [e, sb_one] at h2
        exact hb1 h2.symm
/-- bounds -/
def Bd (K : Nat) (q : Rat) : Prop := q.num.natAbs < 256 ^ K ∧ q.den < 256 ^ K
theorem Bd.mono {K L : Nat} (h : K ≤ L) {q : Rat} (hb : Bd K q) : Bd L q :=
  ⟨Nat.lt_of_lt_of_le hb.1 (Nat.pow_le_pow_right (by decide) h), Nat.lt_of_lt_of_le hb.2 (Nat.pow_le_pow_right (by decide) h)⟩
theorem Bd.sb {K : Nat} {q : Rat} (hb : Bd K q) : (sb q.num.natAbs).length ≤ K ∧ (strD q.den).length ≤ K := by
  refine ⟨sb_len hb.1, ?_⟩
  unfold strD
  split
  · simp
  · exact sb_len hb.2
theorem Bd.zero {K : Nat} (h : 0 < K) : Bd K 0 := ⟨Nat.pow_pos (by decide), by
  show 1 < 256 ^ K
  have : (256 : Nat) ^ 1 ≤ 256 ^ K := Nat.pow_le_pow_right (by decide) h
  omega⟩
theorem Bd.dec {K : Nat} {neg : Bool} {a b : List UInt8} (h0 : 0 < K) (ha : a.length ≤ K) (hb : b.length ≤ K) : Bd K (dec neg a b) := by
  by_cases h : okQ neg a b
  · obtain ⟨_, e2, e3⟩ := er_dec h
    have h1 : 1 < 256 ^ K := by
      have : (256 : Nat) ^ 1 ≤ 256 ^ K := Nat.pow_le_pow_right (by decide) h0
      omega
    constructor
    · have := bv_lt a
      rw [← e2, bv_sb, e2] at this
      exact Nat.lt_of_lt_of_le this (Nat.pow_le_pow_right (by decide) ha)
    · by_cases hd : (Am.dec neg a b).den = 1
      · rw [hd]; exact h1
      · unfold strD at e3
        rw [if_neg hd] at e3
        have := bv_lt b
        rw [← e3, bv_sb, e3] at this
        exact Nat.lt_of_lt_of_le this (Nat.pow_le_pow_right (by decide) hb)
  · unfold Am.dec
    rw [if_neg h]
    exact Bd.zero h0
theorem Bd.rq {K : Nat} {neg : Bool} {n d : Nat} (hd : d ≠ 0) (h1 : n < 256 ^ K) (h2 : d < 256 ^ K) : Bd K (rq neg n d) := by
  have h := rq_num_den (neg := neg) (n := n) hd
  refine ⟨?_, ?_⟩
  · rw [h.1]; exact Nat.lt_of_le_of_lt (Nat.div_le_self _ _) h1
  · rw [h.2]; exact Nat.lt_of_le_of_lt (Nat.div_le_self _ _) h2
end Am
end Go.Proofs.YtfhlblclcdhbiaaGreatDoor
