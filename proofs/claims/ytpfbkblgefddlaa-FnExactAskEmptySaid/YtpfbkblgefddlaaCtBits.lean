/- Sets as numbers: plain facts about bits. -/
import Derived.Test.YtpfbkblgefddlaaAvLoop
import Derived.Test.YtpfbkblgefddlaaAvVc2
import Derived.IntWalk
namespace Go.Proofs.Ytpfbkblgefddlaa.Ct
set_option linter.unusedSimpArgs false
set_option linter.unusedVariables false
open Go Go.Proofs Go.Proofs.Ytpfbkblgefddlaa.Av

theorem two_pow_pos (n : Nat) : (1 : Int) ≤ 2 ^ n := by
  have : 0 < 2 ^ n := Nat.two_pow_pos n
  have h : ((2 ^ n : Nat) : Int) = (2 : Int) ^ n := by simp
  rw [← h]; omega

theorem two_pow_mono {m n : Nat} (h : m ≤ n) : (2 : Int) ^ m ≤ 2 ^ n := by
  have := Nat.pow_le_pow_right (n := 2) (by omega) h
  have h1 : ((2 ^ n : Nat) : Int) = (2 : Int) ^ n := by simp
  have h2 : ((2 ^ m : Nat) : Int) = (2 : Int) ^ m := by simp
  rw [← h1, ← h2]; omega

theorem two_pow_62 {n : Nat} (h : n ≤ 62) : (2 : Int) ^ n ≤ 4611686018427387904 := two_pow_mono h
theorem two_pow_31 {n : Nat} (h : n ≤ 31) : (2 : Int) ^ n ≤ 2147483648 := two_pow_mono h
theorem two_pow_30 {n : Nat} (h : n ≤ 30) : (2 : Int) ^ n ≤ 1073741824 := two_pow_mono h

theorem shl_one {s : Int} (h0 : 0 ≤ s) (h1 : s ≤ 62) : IntKind.i64.wrap (1 * 2 ^ (Nat.min s.toNat IntKind.i64.bits)) = 2 ^ s.toNat := by
  have hb : IntKind.i64.bits = 64 := rfl
  have hm : Nat.min s.toNat IntKind.i64.bits = s.toNat := by rw [hb]; exact Nat.min_eq_left (by omega)
  rw [hm]
  have h2 := two_pow_62 (n := s.toNat) (by omega)
  have h3 := two_pow_pos s.toNat
  rw [Int.one_mul]
  exact IntWalk.i64_in _ (by omega)

theorem toNat_ofInt64 {t : Int} (h0 : 0 ≤ t) (h1 : t < 18446744073709551616) : (BitVec.ofInt 64 t).toNat = t.toNat := by
  rw [BitVec.toNat_ofInt]
  congr 1
  exact Int.emod_eq_of_lt h0 (by simpa using h1)

theorem and_val {a b : Int} (ha : 0 ≤ a) (ha' : a ≤ 4611686018427387904) (hb : 0 ≤ b) (hb' : b ≤ 4611686018427387904) :
    IntKind.i64.wrap (BitVec.ofInt IntKind.i64.bits a &&& BitVec.ofInt IntKind.i64.bits b).toNat = ((a.toNat &&& b.toNat : Nat) : Int) := by
  have hbits : IntKind.i64.bits = 64 := rfl
  rw [hbits, BitVec.toNat_and, toNat_ofInt64 ha (by omega), toNat_ofInt64 hb (by omega)]
  have : a.toNat &&& b.toNat ≤ a.toNat := Nat.and_le_left
  exact IntWalk.i64_in _ (by omega)

theorem and_mask {t s : Int} (h0 : 0 ≤ t) (h1 : t ≤ 2147483647) (hs : 0 ≤ s) (hs' : s ≤ 31) :
    IntKind.i64.wrap (BitVec.ofInt IntKind.i64.bits t &&& BitVec.ofInt IntKind.i64.bits (2 ^ s.toNat - 1)).toNat = t % 2 ^ s.toNat := by
  have h2 := two_pow_31 (n := s.toNat) (by omega)
  have h3 := two_pow_pos s.toNat
  rw [and_val h0 (by omega) (by omega) (by omega)]
  have e : ((2 : Int) ^ s.toNat - 1).toNat = 2 ^ s.toNat - 1 := by
    have h : ((2 ^ s.toNat : Nat) : Int) = (2 : Int) ^ s.toNat := by simp
    omega
  rw [e, Nat.and_two_pow_sub_one_eq_mod]
  rw [Int.natCast_emod]
  simp
  rw [Int.max_eq_left h0]

theorem mask_same {t s : Int} (h0 : 0 ≤ t) : t % 2 ^ s.toNat = t ↔ t < 2 ^ s.toNat := by
  have h3 := two_pow_pos s.toNat
  constructor
  · intro h
    have := Int.emod_lt_of_pos t (b := 2 ^ s.toNat) (by omega)
    omega
  · intro h
    exact Int.emod_eq_of_lt h0 h

end Go.Proofs.Ytpfbkblgefddlaa.Ct
