/- Sets as numbers: what has, only, l1Has, l1Bit say. -/
import Derived.Test.YtpfbkblgefddlaaCtShelf2
import Derived.Test.YtpfbkblgefddlaaPlBits
namespace Go.Proofs.Ytpfbkblgefddlaa.Ct
set_option linter.unusedSimpArgs false
set_option linter.unusedVariables false
open Go Go.Proofs Go.Proofs.Ytpfbkblgefddlaa.Av Go.Proofs.Ytpfbkblgefddlaa.Pl

def c_impl_has : ICode := (.seq (.reg [⟨(some 4), .mv, [(.c (.bool false))], none⟩]) (.seq (.reg [⟨(some 5), .mv, [(.t 0)], none⟩, ⟨(some 6), .mv, [(.t 1)], none⟩, ⟨(some 7), (.cvt .u64), [(.t 6)], none⟩, ⟨(some 8), (.bin .shr), [(.t 5), (.t 7)], none⟩, ⟨(some 9), (.bin .and), [(.t 8), (.c (.int .i64 1))], none⟩, ⟨(some 10), (.bin .eql), [(.t 9), (.c (.int .i64 1))], none⟩, ⟨(some 4), .mv, [(.t 10)], none⟩]) .ret))
theorem b_impl_has : Body Try.prog 117 11 c_impl_has [(.t 4)] := body_mk Try.func117 (by kernel_rfl) (by decide)

def c_spec_l1Bit : ICode := (.seq (.reg [⟨(some 2), .mv, [(.c (.int .i64 0))], none⟩]) (.seq (.reg [⟨(some 3), .mv, [(.t 0)], none⟩, ⟨(some 4), (.bin .and), [(.t 3), (.c (.int .i64 31))], none⟩, ⟨(some 5), (.bin .shl), [(.c (.int .i64 1)), (.t 4)], none⟩, ⟨(some 2), .mv, [(.t 5)], none⟩]) .ret))
theorem b_spec_l1Bit : Body Try.prog 112 6 c_spec_l1Bit [(.t 2)] := body_mk Try.func112 (by kernel_rfl) (by decide)

def c_spec_l1Has : ICode := (.seq (.reg [⟨(some 4), .mv, [(.c (.bool false))], none⟩]) (.seq (.reg [⟨(some 5), .mv, [(.t 1)], none⟩, ⟨(some 6), (.call 69), [(.t 5), (.c (.int .i64 0)), (.c (.int .i64 30))], none⟩, ⟨(some 7), .mv, [(.t 6)], none⟩, ⟨(some 8), .mv, [(.t 0)], (some (7, true))⟩, ⟨(some 9), .mv, [(.t 1)], (some (7, true))⟩, ⟨(some 10), (.call 112), [(.t 9)], (some (7, true))⟩, ⟨(some 11), (.bin .and), [(.t 8), (.t 10)], (some (7, true))⟩, ⟨(some 12), (.bin .neq), [(.t 11), (.c (.int .i64 0))], (some (7, true))⟩, ⟨(some 13), .pick, [(.t 7), (.t 12), (.c (.bool false))], none⟩, ⟨(some 4), .mv, [(.t 13)], none⟩]) .ret))
theorem b_spec_l1Has : Body Try.prog 110 14 c_spec_l1Has [(.t 4)] := body_mk Try.func110 (by kernel_rfl) (by decide)


theorem natPow (k : Nat) : ((2 ^ k : Nat) : Int) = (2 : Int) ^ k := by simp
theorem natPowI {i : Int} (h : 0 ≤ i) : (2 : Int) ^ i.toNat = ((2 ^ i.toNat : Nat) : Int) := (natPow _).symm

theorem shr_bit {X : Nat} {i : Int} (hX : X ≤ 4611686018427387904) (h0 : 0 ≤ i) (h1 : i ≤ 62) :
    (IntKind.i64.wrap (BitVec.ofInt IntKind.i64.bits (((X : Nat) : Int).fdiv (2 ^ (Nat.min i.toNat IntKind.i64.bits))) &&& BitVec.ofInt IntKind.i64.bits 1).toNat == 1) = X.testBit i.toNat := by
  have hm : Nat.min i.toNat IntKind.i64.bits = i.toNat := Nat.min_eq_left (show i.toNat ≤ 64 by omega)
  have hd : ((X : Nat) : Int).fdiv (2 ^ i.toNat) = ((X / 2 ^ i.toNat : Nat) : Int) := by
    rw [← natPow, Int.fdiv_eq_ediv_of_nonneg _ (Int.natCast_nonneg _), Int.natCast_ediv]
  have hle : X / 2 ^ i.toNat ≤ X := Nat.div_le_self _ _
  rw [hm, hd, and_val (Int.natCast_nonneg _) (Int.ofNat_le.2 (Nat.le_trans hle hX)) (by decide) (by decide)]
  rw [Nat.testBit, Nat.shiftRight_eq_div_pow, Int.toNat_natCast, show (1 : Int).toNat = 1 from rfl, Nat.one_and_eq_mod_two, Nat.and_one_is_mod]
  have := Nat.mod_lt (X / 2 ^ i.toNat) (show 0 < 2 by decide)
  rw [Bool.eq_iff_iff, beq_iff_eq, bne_iff_ne]
  omega

def RHas (xs : List AV) (r : AV) (objs : List AObj) : Prop := ∃ (X : Nat) (i : Int), xs = [.int .i64 ((X : Nat) : Int), .int .i64 i] ∧ X < 2 ^ 31 ∧ 0 ≤ i ∧ i ≤ 30 ∧ r = .bool (X.testBit i.toNat) ∧ objs = []
theorem RHas_mk {X : Nat} {i : Int} (h : X < 2 ^ 31) (h0 : 0 ≤ i) (h1 : i ≤ 30) : RHas [.int .i64 ((X : Nat) : Int), .int .i64 i] (.bool (X.testBit i.toNat)) [] := ⟨X, i, rfl, h, h0, h1, rfl, rfl⟩

theorem s_impl_has : PureSound Try.prog 117 RHas := by
  have hR : Rely Try.prog (ctxOf []) := rely_nil mixed
  refine pure_of_aw b_impl_has ?_
  rintro xs r objs ⟨X, i, rfl, hX, h0, h1, rfl, rfl⟩ -
  have hX' : X ≤ 4611686018427387904 := by omega
  rw [← shr_bit hX' h0 (by omega)]
  refine ⟨by simp, vc2_sound hR _ _ _ _ _ ?_⟩
  conv => whnf
  repeat' ((first
    | contradiction
    | (refine And.intro (fun hb => ?_) (fun hb => ?_) <;> first | contradiction | ((try simp only [SB, reduceCtorEq] at hb); try (exfalso; first | contradiction | omega)))
    | refine And.intro rfl ?_
    | refine ⟨_, IntWalk.i64_in _ (by omega), ?_⟩
    | rw [ints_at (by omega)]
    | rw [ints_at0 (by omega)]
    | rw [ints_at' (by omega) (by omega)]
    | refine And.intro (lens_all rfl) ?_
    | refine And.intro (show _ ≤ _ ∧ (_ + 1) * _ ≤ _ ∧ _ + 1 ≤ _ by first | omega | (simp; omega)) ?_
    | refine And.intro (show 1 * _ ≤ _ ∧ 1 ≤ _ by omega) ?_
    | refine And.intro (by first | omega | (simp; omega) | (show _ ∧ _; simp; done)) ?_
    | refine ⟨_, IntWalk.u64_in _ (by omega), ?_⟩
    | fail) <;> conv => whnf)
  all_goals
    refine ⟨.inl rfl, ?_⟩
    conv => whnf
    refine ⟨[], ⟨rfl, trivial⟩, ?_, rfl, rfl⟩
    conv => whnf
    left
    conv => lhs; whnf
    refine congrArg AV.bool ?_
    symm
    first
    | (rw [beq_iff_eq]; assumption)
    | (rw [beq_eq_false_iff_ne]; assumption)

/-- a set of just one -/
def RBit (xs : List AV) (r : AV) (objs : List AObj) : Prop := ∃ i : Int, xs = [.int .i64 i] ∧ 0 ≤ i ∧ i ≤ 30 ∧ r = .int .i64 ((2 ^ i.toNat : Nat) : Int) ∧ objs = []
theorem RBit_mk {i : Int} (h0 : 0 ≤ i) (h1 : i ≤ 30) : RBit [.int .i64 i] (.int .i64 ((2 ^ i.toNat : Nat) : Int)) [] := ⟨i, rfl, h0, h1, rfl, rfl⟩

theorem and31 {i : Int} (h0 : 0 ≤ i) (h1 : i ≤ 31) : IntKind.i64.wrap (BitVec.ofInt IntKind.i64.bits i &&& BitVec.ofInt IntKind.i64.bits 31).toNat = i := by
  rw [and_val h0 (by omega) (by decide) (by decide), show (31 : Int).toNat = 2 ^ 5 - 1 from rfl, Nat.and_two_pow_sub_one_eq_mod, Nat.mod_eq_of_lt (by omega)]
  omega

theorem s_spec_l1Bit : PureSound Try.prog 112 RBit := by
  have hR : Rely Try.prog (ctxOf []) := rely_nil mixed
  refine pure_of_aw b_spec_l1Bit ?_
  rintro xs r objs ⟨i, rfl, h0, h1, rfl, rfl⟩ -
  refine ⟨by simp, vc2_sound hR _ _ _ _ _ ?_⟩
  conv => whnf
  repeat' ((first
    | contradiction
    | (refine And.intro (fun hb => ?_) (fun hb => ?_) <;> first | contradiction | ((try simp only [SB, reduceCtorEq] at hb); try (exfalso; first | contradiction | omega)))
    | refine And.intro rfl ?_
    | refine ⟨_, IntWalk.i64_in _ (by omega), ?_⟩
    | rw [ints_at (by omega)]
    | rw [ints_at0 (by omega)]
    | rw [ints_at' (by omega) (by omega)]
    | refine And.intro (lens_all rfl) ?_
    | refine And.intro (show _ ≤ _ ∧ (_ + 1) * _ ≤ _ ∧ _ + 1 ≤ _ by first | omega | (simp; omega)) ?_
    | refine And.intro (show 1 * _ ≤ _ ∧ 1 ≤ _ by omega) ?_
    | refine And.intro (by first | omega | (simp; omega) | (show _ ∧ _; simp; done)) ?_
    | rw [and31 h0 (by omega)]
    | fail) <;> conv => whnf)
  refine ⟨.inl rfl, ?_⟩
  conv => whnf
  refine ⟨[], ⟨rfl, trivial⟩, ?_, rfl, rfl⟩
  conv => whnf
  left
  conv => lhs; whnf
  refine congrArg (AV.int .i64) ?_
  rw [natPow]
  exact shl_one h0 (by omega)

theorem s_impl_onlyB : PureSound Try.prog 119 RBit := fun w own xs vs r objs hr ⟨i, hx, h0, h1, h2, h3⟩ => s_impl_only w own xs vs r objs hr ⟨i, hx, h0, by omega, by rw [h2, natPow], h3⟩

theorem and_bit {X : Nat} {i : Int} (hX : X < 2 ^ 31) (h0 : 0 ≤ i) (h1 : i ≤ 30) :
    IntKind.i64.wrap (BitVec.ofInt IntKind.i64.bits ((X : Nat) : Int) &&& BitVec.ofInt IntKind.i64.bits ((2 ^ i.toNat : Nat) : Int)).toNat = ((X &&& 2 ^ i.toNat : Nat) : Int) := by
  have h3 : 2 ^ i.toNat ≤ 4611686018427387904 := Nat.le_trans (Nat.pow_le_pow_right (show 0 < 2 by decide) (show i.toNat ≤ 30 by omega)) (by decide)
  rw [and_val (by omega) (by omega) (Int.natCast_nonneg _) (Int.ofNat_le.2 h3), Int.toNat_natCast, Int.toNat_natCast]

theorem and_bit_ne {X i : Nat} : ((X &&& 2 ^ i : Nat) : Int) ≠ 0 ↔ X.testBit i = true := by
  constructor
  · intro h
    cases hb : X.testBit i with
    | true => rfl
    | false =>
      exfalso
      refine h ?_
      have : X &&& 2 ^ i = 0 := Nat.eq_of_testBit_eq fun j => by
        rw [Nat.testBit_and, Nat.testBit_two_pow, Nat.zero_testBit]
        by_cases hij : i = j
        · subst hij; simp [hb]
        · simp [hij]
      omega
  · intro h h0
    have h0 : X &&& 2 ^ i = 0 := by omega
    have : (X &&& 2 ^ i).testBit i = true := by rw [Nat.testBit_and, h, Nat.testBit_two_pow]; simp
    rw [h0, Nat.zero_testBit] at this
    cases this

theorem s_spec_l1Has : PureSound Try.prog 110 RHas := by
  have hR : Rely Try.prog (ctxOf [(69, .pure RIn), (112, .pure RBit)]) := rely_cons b_spec_l1In.has s_spec_l1In (rely_cons b_spec_l1Bit.has s_spec_l1Bit (rely_nil mixed))
  refine pure_of_aw b_spec_l1Has ?_
  rintro xs r objs ⟨X, i, rfl, hX, h0, h1, rfl, rfl⟩ -
  refine ⟨by simp, vc2_sound hR _ _ _ _ _ ?_⟩
  conv => whnf
  repeat' ((first
    | contradiction
    | (refine And.intro (fun hb => ?_) (fun hb => ?_) <;> first | contradiction | ((try simp only [SB, reduceCtorEq] at hb); try (exfalso; first | contradiction | omega)))
    | refine And.intro rfl ?_
    | refine ⟨_, IntWalk.i64_in _ (by omega), ?_⟩
    | rw [ints_at (by omega)]
    | rw [ints_at0 (by omega)]
    | rw [ints_at' (by omega) (by omega)]
    | refine And.intro (lens_all rfl) ?_
    | refine And.intro (show _ ≤ _ ∧ (_ + 1) * _ ≤ _ ∧ _ + 1 ≤ _ by first | omega | (simp; omega)) ?_
    | refine And.intro (show 1 * _ ≤ _ ∧ 1 ≤ _ by omega) ?_
    | refine And.intro (by first | omega | (simp; omega) | (show _ ∧ _; simp; done)) ?_
    | refine ⟨_, _, RIn_mk, ?_⟩
    | refine ⟨_, _, RBit_mk h0 h1, ?_⟩
    | fail) <;> conv => whnf)
  · refine ⟨.inl rfl, ?_⟩
    conv => whnf
    refine ⟨[], ⟨rfl, trivial⟩, ?_, rfl, rfl⟩
    conv => whnf
    left
    conv => lhs; whnf
    refine congrArg AV.bool ?_
    exact (and_bit_ne.1 (by rw [← and_bit hX h0 h1]; assumption)).symm
  · refine ⟨.inl rfl, ?_⟩
    conv => whnf
    refine ⟨[], ⟨rfl, trivial⟩, ?_, rfl, rfl⟩
    conv => whnf
    left
    conv => lhs; whnf
    refine congrArg AV.bool ?_
    symm
    cases hb2 : X.testBit i.toNat with
    | false => rfl
    | true => exact absurd (by rw [← and_bit hX h0 h1]; assumption) (and_bit_ne.2 hb2)

/-- a set with one more -/
theorem or_val {X Y : Nat} (hX : X < 2 ^ 62) (hY : Y < 2 ^ 62) : IntKind.i64.wrap (BitVec.ofInt IntKind.i64.bits ((X : Nat) : Int) ||| BitVec.ofInt IntKind.i64.bits ((Y : Nat) : Int)).toNat = ((X ||| Y : Nat) : Int) := by
  have hbits : IntKind.i64.bits = 64 := rfl
  have h := Nat.or_lt_two_pow hX hY
  rw [hbits, BitVec.toNat_or, toNat_ofInt64 (by omega) (by omega), toNat_ofInt64 (by omega) (by omega)]
  simp only [Int.toNat_natCast]
  exact IntWalk.i64_in _ (by omega)
theorem or_bit {X : Nat} {i : Int} (hX : X < 2 ^ 31) (h0 : 0 ≤ i) (h1 : i ≤ 30) :
    IntKind.i64.wrap (BitVec.ofInt IntKind.i64.bits ((X : Nat) : Int) ||| BitVec.ofInt IntKind.i64.bits ((2 ^ i.toNat : Nat) : Int)).toNat = ((X ||| 2 ^ i.toNat : Nat) : Int) :=
  or_val (by omega) (Nat.pow_lt_pow_right (by decide) (by omega))
theorem and_valN {X Y : Nat} (hX : X < 2 ^ 62) (hY : Y < 2 ^ 62) : IntKind.i64.wrap (BitVec.ofInt IntKind.i64.bits ((X : Nat) : Int) &&& BitVec.ofInt IntKind.i64.bits ((Y : Nat) : Int)).toNat = ((X &&& Y : Nat) : Int) := by
  rw [and_val (by omega) (by omega) (by omega) (by omega)]
  simp

end Go.Proofs.Ytpfbkblgefddlaa.Ct
