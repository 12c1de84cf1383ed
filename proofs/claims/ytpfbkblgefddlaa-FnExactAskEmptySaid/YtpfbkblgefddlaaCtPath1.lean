/- Steps of a set by a letter; the states that are so near. -/
import Derived.Test.YtpfbkblgefddlaaCtReach
import Derived.Test.YtpfbkblgefddlaaCtFar
import Derived.Test.YtpfbkblgefddlaaPlPath
namespace Go.Proofs.Ytpfbkblgefddlaa.Ct
set_option linter.unusedSimpArgs false
set_option linter.unusedVariables false
open Go Go.Proofs Go.Proofs.Ytpfbkblgefddlaa.Av Go.Proofs.Ytpfbkblgefddlaa.Pl

def c_impl_Auto_step : ICode := (.seq (.reg [⟨(some 6), .mv, [(.c (.int .i64 0))], none⟩]) (.seq (.reg [⟨(some 7), .mv, [(.c (.int .i64 0))], none⟩]) (.seq (.seq (.reg [⟨(some 10), .mv, [(.t 0)], none⟩, ⟨(some 11), .nck, [(.t 10)], none⟩, ⟨(some 12), (.fadr 3), [(.t 11)], none⟩, ⟨(some 13), .ld1, [(.t 12)], none⟩, ⟨(some 14), .len, [(.t 13)], none⟩, ⟨(some 15), .mv, [(.c (.int .i64 0))], none⟩]) (.block 0 (.loop (.seq (.reg [⟨(some 16), (.bin .lss), [(.t 15), (.t 14)], none⟩]) (.seq (.cond (.t 16) .skip (.exit 0)) (.seq (.block 1 (.seq (.reg [⟨(some 17), (.iadr 4), [(.t 13), (.t 15)], none⟩, ⟨(some 18), (.ldn 4), [(.t 17)], none⟩, ⟨(some 9), (.alc [(.int .i64 0), (.int .i64 0), (.int .i64 0), (.bool false)]), [], none⟩, ⟨none, (.st 4), [(.t 9), (.t 18)], none⟩]) (.seq (.reg [⟨(some 19), (.fadr 1), [(.t 9)], none⟩, ⟨(some 20), .ld1, [(.t 19)], none⟩, ⟨(some 21), .mv, [(.t 2)], none⟩, ⟨(some 22), (.bin .eql), [(.t 20), (.t 21)], none⟩, ⟨(some 23), .mv, [(.t 22)], none⟩, ⟨(some 24), .mv, [(.t 1)], (some (23, true))⟩, ⟨(some 25), (.fadr 0), [(.t 9)], (some (23, true))⟩, ⟨(some 26), .ld1, [(.t 25)], (some (23, true))⟩, ⟨(some 27), (.call 117), [(.t 24), (.t 26)], (some (23, true))⟩, ⟨(some 28), .pick, [(.t 23), (.t 27), (.c (.bool false))], none⟩]) (.cond (.t 28) (.reg [⟨(some 29), .mv, [(.t 7)], none⟩, ⟨(some 30), (.fadr 2), [(.t 9)], none⟩, ⟨(some 31), .ld1, [(.t 30)], none⟩, ⟨(some 32), (.call 119), [(.t 31)], none⟩, ⟨(some 33), (.bin .or), [(.t 29), (.t 32)], none⟩, ⟨(some 7), .mv, [(.t 33)], none⟩]) .skip)))) (.reg [⟨(some 34), (.bin .add), [(.t 15), (.c (.int .i64 1))], none⟩, ⟨(some 15), .mv, [(.t 34)], none⟩]))))))) (.seq (.reg [⟨(some 35), .mv, [(.t 7)], none⟩, ⟨(some 6), .mv, [(.t 35)], none⟩]) .ret))))
theorem b_impl_Auto_step : Body Try.prog 166 36 c_impl_Auto_step [(.t 6)] := body_mk Try.func166 (by kernel_rfl) (by decide)

def c_spec_l4Next : ICode := (.seq (.reg [⟨(some 3), (.box 4), [(.t 0)], none⟩, ⟨(some 6), .mv, [(.c (.int .i64 0))], none⟩]) (.seq (.reg [⟨(some 7), .mv, [(.c (.int .i64 0))], none⟩]) (.seq (.seq (.reg [⟨(some 8), .mv, [(.c (.int .i64 0))], none⟩]) (.block 0 (.loop (.seq (.seq (.reg [⟨(some 10), .mv, [(.t 8)], none⟩, ⟨(some 11), (.fadr 3), [(.t 3)], none⟩, ⟨(some 12), .ld1, [(.t 11)], none⟩, ⟨(some 13), .len, [(.t 12)], none⟩, ⟨(some 14), (.bin .lss), [(.t 10), (.t 13)], none⟩]) (.cond (.t 14) .skip (.exit 0))) (.seq (.block 1 (.seq (.reg [⟨(some 17), (.fadr 3), [(.t 3)], none⟩, ⟨(some 18), .ld1, [(.t 17)], none⟩, ⟨(some 19), .mv, [(.t 8)], none⟩, ⟨(some 20), (.iadr 4), [(.t 18), (.t 19)], none⟩, ⟨(some 21), (.ldn 4), [(.t 20)], none⟩, ⟨(some 9), (.alc [(.int .i64 0), (.int .i64 0), (.int .i64 0), (.bool false)]), [], none⟩, ⟨none, (.st 4), [(.t 9), (.t 21)], none⟩]) (.seq (.reg [⟨(some 22), (.fadr 1), [(.t 9)], none⟩, ⟨(some 23), .ld1, [(.t 22)], none⟩, ⟨(some 24), .mv, [(.t 2)], none⟩, ⟨(some 25), (.bin .eql), [(.t 23), (.t 24)], none⟩, ⟨(some 26), .mv, [(.t 25)], none⟩, ⟨(some 27), .mv, [(.t 1)], (some (26, true))⟩, ⟨(some 28), (.fadr 0), [(.t 9)], (some (26, true))⟩, ⟨(some 29), .ld1, [(.t 28)], (some (26, true))⟩, ⟨(some 30), (.call 110), [(.t 27), (.t 29)], (some (26, true))⟩, ⟨(some 31), .pick, [(.t 26), (.t 30), (.c (.bool false))], none⟩]) (.cond (.t 31) (.reg [⟨(some 32), .mv, [(.t 7)], none⟩, ⟨(some 33), (.fadr 2), [(.t 9)], none⟩, ⟨(some 34), .ld1, [(.t 33)], none⟩, ⟨(some 35), (.call 112), [(.t 34)], none⟩, ⟨(some 36), (.bin .or), [(.t 32), (.t 35)], none⟩, ⟨(some 7), .mv, [(.t 36)], none⟩]) .skip)))) (.reg [⟨(some 15), .mv, [(.t 8)], none⟩, ⟨(some 16), (.bin .add), [(.t 15), (.c (.int .i64 1))], none⟩, ⟨(some 8), .mv, [(.t 16)], none⟩])))))) (.seq (.reg [⟨(some 37), .mv, [(.t 7)], none⟩, ⟨(some 6), .mv, [(.t 37)], none⟩]) .ret))))
theorem b_spec_l4Next : Body Try.prog 157 38 c_spec_l4Next [(.t 6)] := body_mk Try.func157 (by kernel_rfl) (by decide)

def c_impl_Auto_pathWord_1 : ICode := (.seq (.reg [⟨(some 3), .mv, [(.c (.int .i64 0))], none⟩]) (.seq (.reg [⟨(some 4), .mv, [(.c (.int .i64 0))], none⟩]) (.seq (.seq (.reg [⟨(some 7), .ld1, [(.t 1)], none⟩, ⟨(some 8), .len, [(.t 7)], none⟩, ⟨(some 9), .mv, [(.c (.int .i64 0))], none⟩]) (.block 0 (.loop (.seq (.reg [⟨(some 10), (.bin .lss), [(.t 9), (.t 8)], none⟩]) (.seq (.cond (.t 10) .skip (.exit 0)) (.seq (.block 1 (.seq (.reg [⟨(some 11), .mv, [(.t 9)], none⟩, ⟨(some 12), (.iadr 1), [(.t 7), (.t 9)], none⟩, ⟨(some 13), .ld1, [(.t 12)], none⟩, ⟨(some 5), .mv, [(.t 11)], none⟩, ⟨(some 6), .mv, [(.t 13)], none⟩]) (.seq (.reg [⟨(some 14), .mv, [(.t 6)], none⟩, ⟨(some 15), .mv, [(.t 0)], none⟩, ⟨(some 16), (.bin .eql), [(.t 14), (.t 15)], none⟩]) (.cond (.t 16) (.reg [⟨(some 17), .mv, [(.t 4)], none⟩, ⟨(some 18), .mv, [(.t 5)], none⟩, ⟨(some 19), (.call 119), [(.t 18)], none⟩, ⟨(some 20), (.bin .or), [(.t 17), (.t 19)], none⟩, ⟨(some 4), .mv, [(.t 20)], none⟩]) .skip)))) (.reg [⟨(some 21), (.bin .add), [(.t 9), (.c (.int .i64 1))], none⟩, ⟨(some 9), .mv, [(.t 21)], none⟩]))))))) (.seq (.reg [⟨(some 22), .mv, [(.t 4)], none⟩, ⟨(some 3), .mv, [(.t 22)], none⟩]) .ret))))
theorem b_impl_Auto_pathWord_1 : Body Try.prog 165 23 c_impl_Auto_pathWord_1 [(.t 3)] := body_mk Try.func165 (by kernel_rfl) (by decide)

def c_impl_SetList : ICode := (.seq (.reg [⟨(some 2), .mv, [(.c .snil)], none⟩]) (.seq (.seq (.reg [⟨(some 5), .mv, [(.t 0)], none⟩, ⟨(some 6), (.call 179), [(.t 5)], none⟩, ⟨(some 7), .not, [(.t 6)], none⟩]) (.cond (.t 7) (.seq (.reg [⟨(some 2), .mv, [(.c .snil)], none⟩]) .ret) .skip)) (.seq (.reg [⟨(some 3), .mv, [(.c .snil)], none⟩]) (.seq (.seq (.reg [⟨(some 8), .mv, [(.c (.int .i64 0))], none⟩]) (.block 0 (.loop (.seq (.reg [⟨(some 9), (.bin .lss), [(.t 8), (.c (.int .i64 31))], none⟩]) (.seq (.cond (.t 9) .skip (.exit 0)) (.seq (.block 1 (.seq (.reg [⟨(some 10), .mv, [(.t 8)], none⟩, ⟨(some 4), .mv, [(.t 10)], none⟩]) (.seq (.reg [⟨(some 11), .mv, [(.t 0)], none⟩, ⟨(some 12), .mv, [(.t 4)], none⟩, ⟨(some 13), (.call 117), [(.t 11), (.t 12)], none⟩]) (.cond (.t 13) (.reg [⟨(some 14), .mv, [(.t 3)], none⟩, ⟨(some 15), .mv, [(.t 4)], none⟩, ⟨(some 16), (.bslv 1), [(.t 15)], none⟩, ⟨(some 17), (.app 1 8), [(.t 14), (.t 16)], none⟩, ⟨(some 3), .mv, [(.t 17)], none⟩]) .skip)))) (.reg [⟨(some 18), (.bin .add), [(.t 8), (.c (.int .i64 1))], none⟩, ⟨(some 8), .mv, [(.t 18)], none⟩]))))))) (.seq (.reg [⟨(some 19), .mv, [(.t 3)], none⟩, ⟨(some 2), .mv, [(.t 19)], none⟩]) .ret)))))
theorem b_impl_SetList : Body Try.prog 127 20 c_impl_SetList [(.t 2)] := body_mk Try.func127 (by kernel_rfl) (by decide)

def c_spec_l7Near : ICode := (.seq (.reg [⟨(some 4), .mv, [(.c (.int .i64 0))], none⟩, ⟨(some 5), .mv, [(.c (.int .i64 0))], none⟩]) (.seq (.reg [⟨(some 6), .mv, [(.c (.int .i64 (-1)))], none⟩, ⟨(some 7), .mv, [(.c (.int .i64 0))], none⟩]) (.seq (.seq (.reg [⟨(some 8), .mv, [(.c (.int .i64 0))], none⟩]) (.block 0 (.loop (.seq (.seq (.reg [⟨(some 9), .mv, [(.t 8)], none⟩, ⟨(some 10), .mv, [(.t 0)], none⟩, ⟨(some 11), .len, [(.t 10)], none⟩, ⟨(some 12), (.bin .lss), [(.t 9), (.t 11)], none⟩]) (.cond (.t 12) .skip (.exit 0))) (.seq (.block 1 (.seq (.seq (.reg [⟨(some 15), .mv, [(.t 1)], none⟩, ⟨(some 16), .mv, [(.t 8)], none⟩, ⟨(some 17), (.call 110), [(.t 15), (.t 16)], none⟩, ⟨(some 18), .not, [(.t 17)], none⟩, ⟨(some 19), .mv, [(.t 18)], none⟩, ⟨(some 20), .mv, [(.t 0)], (some (19, false))⟩, ⟨(some 21), .mv, [(.t 8)], (some (19, false))⟩, ⟨(some 22), (.iadr 1), [(.t 20), (.t 21)], (some (19, false))⟩, ⟨(some 23), .ld1, [(.t 22)], (some (19, false))⟩, ⟨(some 24), (.bin .lss), [(.t 23), (.c (.int .i64 0))], (some (19, false))⟩, ⟨(some 25), .pick, [(.t 19), (.c (.bool true)), (.t 24)], none⟩, ⟨(some 26), .mv, [(.t 25)], none⟩, ⟨(some 27), .mv, [(.t 6)], (some (26, false))⟩, ⟨(some 28), (.bin .geq), [(.t 27), (.c (.int .i64 0))], (some (26, false))⟩, ⟨(some 29), .mv, [(.t 28)], (some (26, false))⟩, ⟨(some 30), .mv, [(.t 0)], (some (29, true))⟩, ⟨(some 31), .mv, [(.t 8)], (some (29, true))⟩, ⟨(some 32), (.iadr 1), [(.t 30), (.t 31)], (some (29, true))⟩, ⟨(some 33), .ld1, [(.t 32)], (some (29, true))⟩, ⟨(some 34), .mv, [(.t 6)], (some (29, true))⟩, ⟨(some 35), (.bin .gtr), [(.t 33), (.t 34)], (some (29, true))⟩, ⟨(some 36), .pick, [(.t 29), (.t 35), (.c (.bool false))], (some (26, false))⟩, ⟨(some 37), .pick, [(.t 26), (.c (.bool true)), (.t 36)], none⟩]) (.cond (.t 37) (.exit 1) .skip)) (.seq (.seq (.reg [⟨(some 38), .mv, [(.t 6)], none⟩, ⟨(some 39), (.bin .lss), [(.t 38), (.c (.int .i64 0))], none⟩, ⟨(some 40), .mv, [(.t 39)], none⟩, ⟨(some 41), .mv, [(.t 0)], (some (40, false))⟩, ⟨(some 42), .mv, [(.t 8)], (some (40, false))⟩, ⟨(some 43), (.iadr 1), [(.t 41), (.t 42)], (some (40, false))⟩, ⟨(some 44), .ld1, [(.t 43)], (some (40, false))⟩, ⟨(some 45), .mv, [(.t 6)], (some (40, false))⟩, ⟨(some 46), (.bin .lss), [(.t 44), (.t 45)], (some (40, false))⟩, ⟨(some 47), .pick, [(.t 40), (.c (.bool true)), (.t 46)], none⟩]) (.cond (.t 47) (.seq (.reg [⟨(some 48), .mv, [(.t 0)], none⟩, ⟨(some 49), .mv, [(.t 8)], none⟩, ⟨(some 50), (.iadr 1), [(.t 48), (.t 49)], none⟩, ⟨(some 51), .ld1, [(.t 50)], none⟩, ⟨(some 6), .mv, [(.t 51)], none⟩]) (.reg [⟨(some 7), .mv, [(.c (.int .i64 0))], none⟩])) .skip)) (.reg [⟨(some 52), .mv, [(.t 7)], none⟩, ⟨(some 53), .mv, [(.t 8)], none⟩, ⟨(some 54), (.call 112), [(.t 53)], none⟩, ⟨(some 55), (.bin .or), [(.t 52), (.t 54)], none⟩, ⟨(some 7), .mv, [(.t 55)], none⟩])))) (.reg [⟨(some 13), .mv, [(.t 8)], none⟩, ⟨(some 14), (.bin .add), [(.t 13), (.c (.int .i64 1))], none⟩, ⟨(some 8), .mv, [(.t 14)], none⟩])))))) (.seq (.reg [⟨(some 56), .mv, [(.t 7)], none⟩, ⟨(some 57), .mv, [(.t 6)], none⟩, ⟨(some 4), .mv, [(.t 56)], none⟩, ⟨(some 5), .mv, [(.t 57)], none⟩]) .ret))))
theorem b_spec_l7Near : Body Try.prog 156 58 c_spec_l7Near [(.t 4), (.t 5)] := body_mk Try.func156 (by kernel_rfl) (by decide)


/-- where the first i edges lead to from a set by a letter -/
def stepI (a : AutoD) (X : Nat) (x : Int) : Nat → Nat
  | 0 => 0
  | i + 1 => if (a.edges.getD i default).letter = x ∧ X.testBit (a.edges.getD i default).src.toNat = true then stepI a X x i ||| 2 ^ (a.edges.getD i default).dst.toNat else stepI a X x i
def stepU (a : AutoD) (X : Nat) (x : Int) : Nat := stepI a X x a.edges.length
theorem bit_stepI {a : AutoD} {X q : Nat} {x : Int} : ∀ {i : Nat}, (stepI a X x i).testBit q = true ↔ ∃ j, j < i ∧ (a.edges.getD j default).letter = x ∧ X.testBit (a.edges.getD j default).src.toNat = true ∧ (a.edges.getD j default).dst.toNat = q
  | 0 => by simp [stepI]
  | i + 1 => by
    unfold stepI
    split
    · rename_i h
      rw [testBit_ins, bit_stepI (i := i)]
      constructor
      · rintro (⟨j, h1, h2⟩ | rfl)
        · exact ⟨j, by omega, h2⟩
        · exact ⟨i, by omega, h.1, h.2, rfl⟩
      · rintro ⟨j, h1, h2, h3, h4⟩
        by_cases hj : j = i
        · subst hj; exact .inr h4.symm
        · exact .inl ⟨j, by omega, h2, h3, h4⟩
    · rename_i h
      rw [bit_stepI (i := i)]
      constructor
      · rintro ⟨j, h1, h2⟩; exact ⟨j, by omega, h2⟩
      · rintro ⟨j, h1, h2, h3, h4⟩
        by_cases hj : j = i
        · subst hj; exact absurd ⟨h2, h3⟩ h
        · exact ⟨j, by omega, h2, h3, h4⟩
theorem stepI_lt {a : AutoD} (h : AutoOk a) {X i : Nat} {x : Int} (hi : i ≤ a.edges.length) : stepI a X x i < 2 ^ a.states.toNat := lt_two_pow_of fun q hq => by
  obtain ⟨j, h1, _, _, h4⟩ := bit_stepI.1 hq
  have he := edge_in h (show j < a.edges.length by omega)
  unfold EdgeIn at he
  omega
theorem stepI_31 {a : AutoD} (h : AutoOk a) {X i : Nat} {x : Int} (hi : i ≤ a.edges.length) : stepI a X x i < 2 ^ 31 :=
  Nat.lt_of_lt_of_le (stepI_lt h hi) (pow_le31 (by have := h.1.2.1; omega))
theorem stepI_yes {a : AutoD} {X i : Nat} {x : Int} (h1 : (a.edges.getD i default).letter = x) (h2 : X.testBit (a.edges.getD i default).src.toNat = true) : stepI a X x (i + 1) = stepI a X x i ||| 2 ^ (a.edges.getD i default).dst.toNat := by
  rw [stepI, if_pos ⟨h1, h2⟩]
theorem stepI_no {a : AutoD} {X i : Nat} {x : Int} (h : ¬ ((a.edges.getD i default).letter = x ∧ X.testBit (a.edges.getD i default).src.toNat = true)) : stepI a X x (i + 1) = stepI a X x i := by
  rw [stepI, if_neg h]

def RStep (xs : List AV) (r : AV) (objs : List AObj) : Prop := ∃ (a : AutoD) (X : Nat) (x : Int), xs = [.rptr (autoRow a) 0, .int .i64 ((X : Nat) : Int), .int .i64 x] ∧ AutoOk a ∧ X < 2 ^ 31 ∧ r = .int .i64 ((stepU a X x : Nat) : Int) ∧ objs = []
theorem RStep_eq {xs : List AV} {a : AutoD} {X : Nat} {x : Int} (hx : xs = [.rptr (autoRow a) 0, .int .i64 ((X : Nat) : Int), .int .i64 x]) (h : AutoOk a) (h1 : X < 2 ^ 31) : RStep xs (.int .i64 ((stepU a X x : Nat) : Int)) [] := ⟨a, X, x, hx, h, h1, rfl, rfl⟩

set_option maxHeartbeats 4000000 in
theorem s_impl_step : PureSound Try.prog 166 RStep := by
  have hR : Rely Try.prog (ctxOf [(117, .pure RHas), (119, .pure RBit)]) := rely_cons b_impl_has.has s_impl_has (rely_cons b_impl_only.has s_impl_onlyB (rely_nil mixed))
  refine pure_of_aw b_impl_Auto_step ?_
  rintro xs r objs ⟨a, X, x, rfl, ha, hX, rfl, rfl⟩ -
  have hs := ha.1.2.1
  have hle := length_edgeRows a.edges
  have hl := ha.2.1
  refine ⟨by simp, vc2_sound hR _ _ _ _ _ ?_⟩
  conv => whnf
  repeat' ((first
    | contradiction
    | (refine And.intro (fun hb => ?_) (fun hb => ?_) <;> first | contradiction | ((try simp only [SB, reduceCtorEq] at hb); try (exfalso; first | contradiction | omega)))
    | refine And.intro rfl ?_
    | refine ⟨_, IntWalk.i64_in _ (by omega), ?_⟩
    | rw [ints_at (by omega)]
    | rw [ints_at0 (by omega)]
    | rw [ints_at' (by omega) (by omega)]
    | refine And.intro (lens_all rfl) ?_
    | refine And.intro (show _ ≤ _ ∧ (_ + 1) * _ ≤ _ ∧ _ + 1 ≤ _ by first | omega | (simp; omega)) ?_
    | refine And.intro (show 1 * _ ≤ _ ∧ 1 ≤ _ by omega) ?_
    | refine And.intro (by first | omega | (simp; omega) | (show _ ∧ _; simp; done)) ?_
    | fail) <;> conv => whnf)
  refine Lp.intro (α := Nat) (fun i => i ≤ a.edges.length) (fun i => a.edges.length - i) (fun i => [(0, .rptr (autoRow a) 0), (1, .int .i64 X), (2, .int .i64 x), (7, .int .i64 ((stepI a X x i : Nat) : Int)), (13, .val (edgeRows a.edges)), (14, .int .i64 a.edges.length), (15, .int .i64 i)]) (fun _ => []) ?_ ?_
  · refine ⟨0, Nat.zero_le _, [], rfl, rfl, trivial, ?_⟩
    exact ⟨.inl rfl, .inl rfl, .inl rfl, .inl rfl, .inl rfl, .inl (congrArg (fun x : Nat => AV.int .i64 x) hle), .inl rfl, trivial⟩
  intro i hi
  refine vc2_sound hR _ _ _ _ _ ?_
  by_cases hlt : i < a.edges.length
  · have he := edge_in ha hlt
    unfold EdgeIn at he
    have h31 := stepI_31 ha (X := X) (x := x) hi
    conv => whnf
    repeat' ((first
      | contradiction
      | (refine And.intro (fun hb => ?_) (fun hb => ?_) <;> first | contradiction | ((try simp only [SB, reduceCtorEq] at hb); try (exfalso; first | contradiction | omega)))
      | refine And.intro rfl ?_
      | refine ⟨_, IntWalk.i64_in _ (by omega), ?_⟩
      | rw [ints_at (by omega)]
      | rw [ints_at0 (by omega)]
      | rw [ints_at' (by omega) (by omega)]
      | refine And.intro (lens_all rfl) ?_
      | refine And.intro (show _ ≤ _ ∧ (_ + 1) * _ ≤ _ ∧ _ + 1 ≤ _ by first | omega | (simp; omega)) ?_
      | refine And.intro (show 1 * _ ≤ _ ∧ 1 ≤ _ by omega) ?_
      | refine And.intro (by first | omega | (simp; omega) | (show _ ∧ _; simp; done)) ?_
      | rw [edge_at (by omega)]
      | refine ⟨_, _, RHas_mk hX (by omega) (by omega), ?_⟩
      | refine ⟨_, _, RBit_mk (by omega) (by omega), ?_⟩
      | fail) <;> conv => whnf)
    · rename_i g1 g2
      refine ⟨i + 1, hlt, by omega, [], rfl, rfl, trivial, ?_⟩
      exact ⟨.inl rfl, .inl rfl, .inl rfl, .inl (congrArg (AV.int .i64) ((or_bit h31 (by omega) (by omega)).trans (by rw [stepI_yes (by assumption) (by assumption)]))), .inl rfl, .inl rfl, .inl rfl, trivial⟩
    · rename_i g1 g2
      refine ⟨i + 1, hlt, by omega, [], rfl, rfl, trivial, ?_⟩
      exact ⟨.inl rfl, .inl rfl, .inl rfl, .inl (congrArg (fun x : Nat => AV.int .i64 x) (stepI_no (by rintro ⟨_, h⟩; rw [g2] at h; cases h)).symm), .inl rfl, .inl rfl, .inl rfl, trivial⟩
    · refine ⟨i + 1, hlt, by omega, [], rfl, rfl, trivial, ?_⟩
      exact ⟨.inl rfl, .inl rfl, .inl rfl, .inl (congrArg (fun x : Nat => AV.int .i64 x) (stepI_no (by rintro ⟨h, _⟩; contradiction)).symm), .inl rfl, .inl rfl, .inl rfl, trivial⟩
  · conv => whnf
    repeat' ((first
      | contradiction
      | (refine And.intro (fun hb => ?_) (fun hb => ?_) <;> first | contradiction | ((try simp only [SB, reduceCtorEq] at hb); try (exfalso; first | contradiction | omega)))
      | refine And.intro rfl ?_
      | refine ⟨_, IntWalk.i64_in _ (by omega), ?_⟩
      | rw [ints_at (by omega)]
      | rw [ints_at0 (by omega)]
      | rw [ints_at' (by omega) (by omega)]
      | refine And.intro (lens_all rfl) ?_
      | refine And.intro (show _ ≤ _ ∧ (_ + 1) * _ ≤ _ ∧ _ + 1 ≤ _ by first | omega | (simp; omega)) ?_
      | refine And.intro (show 1 * _ ≤ _ ∧ 1 ≤ _ by omega) ?_
      | refine And.intro (by first | omega | (simp; omega) | (show _ ∧ _; simp; done)) ?_
      | fail) <;> conv => whnf)
    obtain rfl : i = a.edges.length := by omega
    refine ⟨.inl rfl, ?_⟩
    conv => whnf
    refine ⟨[], ⟨rfl, trivial⟩, ?_, rfl, rfl⟩
    conv => whnf
    left
    conv => lhs; whnf
    rfl

def RNext (xs : List AV) (r : AV) (objs : List AObj) : Prop := ∃ (a : AutoD) (X : Nat) (x : Int), xs = [.agg (autoRow a), .int .i64 ((X : Nat) : Int), .int .i64 x] ∧ AutoOk a ∧ X < 2 ^ 31 ∧ r = .int .i64 ((stepU a X x : Nat) : Int) ∧ objs = []
theorem RNext_eq {xs : List AV} {a : AutoD} {X : Nat} {x : Int} (hx : xs = [.agg (autoRow a), .int .i64 ((X : Nat) : Int), .int .i64 x]) (h : AutoOk a) (h1 : X < 2 ^ 31) : RNext xs (.int .i64 ((stepU a X x : Nat) : Int)) [] := ⟨a, X, x, hx, h, h1, rfl, rfl⟩

set_option maxHeartbeats 4000000 in
theorem s_spec_l4Next : PureSound Try.prog 157 RNext := by
  have hR : Rely Try.prog (ctxOf [(110, .pure RHas), (112, .pure RBit)]) := rely_cons b_spec_l1Has.has s_spec_l1Has (rely_cons b_spec_l1Bit.has s_spec_l1Bit (rely_nil mixed))
  refine pure_of_aw b_spec_l4Next ?_
  rintro xs r objs ⟨a, X, x, rfl, ha, hX, rfl, rfl⟩ -
  have hs := ha.1.2.1
  have hle := length_edgeRows a.edges
  have hl := ha.2.1
  refine ⟨by simp, vc2_sound hR _ _ _ _ _ ?_⟩
  conv => whnf
  repeat' ((first
    | contradiction
    | (refine And.intro (fun hb => ?_) (fun hb => ?_) <;> first | contradiction | ((try simp only [SB, reduceCtorEq] at hb); try (exfalso; first | contradiction | omega)))
    | refine And.intro rfl ?_
    | refine ⟨_, IntWalk.i64_in _ (by omega), ?_⟩
    | rw [ints_at (by omega)]
    | rw [ints_at0 (by omega)]
    | rw [ints_at' (by omega) (by omega)]
    | refine And.intro (lens_all rfl) ?_
    | refine And.intro (show _ ≤ _ ∧ (_ + 1) * _ ≤ _ ∧ _ + 1 ≤ _ by first | omega | (simp; omega)) ?_
    | refine And.intro (show 1 * _ ≤ _ ∧ 1 ≤ _ by omega) ?_
    | refine And.intro (by first | omega | (simp; omega) | (show _ ∧ _; simp; done)) ?_
    | fail) <;> conv => whnf)
  refine Lp.intro (α := Nat) (fun i => i ≤ a.edges.length) (fun i => a.edges.length - i) (fun i => [(1, .int .i64 X), (2, .int .i64 x), (3, .ptr 0 0 0), (7, .int .i64 ((stepI a X x i : Nat) : Int)), (8, .int .i64 i)]) (fun _ => [some (.box (autoRow a))]) ?_ ?_
  · refine ⟨0, Nat.zero_le _, [some 0], rfl, rfl, And.intro (And.intro (.inl rfl) (And.intro (.inl rfl) (And.intro (.inl rfl) (And.intro (.inl rfl) trivial)))) trivial, ?_⟩
    exact ⟨.inl rfl, .inl rfl, rfl, .inl rfl, .inl rfl, trivial⟩
  intro i hi
  refine vc2_sound hR _ _ _ _ _ ?_
  by_cases hlt : i < a.edges.length
  · have he := edge_in ha hlt
    unfold EdgeIn at he
    have h31 := stepI_31 ha (X := X) (x := x) hi
    conv => whnf
    repeat' ((first
      | contradiction
      | (refine And.intro (fun hb => ?_) (fun hb => ?_) <;> first | contradiction | ((try simp only [SB, reduceCtorEq] at hb); try (exfalso; first | contradiction | omega)))
      | refine And.intro rfl ?_
      | refine ⟨_, IntWalk.i64_in _ (by omega), ?_⟩
      | rw [ints_at (by omega)]
      | rw [ints_at0 (by omega)]
      | rw [ints_at' (by omega) (by omega)]
      | refine And.intro (lens_all rfl) ?_
      | refine And.intro (show _ ≤ _ ∧ (_ + 1) * _ ≤ _ ∧ _ + 1 ≤ _ by first | omega | (simp; omega)) ?_
      | refine And.intro (show 1 * _ ≤ _ ∧ 1 ≤ _ by omega) ?_
      | refine And.intro (by first | omega | (simp; omega) | (show _ ∧ _; simp; done)) ?_
      | rw [edge_at (by omega)]
      | refine ⟨_, _, RHas_mk hX (by omega) (by omega), ?_⟩
      | refine ⟨_, _, RBit_mk (by omega) (by omega), ?_⟩
      | fail) <;> conv => whnf)
    · rename_i g1 g2
      refine ⟨i + 1, hlt, by omega, [some 0], rfl, rfl, And.intro (And.intro (.inl rfl) (And.intro (.inl rfl) (And.intro (.inl rfl) (And.intro (.inl rfl) trivial)))) trivial, ?_⟩
      exact ⟨.inl rfl, .inl rfl, rfl, .inl (congrArg (AV.int .i64) ((or_bit h31 (by omega) (by omega)).trans (by rw [stepI_yes (by assumption) (by assumption)]))), .inl rfl, trivial⟩
    · rename_i g1 g2
      refine ⟨i + 1, hlt, by omega, [some 0], rfl, rfl, And.intro (And.intro (.inl rfl) (And.intro (.inl rfl) (And.intro (.inl rfl) (And.intro (.inl rfl) trivial)))) trivial, ?_⟩
      exact ⟨.inl rfl, .inl rfl, rfl, .inl (congrArg (fun x : Nat => AV.int .i64 x) (stepI_no (by rintro ⟨_, h⟩; rw [g2] at h; cases h)).symm), .inl rfl, trivial⟩
    · refine ⟨i + 1, hlt, by omega, [some 0], rfl, rfl, And.intro (And.intro (.inl rfl) (And.intro (.inl rfl) (And.intro (.inl rfl) (And.intro (.inl rfl) trivial)))) trivial, ?_⟩
      exact ⟨.inl rfl, .inl rfl, rfl, .inl (congrArg (fun x : Nat => AV.int .i64 x) (stepI_no (by rintro ⟨h, _⟩; contradiction)).symm), .inl rfl, trivial⟩
  · conv => whnf
    repeat' ((first
      | contradiction
      | (refine And.intro (fun hb => ?_) (fun hb => ?_) <;> first | contradiction | ((try simp only [SB, reduceCtorEq] at hb); try (exfalso; first | contradiction | omega)))
      | refine And.intro rfl ?_
      | refine ⟨_, IntWalk.i64_in _ (by omega), ?_⟩
      | rw [ints_at (by omega)]
      | rw [ints_at0 (by omega)]
      | rw [ints_at' (by omega) (by omega)]
      | refine And.intro (lens_all rfl) ?_
      | refine And.intro (show _ ≤ _ ∧ (_ + 1) * _ ≤ _ ∧ _ + 1 ≤ _ by first | omega | (simp; omega)) ?_
      | refine And.intro (show 1 * _ ≤ _ ∧ 1 ≤ _ by omega) ?_
      | refine And.intro (by first | omega | (simp; omega) | (show _ ∧ _; simp; done)) ?_
      | fail) <;> conv => whnf)
    obtain rfl : i = a.edges.length := by omega
    refine ⟨.inl rfl, ?_⟩
    conv => whnf
    refine ⟨[], ⟨rfl, trivial⟩, ?_, rfl, rfl⟩
    conv => whnf
    left
    conv => lhs; whnf
    rfl

/-! ### those that are so near -/

def RAtN (xs : List AV) (r : AV) (objs : List AObj) : Prop := ∃ (F : List Int) (n : Int), xs = [.int .i64 n, .rptr [.val (ints F)] 0] ∧ F.length ≤ 31 ∧ r = .int .i64 ((atN F n F.length : Nat) : Int) ∧ objs = []
theorem RAtN_eq {xs : List AV} {F : List Int} {n : Int} (hx : xs = [.int .i64 n, .rptr [.val (ints F)] 0]) (h : F.length ≤ 31) : RAtN xs (.int .i64 ((atN F n F.length : Nat) : Int)) [] := ⟨F, n, hx, h, rfl, rfl⟩
theorem atN_lt {F : List Int} {k : Int} {n : Nat} (h : n ≤ 31) : atN F k n < 2 ^ 31 := Nat.lt_of_lt_of_le bitsOf_lt (pow_le31 h)
theorem atN_yes {F : List Int} {k : Int} {i : Nat} (h : F.getD i 0 = k) : atN F k (i + 1) = atN F k i ||| 2 ^ i := by
  unfold atN; rw [bitsOf, if_pos h]
theorem atN_no {F : List Int} {k : Int} {i : Nat} (h : F.getD i 0 ≠ k) : atN F k (i + 1) = atN F k i := by
  unfold atN; rw [bitsOf, if_neg h]

theorem s_impl_atN : PureSound Try.prog 165 RAtN := by
  have hR : Rely Try.prog (ctxOf [(119, .pure RBit)]) := rely_cons b_impl_only.has s_impl_onlyB (rely_nil mixed)
  refine pure_of_aw b_impl_Auto_pathWord_1 ?_
  rintro xs r objs ⟨F, n, rfl, hF, rfl, rfl⟩ -
  have hle := length_ints F
  refine ⟨by simp, vc2_sound hR _ _ _ _ _ ?_⟩
  conv => whnf
  repeat' ((first
    | contradiction
    | (refine And.intro (fun hb => ?_) (fun hb => ?_) <;> first | contradiction | ((try simp only [SB, reduceCtorEq] at hb); try (exfalso; first | contradiction | omega)))
    | refine And.intro rfl ?_
    | refine ⟨_, IntWalk.i64_in _ (by omega), ?_⟩
    | rw [ints_at (by omega)]
    | rw [ints_at0 (by omega)]
    | rw [ints_at' (by omega) (by omega)]
    | refine And.intro (lens_all rfl) ?_
    | refine And.intro (show _ ≤ _ ∧ (_ + 1) * _ ≤ _ ∧ _ + 1 ≤ _ by first | omega | (simp; omega)) ?_
    | refine And.intro (show 1 * _ ≤ _ ∧ 1 ≤ _ by omega) ?_
    | refine And.intro (by first | omega | (simp; omega) | (show _ ∧ _; simp; done)) ?_
    | fail) <;> conv => whnf)
  refine Lp.intro (α := Nat) (fun i => i ≤ F.length) (fun i => F.length - i) (fun i => [(0, .int .i64 n), (4, .int .i64 ((atN F n i : Nat) : Int)), (7, .val (ints F)), (8, .int .i64 F.length), (9, .int .i64 i)]) (fun _ => []) ?_ ?_
  · refine ⟨0, Nat.zero_le _, [], rfl, rfl, trivial, ?_⟩
    exact ⟨.inl rfl, .inl rfl, .inl rfl, .inl (congrArg (fun x : Nat => AV.int .i64 x) hle), .inl rfl, trivial⟩
  intro i hi
  refine vc2_sound hR _ _ _ _ _ ?_
  by_cases hlt : i < F.length
  · have h31 := atN_lt (F := F) (k := n) (n := i) (by omega)
    conv => whnf
    repeat' ((first
      | contradiction
      | (refine And.intro (fun hb => ?_) (fun hb => ?_) <;> first | contradiction | ((try simp only [SB, reduceCtorEq] at hb); try (exfalso; first | contradiction | omega)))
      | refine And.intro rfl ?_
      | refine ⟨_, IntWalk.i64_in _ (by omega), ?_⟩
      | rw [ints_at (by omega)]
      | rw [ints_at0 (by omega)]
      | rw [ints_at' (by omega) (by omega)]
      | refine And.intro (lens_all rfl) ?_
      | refine And.intro (show _ ≤ _ ∧ (_ + 1) * _ ≤ _ ∧ _ + 1 ≤ _ by first | omega | (simp; omega)) ?_
      | refine And.intro (show 1 * _ ≤ _ ∧ 1 ≤ _ by omega) ?_
      | refine And.intro (by first | omega | (simp; omega) | (show _ ∧ _; simp; done)) ?_
      | refine ⟨_, _, RBit_mk (by omega) (by omega), ?_⟩
      | fail) <;> conv => whnf)
    · refine ⟨i + 1, hlt, by omega, [], rfl, rfl, trivial, ?_⟩
      exact ⟨.inl rfl, .inl (congrArg (AV.int .i64) ((or_bit h31 (by omega) (by omega)).trans (by rw [atN_yes (by assumption)]; simp))), .inl rfl, .inl rfl, .inl rfl, trivial⟩
    · refine ⟨i + 1, hlt, by omega, [], rfl, rfl, trivial, ?_⟩
      exact ⟨.inl rfl, .inl (congrArg (fun x : Nat => AV.int .i64 x) (atN_no (by assumption)).symm), .inl rfl, .inl rfl, .inl rfl, trivial⟩
  · conv => whnf
    repeat' ((first
      | contradiction
      | (refine And.intro (fun hb => ?_) (fun hb => ?_) <;> first | contradiction | ((try simp only [SB, reduceCtorEq] at hb); try (exfalso; first | contradiction | omega)))
      | refine And.intro rfl ?_
      | refine ⟨_, IntWalk.i64_in _ (by omega), ?_⟩
      | rw [ints_at (by omega)]
      | rw [ints_at0 (by omega)]
      | rw [ints_at' (by omega) (by omega)]
      | refine And.intro (lens_all rfl) ?_
      | refine And.intro (show _ ≤ _ ∧ (_ + 1) * _ ≤ _ ∧ _ + 1 ≤ _ by first | omega | (simp; omega)) ?_
      | refine And.intro (show 1 * _ ≤ _ ∧ 1 ≤ _ by omega) ?_
      | refine And.intro (by first | omega | (simp; omega) | (show _ ∧ _; simp; done)) ?_
      | fail) <;> conv => whnf)
    obtain rfl : i = F.length := by omega
    refine ⟨.inl rfl, ?_⟩
    conv => whnf
    refine ⟨[], ⟨rfl, trivial⟩, ?_, rfl, rfl⟩
    conv => whnf
    left
    conv => lhs; whnf

/-! ### the members of a set, as a list -/

def RSetList (xs : List AV) (r : AV) (objs : List AObj) : Prop := ∃ X : Nat, xs = [.int .i64 ((X : Nat) : Int)] ∧ X < 2 ^ 31 ∧ r = .ref 0 0 (bitL X 31).length ∧ objs = [.arr 1 (ints (natsI (bitL X 31)))]
theorem RSetList_mk {X : Nat} (h : X < 2 ^ 31) : RSetList [.int .i64 ((X : Nat) : Int)] (.ref 0 0 (bitL X 31).length) [.arr 1 (ints (natsI (bitL X 31)))] := ⟨X, rfl, h, rfl, rfl⟩
theorem bitL_yes {X i : Nat} (h : X.testBit i = true) : bitL X (i + 1) = bitL X i ++ [i] := by rw [bitL_succ, if_pos h]
theorem bitL_no {X i : Nat} (h : X.testBit i = false) : bitL X (i + 1) = bitL X i := by rw [bitL_succ, if_neg (by rw [h]; decide), List.append_nil]

theorem s_impl_SetList : PureSound Try.prog 127 RSetList := by
  have hR : Rely Try.prog (ctxOf [(117, .pure RHas), (179, .pure RSetOk)]) := rely_cons b_impl_has.has s_impl_has (rely_cons b_impl_SetOk.has s_impl_SetOk (rely_nil mixed))
  refine pure_of_aw b_impl_SetList ?_
  rintro xs r objs ⟨X, rfl, hX, rfl, rfl⟩ -
  refine ⟨by simp, vc2_sound hR _ _ _ _ _ ?_⟩
  conv => whnf
  repeat' ((first
    | contradiction
    | (refine And.intro (fun hb => ?_) (fun hb => ?_) <;> first | contradiction | ((try simp only [SB, reduceCtorEq] at hb); try (exfalso; first | contradiction | omega)))
    | refine And.intro rfl ?_
    | refine ⟨_, IntWalk.i64_in _ (by omega), ?_⟩
    | rw [ints_at (by omega)]
    | rw [ints_at0 (by omega)]
    | rw [ints_at' (by omega) (by omega)]
    | refine And.intro (lens_all rfl) ?_
    | refine And.intro (show _ ≤ _ ∧ (_ + 1) * _ ≤ _ ∧ _ + 1 ≤ _ by first | omega | (simp; omega)) ?_
    | refine And.intro (show 1 * _ ≤ _ ∧ 1 ≤ _ by omega) ?_
    | refine And.intro (by first | omega | (simp; omega) | (show _ ∧ _; simp; done)) ?_
    | refine ⟨_, _, RSetOk_mk, ?_⟩
    | fail) <;> conv => whnf)
  refine Lp.intro (α := Nat) (fun i => i ≤ 31) (fun i => 31 - i) (fun i => [(0, .int .i64 X), (3, .ref 0 0 (bitL X i).length), (8, .int .i64 i)]) (fun i => [some (.arr 1 (ints (natsI (bitL X i))))]) ?_ ?_
  · refine ⟨0, by omega, [none], rfl, rfl, And.intro rfl trivial, ?_⟩
    exact ⟨.inl rfl, ⟨rfl, rfl, rfl⟩, .inl rfl, trivial⟩
  intro i hi
  have hn := bitL_len (X := X) (n := i)
  have hqi := (length_ints (natsI (bitL X i))).trans (length_natsI _)
  refine vc2_sound hR _ _ _ _ _ ?_
  by_cases hlt : i < 31
  · conv => whnf
    repeat' ((first
      | contradiction
      | (refine And.intro (fun hb => ?_) (fun hb => ?_) <;> first | contradiction | ((try simp only [SB, reduceCtorEq] at hb); try (exfalso; first | contradiction | omega)))
      | refine And.intro rfl ?_
      | refine ⟨_, IntWalk.i64_in _ (by omega), ?_⟩
      | rw [ints_at (by omega)]
      | rw [ints_at0 (by omega)]
      | rw [ints_at' (by omega) (by omega)]
      | refine And.intro (lens_all rfl) ?_
      | refine And.intro (show _ ≤ _ ∧ (_ + 1) * _ ≤ _ ∧ _ + 1 ≤ _ by first | omega | (simp; omega)) ?_
      | refine And.intro (show 1 * _ ≤ _ ∧ 1 ≤ _ by omega) ?_
      | refine And.intro (by first | omega | (simp; omega) | (show _ ∧ _; simp; done)) ?_
      | refine ⟨_, _, RHas_mk hX (by omega) (by omega), ?_⟩
      | fail) <;> conv => whnf)
    · refine ⟨i + 1, by omega, by omega, [some 1], rfl, rfl, And.intro (And.intro rfl ?_) trivial, ?_⟩
      · rw [bitL_yes (by assumption)]; exact natsI_app rfl
      · exact ⟨.inl rfl, congrArg (AV.ref 1 0) (by rw [bitL_yes (by assumption)]; simp), .inl rfl, trivial⟩
    · have e := bitL_no (X := X) (i := i) (by assumption)
      refine ⟨i + 1, by omega, by omega, [some 0], rfl, rfl, And.intro (And.intro rfl ?_) trivial, ?_⟩
      · rw [e]
      · exact ⟨.inl rfl, congrArg (AV.ref 0 0) (by rw [e]), .inl rfl, trivial⟩
  · obtain rfl : i = 31 := by omega
    conv => whnf
    repeat' ((first
      | contradiction
      | (refine And.intro (fun hb => ?_) (fun hb => ?_) <;> first | contradiction | ((try simp only [SB, reduceCtorEq] at hb); try (exfalso; first | contradiction | omega)))
      | refine And.intro rfl ?_
      | refine ⟨_, IntWalk.i64_in _ (by omega), ?_⟩
      | rw [ints_at (by omega)]
      | rw [ints_at0 (by omega)]
      | rw [ints_at' (by omega) (by omega)]
      | refine And.intro (lens_all rfl) ?_
      | refine And.intro (show _ ≤ _ ∧ (_ + 1) * _ ≤ _ ∧ _ + 1 ≤ _ by first | omega | (simp; omega)) ?_
      | refine And.intro (show 1 * _ ≤ _ ∧ 1 ≤ _ by omega) ?_
      | refine And.intro (by first | omega | (simp; omega) | (show _ ∧ _; simp; done)) ?_
      | fail) <;> conv => whnf)
    refine ⟨.inl rfl, ?_⟩
    conv => whnf
    exact ⟨[some 0], ⟨rfl, And.intro (And.intro rfl rfl) trivial⟩, rfl, rfl, by simp [AObj.nov, ints_nov]⟩

/-! ### the nearest of a set -/

def RNear (xs : List AV) (r : AV) (objs : List AObj) : Prop := ∃ (F : List Int) (X : Nat), xs = [.val (ints F), .int .i64 ((X : Nat) : Int)] ∧ F.length ≤ 31 ∧ X < 2 ^ 31 ∧
  r = .tup [.int .i64 ((nearN F X (best F (bitL X F.length)) F.length : Nat) : Int), .int .i64 (best F (bitL X F.length))] ∧ objs = []
theorem RNear_eq {xs : List AV} {F : List Int} {X : Nat} (hx : xs = [.val (ints F), .int .i64 ((X : Nat) : Int)]) (h : F.length ≤ 31) (h1 : X < 2 ^ 31) :
    RNear xs (.tup [.int .i64 ((nearN F X (best F (bitL X F.length)) F.length : Nat) : Int), .int .i64 (best F (bitL X F.length))]) [] := ⟨F, X, hx, h, h1, rfl, rfl⟩
theorem nearN_lt {F : List Int} {X : Nat} {k : Int} {n : Nat} (h : n ≤ 31) : nearN F X k n < 2 ^ 31 := Nat.lt_of_lt_of_le bitsOf_lt (pow_le31 h)
theorem nearN_0 {F : List Int} {X : Nat} {k : Int} {n : Nat} (h : k < 0) : nearN F X k n = 0 := bits_ext fun i => by
  unfold nearN
  rw [testBit_bitsOf, Nat.zero_testBit]
  constructor
  · rintro ⟨_, _, h1, _⟩; omega
  · intro h; cases h

set_option maxHeartbeats 4000000 in
theorem s_spec_l7Near : PureSound Try.prog 156 RNear := by
  have hR : Rely Try.prog (ctxOf [(110, .pure RHas), (112, .pure RBit)]) := rely_cons b_spec_l1Has.has s_spec_l1Has (rely_cons b_spec_l1Bit.has s_spec_l1Bit (rely_nil mixed))
  refine pure_of_aw b_spec_l7Near ?_
  rintro xs r objs ⟨F, X, rfl, hF, hX, rfl, rfl⟩ -
  have hle := length_ints F
  refine ⟨by simp, vc2_sound hR _ _ _ _ _ ?_⟩
  conv => whnf
  repeat' ((first
    | contradiction
    | (refine And.intro (fun hb => ?_) (fun hb => ?_) <;> first | contradiction | ((try simp only [SB, reduceCtorEq] at hb); try (exfalso; first | contradiction | omega)))
    | refine And.intro rfl ?_
    | refine ⟨_, IntWalk.i64_in _ (by omega), ?_⟩
    | rw [ints_at (by omega)]
    | rw [ints_at0 (by omega)]
    | rw [ints_at' (by omega) (by omega)]
    | refine And.intro (lens_all rfl) ?_
    | refine And.intro (show _ ≤ _ ∧ (_ + 1) * _ ≤ _ ∧ _ + 1 ≤ _ by first | omega | (simp; omega)) ?_
    | refine And.intro (show 1 * _ ≤ _ ∧ 1 ≤ _ by omega) ?_
    | refine And.intro (by first | omega | (simp; omega) | (show _ ∧ _; simp; done)) ?_
    | fail) <;> conv => whnf)
  refine Lp.intro (α := Nat) (fun i => i ≤ F.length) (fun i => F.length - i) (fun i => [(0, .val (ints F)), (1, .int .i64 X), (6, .int .i64 (best F (bitL X i))), (7, .int .i64 ((nearN F X (best F (bitL X i)) i : Nat) : Int)), (8, .int .i64 i)]) (fun _ => []) ?_ ?_
  · refine ⟨0, Nat.zero_le _, [], rfl, rfl, trivial, ?_⟩
    exact ⟨.inl rfl, .inl rfl, .inl rfl, .inl rfl, .inl rfl, trivial⟩
  intro i hi
  refine vc2_sound hR _ _ _ _ _ ?_
  by_cases hlt : i < F.length
  · have hg := best_ge (F := F) (L := bitL X i)
    have h31 := nearN_lt (F := F) (X := X) (k := best F (bitL X i)) (n := i) (by omega)
    conv => whnf
    repeat' ((first
      | contradiction
      | (refine And.intro (fun hb => ?_) (fun hb => ?_) <;> first | contradiction | ((try simp only [SB, reduceCtorEq] at hb); try (exfalso; first | contradiction | omega)))
      | refine And.intro rfl ?_
      | refine ⟨_, IntWalk.i64_in _ (by omega), ?_⟩
      | rw [ints_at (by omega)]
      | rw [ints_at0 (by omega)]
      | rw [ints_at' (by omega) (by omega)]
      | refine And.intro (lens_all rfl) ?_
      | refine And.intro (show _ ≤ _ ∧ (_ + 1) * _ ≤ _ ∧ _ + 1 ≤ _ by first | omega | (simp; omega)) ?_
      | refine And.intro (show 1 * _ ≤ _ ∧ 1 ≤ _ by omega) ?_
      | refine And.intro (by first | omega | (simp; omega) | (show _ ∧ _; simp; done)) ?_
      | refine ⟨_, _, RHas_mk hX (by omega) (by omega), ?_⟩
      | refine ⟨_, _, RBit_mk (by omega) (by omega), ?_⟩
      | fail) <;> conv => whnf)
    all_goals
      first
      | (obtain ⟨e1, e2⟩ := nearN_none (F := F) (X := X) (n := i) (by first | exact .inr (by omega) | (left; intro h; exact Bool.noConfusion (h.symm.trans (show X.testBit i = false by assumption))))
         rw [e1] at e2
         refine ⟨i + 1, hlt, by omega, [], rfl, rfl, trivial, ?_⟩
         exact ⟨.inl rfl, .inl rfl, .inl (congrArg (AV.int .i64) e1.symm), .inl (congrArg (fun x : Nat => AV.int .i64 x) (by (try dsimp only); rw [e1]; exact e2.symm)), .inl rfl, trivial⟩)
      | (obtain ⟨e1, e2⟩ := nearN_less (F := F) (X := X) (n := i) (by assumption) (by omega) (by omega)
         refine ⟨i + 1, hlt, by omega, [], rfl, rfl, trivial, ?_⟩
         exact ⟨.inl rfl, .inl rfl, .inl (congrArg (AV.int .i64) e1.symm), .inl (congrArg (AV.int .i64) ((or_bit (X := 0) (by decide) (by omega) (by omega)).trans (by (try dsimp only); rw [e2]; simp))), .inl rfl, trivial⟩)
      | (obtain ⟨e1, e2⟩ := nearN_same (F := F) (X := X) (n := i) (by assumption) (by omega) (by omega)
         rw [e1] at e2
         refine ⟨i + 1, hlt, by omega, [], rfl, rfl, trivial, ?_⟩
         exact ⟨.inl rfl, .inl rfl, .inl (congrArg (AV.int .i64) e1.symm), .inl (congrArg (AV.int .i64) ((or_bit h31 (by omega) (by omega)).trans (by (try dsimp only); rw [e1, e2]; simp))), .inl rfl, trivial⟩)
  · conv => whnf
    repeat' ((first
      | contradiction
      | (refine And.intro (fun hb => ?_) (fun hb => ?_) <;> first | contradiction | ((try simp only [SB, reduceCtorEq] at hb); try (exfalso; first | contradiction | omega)))
      | refine And.intro rfl ?_
      | refine ⟨_, IntWalk.i64_in _ (by omega), ?_⟩
      | rw [ints_at (by omega)]
      | rw [ints_at0 (by omega)]
      | rw [ints_at' (by omega) (by omega)]
      | refine And.intro (lens_all rfl) ?_
      | refine And.intro (show _ ≤ _ ∧ (_ + 1) * _ ≤ _ ∧ _ + 1 ≤ _ by first | omega | (simp; omega)) ?_
      | refine And.intro (show 1 * _ ≤ _ ∧ 1 ≤ _ by omega) ?_
      | refine And.intro (by first | omega | (simp; omega) | (show _ ∧ _; simp; done)) ?_
      | fail) <;> conv => whnf)
    obtain rfl : i = F.length := by omega
    refine ⟨.inl rfl, ?_⟩
    conv => whnf
    refine ⟨[], ⟨rfl, trivial⟩, ?_, rfl, rfl⟩
    repeat' (first | exact trivial | refine And.intro ?_ ?_)
    all_goals
      conv => whnf
      left
      conv => lhs; whnf

end Go.Proofs.Ytpfbkblgefddlaa.Ct
