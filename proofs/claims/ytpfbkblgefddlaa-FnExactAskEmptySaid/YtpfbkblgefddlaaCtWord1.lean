/- Words: is a number between two, are all of a list letters. -/
import Derived.Test.YtpfbkblgefddlaaProg
import Derived.Test.YtpfbkblgefddlaaAvLoop
import Derived.Test.YtpfbkblgefddlaaAvVc2
import Derived.KernelRfl
import Derived.IntWalk
namespace Go.Proofs.Ytpfbkblgefddlaa.Ct
set_option linter.unusedSimpArgs false
set_option linter.unusedVariables false
open Go Go.Proofs Go.Proofs.Ytpfbkblgefddlaa.Av

theorem mixed : Try.prog.follows .mixedOrders = true := by kernel_rfl

def c_spec_l1In : ICode := (.seq (.reg [⟨(some 6), .mv, [(.c (.bool false))], none⟩]) (.seq (.reg [⟨(some 7), .mv, [(.t 0)], none⟩, ⟨(some 8), .mv, [(.t 1)], none⟩, ⟨(some 9), (.bin .geq), [(.t 7), (.t 8)], none⟩, ⟨(some 10), .mv, [(.t 9)], none⟩, ⟨(some 11), .mv, [(.t 0)], (some (10, true))⟩, ⟨(some 12), .mv, [(.t 2)], (some (10, true))⟩, ⟨(some 13), (.bin .leq), [(.t 11), (.t 12)], (some (10, true))⟩, ⟨(some 14), .pick, [(.t 10), (.t 13), (.c (.bool false))], none⟩, ⟨(some 6), .mv, [(.t 14)], none⟩]) .ret))
theorem b_spec_l1In : Body Try.prog 69 15 c_spec_l1In [(.t 6)] := body_mk Try.func69 (by kernel_rfl) (by decide)

def c_impl_inRange : ICode := (.seq (.reg [⟨(some 6), .mv, [(.c (.bool false))], none⟩]) (.seq (.reg [⟨(some 7), .mv, [(.t 0)], none⟩, ⟨(some 8), .mv, [(.t 1)], none⟩, ⟨(some 9), (.bin .geq), [(.t 7), (.t 8)], none⟩, ⟨(some 10), .mv, [(.t 9)], none⟩, ⟨(some 11), .mv, [(.t 0)], (some (10, true))⟩, ⟨(some 12), .mv, [(.t 2)], (some (10, true))⟩, ⟨(some 13), (.bin .leq), [(.t 11), (.t 12)], (some (10, true))⟩, ⟨(some 14), .pick, [(.t 10), (.t 13), (.c (.bool false))], none⟩, ⟨(some 6), .mv, [(.t 14)], none⟩]) .ret))
theorem b_impl_inRange : Body Try.prog 72 15 c_impl_inRange [(.t 6)] := body_mk Try.func72 (by kernel_rfl) (by decide)

def c_spec_l3Letters : ICode := (.seq (.reg [⟨(some 4), .mv, [(.c (.bool false))], none⟩]) (.seq (.seq (.reg [⟨(some 5), .mv, [(.c (.int .i64 0))], none⟩]) (.block 0 (.loop (.seq (.seq (.reg [⟨(some 6), .mv, [(.t 5)], none⟩, ⟨(some 7), .mv, [(.t 0)], none⟩, ⟨(some 8), .len, [(.t 7)], none⟩, ⟨(some 9), (.bin .lss), [(.t 6), (.t 8)], none⟩]) (.cond (.t 9) .skip (.exit 0))) (.seq (.block 1 (.seq (.reg [⟨(some 12), .mv, [(.t 0)], none⟩, ⟨(some 13), .mv, [(.t 5)], none⟩, ⟨(some 14), (.iadr 1), [(.t 12), (.t 13)], none⟩, ⟨(some 15), .ld1, [(.t 14)], none⟩, ⟨(some 16), .mv, [(.t 1)], none⟩, ⟨(some 17), (.bin .sub), [(.t 16), (.c (.int .i64 1))], none⟩, ⟨(some 18), (.call 69), [(.t 15), (.c (.int .i64 0)), (.t 17)], none⟩, ⟨(some 19), .not, [(.t 18)], none⟩]) (.cond (.t 19) (.seq (.reg [⟨(some 4), .mv, [(.c (.bool false))], none⟩]) .ret) .skip))) (.reg [⟨(some 10), .mv, [(.t 5)], none⟩, ⟨(some 11), (.bin .add), [(.t 10), (.c (.int .i64 1))], none⟩, ⟨(some 5), .mv, [(.t 11)], none⟩])))))) (.seq (.reg [⟨(some 4), .mv, [(.c (.bool true))], none⟩]) .ret)))
theorem b_spec_l3Letters : Body Try.prog 83 20 c_spec_l3Letters [(.t 4)] := body_mk Try.func83 (by kernel_rfl) (by decide)

def c_impl_areLetters : ICode := (.seq (.reg [⟨(some 4), .mv, [(.c (.bool false))], none⟩]) (.seq (.seq (.reg [⟨(some 7), .mv, [(.t 0)], none⟩, ⟨(some 8), .len, [(.t 7)], none⟩, ⟨(some 9), .mv, [(.c (.int .i64 0))], none⟩]) (.block 0 (.loop (.seq (.reg [⟨(some 10), (.bin .lss), [(.t 9), (.t 8)], none⟩]) (.seq (.cond (.t 10) .skip (.exit 0)) (.seq (.block 1 (.seq (.reg [⟨(some 11), (.iadr 1), [(.t 7), (.t 9)], none⟩, ⟨(some 12), .ld1, [(.t 11)], none⟩, ⟨(some 6), .mv, [(.t 12)], none⟩]) (.seq (.reg [⟨(some 13), .mv, [(.t 6)], none⟩, ⟨(some 14), .mv, [(.t 1)], none⟩, ⟨(some 15), (.bin .sub), [(.t 14), (.c (.int .i64 1))], none⟩, ⟨(some 16), (.call 72), [(.t 13), (.c (.int .i64 0)), (.t 15)], none⟩, ⟨(some 17), .not, [(.t 16)], none⟩]) (.cond (.t 17) (.seq (.reg [⟨(some 4), .mv, [(.c (.bool false))], none⟩]) .ret) .skip)))) (.reg [⟨(some 18), (.bin .add), [(.t 9), (.c (.int .i64 1))], none⟩, ⟨(some 9), .mv, [(.t 18)], none⟩]))))))) (.seq (.reg [⟨(some 4), .mv, [(.c (.bool true))], none⟩]) .ret)))
theorem b_impl_areLetters : Body Try.prog 174 19 c_impl_areLetters [(.t 4)] := body_mk Try.func174 (by kernel_rfl) (by decide)

def c_impl_isLetters : ICode := (.seq (.reg [⟨(some 2), .mv, [(.c (.bool false))], none⟩]) (.seq (.reg [⟨(some 3), .mv, [(.t 0)], none⟩, ⟨(some 4), (.call 72), [(.t 3), (.c (.int .i64 1)), (.c (.int .i64 8))], none⟩, ⟨(some 2), .mv, [(.t 4)], none⟩]) .ret))
theorem b_impl_isLetters : Body Try.prog 173 5 c_impl_isLetters [(.t 2)] := body_mk Try.func173 (by kernel_rfl) (by decide)

def c_spec_WordOk : ICode := (.seq (.reg [⟨(some 2), (.box 2), [(.t 0)], none⟩, ⟨(some 4), .mv, [(.c (.bool false))], none⟩]) (.seq (.seq (.reg [⟨(some 5), .mv, [(.t 1)], none⟩, ⟨(some 6), (.call 69), [(.t 5), (.c (.int .i64 1)), (.c (.int .i64 8))], none⟩, ⟨(some 7), .not, [(.t 6)], none⟩, ⟨(some 8), .mv, [(.t 7)], none⟩, ⟨(some 9), (.fadr 0), [(.t 2)], (some (8, false))⟩, ⟨(some 10), .ld1, [(.t 9)], (some (8, false))⟩, ⟨(some 11), .len, [(.t 10)], (some (8, false))⟩, ⟨(some 12), (.bin .gtr), [(.t 11), (.c (.int .i64 40))], (some (8, false))⟩, ⟨(some 13), .pick, [(.t 8), (.c (.bool true)), (.t 12)], none⟩, ⟨(some 14), .mv, [(.t 13)], none⟩, ⟨(some 15), (.fadr 1), [(.t 2)], (some (14, false))⟩, ⟨(some 16), .ld1, [(.t 15)], (some (14, false))⟩, ⟨(some 17), .len, [(.t 16)], (some (14, false))⟩, ⟨(some 18), (.call 69), [(.t 17), (.c (.int .i64 1)), (.c (.int .i64 40))], (some (14, false))⟩, ⟨(some 19), .not, [(.t 18)], (some (14, false))⟩, ⟨(some 20), .pick, [(.t 14), (.c (.bool true)), (.t 19)], none⟩]) (.cond (.t 20) (.seq (.reg [⟨(some 4), .mv, [(.c (.bool false))], none⟩]) .ret) .skip)) (.seq (.reg [⟨(some 21), (.fadr 0), [(.t 2)], none⟩, ⟨(some 22), .ld1, [(.t 21)], none⟩, ⟨(some 23), .mv, [(.t 1)], none⟩, ⟨(some 24), (.call 83), [(.t 22), (.t 23)], none⟩, ⟨(some 25), .mv, [(.t 24)], none⟩, ⟨(some 26), (.fadr 1), [(.t 2)], (some (25, true))⟩, ⟨(some 27), .ld1, [(.t 26)], (some (25, true))⟩, ⟨(some 28), .mv, [(.t 1)], (some (25, true))⟩, ⟨(some 29), (.call 83), [(.t 27), (.t 28)], (some (25, true))⟩, ⟨(some 30), .pick, [(.t 25), (.t 29), (.c (.bool false))], none⟩, ⟨(some 4), .mv, [(.t 30)], none⟩]) .ret)))
theorem b_spec_WordOk : Body Try.prog 29 31 c_spec_WordOk [(.t 4)] := body_mk Try.func29 (by kernel_rfl) (by decide)

def c_impl_WordOk : ICode := (.seq (.reg [⟨(some 2), (.box 2), [(.t 0)], none⟩, ⟨(some 4), .mv, [(.c (.bool false))], none⟩]) (.seq (.seq (.reg [⟨(some 5), .mv, [(.t 1)], none⟩, ⟨(some 6), (.call 173), [(.t 5)], none⟩, ⟨(some 7), .not, [(.t 6)], none⟩, ⟨(some 8), .mv, [(.t 7)], none⟩, ⟨(some 9), (.fadr 0), [(.t 2)], (some (8, false))⟩, ⟨(some 10), .ld1, [(.t 9)], (some (8, false))⟩, ⟨(some 11), .len, [(.t 10)], (some (8, false))⟩, ⟨(some 12), (.bin .gtr), [(.t 11), (.c (.int .i64 40))], (some (8, false))⟩, ⟨(some 13), .pick, [(.t 8), (.c (.bool true)), (.t 12)], none⟩, ⟨(some 14), .mv, [(.t 13)], none⟩, ⟨(some 15), (.fadr 1), [(.t 2)], (some (14, false))⟩, ⟨(some 16), .ld1, [(.t 15)], (some (14, false))⟩, ⟨(some 17), .len, [(.t 16)], (some (14, false))⟩, ⟨(some 18), (.call 72), [(.t 17), (.c (.int .i64 1)), (.c (.int .i64 40))], (some (14, false))⟩, ⟨(some 19), .not, [(.t 18)], (some (14, false))⟩, ⟨(some 20), .pick, [(.t 14), (.c (.bool true)), (.t 19)], none⟩]) (.cond (.t 20) (.seq (.reg [⟨(some 4), .mv, [(.c (.bool false))], none⟩]) .ret) .skip)) (.seq (.reg [⟨(some 21), (.fadr 0), [(.t 2)], none⟩, ⟨(some 22), .ld1, [(.t 21)], none⟩, ⟨(some 23), .mv, [(.t 1)], none⟩, ⟨(some 24), (.call 174), [(.t 22), (.t 23)], none⟩, ⟨(some 25), .mv, [(.t 24)], none⟩, ⟨(some 26), (.fadr 1), [(.t 2)], (some (25, true))⟩, ⟨(some 27), .ld1, [(.t 26)], (some (25, true))⟩, ⟨(some 28), .mv, [(.t 1)], (some (25, true))⟩, ⟨(some 29), (.call 174), [(.t 27), (.t 28)], (some (25, true))⟩, ⟨(some 30), .pick, [(.t 25), (.t 29), (.c (.bool false))], none⟩, ⟨(some 4), .mv, [(.t 30)], none⟩]) .ret)))
theorem b_impl_WordOk : Body Try.prog 123 31 c_impl_WordOk [(.t 4)] := body_mk Try.func123 (by kernel_rfl) (by decide)

def c_spec_l3Right : ICode := (.seq (.reg [⟨(some 1), (.box 2), [(.t 0)], none⟩, ⟨(some 2), .mv, [(.c (.bool false))], none⟩]) (.seq (.reg [⟨(some 3), (.ldn 2), [(.t 1)], none⟩, ⟨(some 4), (.call 29), [(.t 3), (.c (.int .i64 8))], none⟩, ⟨(some 2), .mv, [(.t 4)], none⟩]) .ret))
theorem b_spec_l3Right : Body Try.prog 62 5 c_spec_l3Right [(.t 2)] := body_mk Try.func62 (by kernel_rfl) (by decide)

def c_impl_isRight : ICode := (.seq (.reg [⟨(some 1), (.box 2), [(.t 0)], none⟩, ⟨(some 2), .mv, [(.c (.bool false))], none⟩]) (.seq (.reg [⟨(some 3), (.ldn 2), [(.t 1)], none⟩, ⟨(some 4), (.call 123), [(.t 3), (.c (.int .i64 8))], none⟩, ⟨(some 2), .mv, [(.t 4)], none⟩]) .ret))
theorem b_impl_isRight : Body Try.prog 65 5 c_impl_isRight [(.t 2)] := body_mk Try.func65 (by kernel_rfl) (by decide)


def RIn (xs : List AV) (r : AV) (objs : List AObj) : Prop := ∃ a b c, xs = [.int .i64 a, .int .i64 b, .int .i64 c] ∧ r = .bool (decide (b ≤ a ∧ a ≤ c)) ∧ objs = []

theorem RIn_mk {a b c : Int} : RIn [.int .i64 a, .int .i64 b, .int .i64 c] (.bool (decide (b ≤ a ∧ a ≤ c))) [] := ⟨a, b, c, rfl, rfl, rfl⟩

theorem s_spec_l1In : PureSound Try.prog 69 RIn := by
  have hR : Rely Try.prog (ctxOf []) := rely_nil mixed
  refine pure_of_aw b_spec_l1In ?_
  rintro xs r objs ⟨a, b, c, rfl, rfl, rfl⟩ hb
  refine ⟨by simp, vc2_sound hR _ _ _ _ _ ?_⟩
  conv => whnf
  repeat' ((first
    | contradiction
    | (refine And.intro (fun hb => ?_) (fun hb => ?_) <;> first | contradiction | ((try simp only [SB, reduceCtorEq] at hb); try (exfalso; first | contradiction | omega)))
    | refine And.intro rfl ?_
    | refine ⟨_, IntWalk.i64_in _ (by omega), ?_⟩
    | rw [ints_at (by omega)]
    | rw [ints_at0 (by omega)]
    | rw [ints_at' (by omega) (by omega)]
    | refine And.intro (lens_all rfl) ?_
    | refine And.intro (show _ ≤ _ ∧ (_ + 1) * _ ≤ _ ∧ _ + 1 ≤ _ by first | omega | (simp; omega)) ?_
    | refine And.intro (show 1 * _ ≤ _ ∧ 1 ≤ _ by omega) ?_
    | refine And.intro (by first | omega | (simp; omega) | (show _ ∧ _; simp; done)) ?_
    | fail) <;> conv => whnf)
  all_goals
    refine ⟨.inl rfl, ?_⟩
    conv => whnf
    refine ⟨[], ⟨rfl, trivial⟩, ?_, rfl, rfl⟩
    conv => whnf
    left
    conv => lhs; whnf
    refine congrArg AV.bool ?_
    simp_all
  all_goals omega

theorem s_impl_inRange : PureSound Try.prog 72 RIn := by
  have hR : Rely Try.prog (ctxOf []) := rely_nil mixed
  refine pure_of_aw b_impl_inRange ?_
  rintro xs r objs ⟨a, b, c, rfl, rfl, rfl⟩ hb
  refine ⟨by simp, vc2_sound hR _ _ _ _ _ ?_⟩
  conv => whnf
  repeat' ((first
    | contradiction
    | (refine And.intro (fun hb => ?_) (fun hb => ?_) <;> first | contradiction | ((try simp only [SB, reduceCtorEq] at hb); try (exfalso; first | contradiction | omega)))
    | refine And.intro rfl ?_
    | refine ⟨_, IntWalk.i64_in _ (by omega), ?_⟩
    | rw [ints_at (by omega)]
    | rw [ints_at0 (by omega)]
    | rw [ints_at' (by omega) (by omega)]
    | refine And.intro (lens_all rfl) ?_
    | refine And.intro (show _ ≤ _ ∧ (_ + 1) * _ ≤ _ ∧ _ + 1 ≤ _ by first | omega | (simp; omega)) ?_
    | refine And.intro (show 1 * _ ≤ _ ∧ 1 ≤ _ by omega) ?_
    | refine And.intro (by first | omega | (simp; omega) | (show _ ∧ _; simp; done)) ?_
    | fail) <;> conv => whnf)
  all_goals
    refine ⟨.inl rfl, ?_⟩
    conv => whnf
    refine ⟨[], ⟨rfl, trivial⟩, ?_, rfl, rfl⟩
    conv => whnf
    left
    conv => lhs; whnf
    refine congrArg AV.bool ?_
    simp_all
  all_goals omega

/-- all of a list are from 0 on and below a number -/
def lettersB (l : List Int) (n : Int) : Bool := l.all fun x => decide (0 ≤ x ∧ x ≤ n - 1)

def RLetters (xs : List AV) (r : AV) (objs : List AObj) : Prop := ∃ l n, xs = [.val (ints l), .int .i64 n] ∧ -1000 ≤ n ∧ n ≤ 1000 ∧ r = .bool (lettersB l n) ∧ objs = []

theorem RLetters_mk {l : List Int} {n : Int} (h1 : -1000 ≤ n) (h2 : n ≤ 1000) : RLetters [.val (ints l), .int .i64 n] (.bool (lettersB l n)) [] := ⟨l, n, rfl, h1, h2, rfl, rfl⟩

theorem lettersB_of {l : List Int} {n : Int} {i : Nat} (hall : ∀ j, j < i → j < l.length → 0 ≤ l.getD j 0 ∧ l.getD j 0 ≤ n - 1) (hi : ¬ i < l.length) : lettersB l n = true := by
  simp only [lettersB, List.all_eq_true, decide_eq_true_eq]
  intro x hx
  obtain ⟨j, hj, rfl⟩ := List.getElem_of_mem hx
  have := hall j (by omega) hj
  simpa [List.getD_eq_getElem?_getD, List.getElem?_eq_getElem hj] using this

theorem lettersB_not {l : List Int} {n : Int} {i : Nat} (hi : i < l.length) (h : ¬ (0 ≤ l.getD i 0 ∧ l.getD i 0 ≤ n - 1)) : lettersB l n = false := by
  rw [Bool.eq_false_iff]
  intro ht
  simp only [lettersB, List.all_eq_true, decide_eq_true_eq] at ht
  refine h ?_
  have := ht _ (List.getElem_mem hi)
  simpa [List.getD_eq_getElem?_getD, List.getElem?_eq_getElem hi] using this

theorem s_spec_l3Letters : PureSound Try.prog 83 RLetters := by
  have hR : Rely Try.prog (ctxOf [(69, .pure RIn)]) := rely_cons b_spec_l1In.has s_spec_l1In (rely_nil mixed)
  refine pure_of_aw b_spec_l3Letters ?_
  rintro xs r objs ⟨l, n, rfl, hn1, hn2, rfl, rfl⟩ ⟨w, own, vs, hrel⟩
  have hl : l.length ≤ 9223372036854775807 := by
    obtain ⟨v, hv⟩ := rels_at hrel (i := 0) rfl
    simpa [length_ints] using rel_len hv
  clear hrel
  refine ⟨by simp, vc2_sound hR _ _ _ _ _ ?_⟩
  conv => whnf
  refine Lp.intro (α := Nat) (fun i => i ≤ l.length ∧ ∀ j, j < i → j < l.length → 0 ≤ l.getD j 0 ∧ l.getD j 0 ≤ n - 1) (fun i => l.length - i) (fun i => [(0, .val (ints l)), (1, .int .i64 n), (5, .int .i64 i)]) (fun _ => []) ?_ ?_
  · refine ⟨0, ⟨by omega, by omega⟩, [], rfl, rfl, trivial, ?_⟩
    repeat' (first
      | exact trivial
      | refine ⟨?_, ?_⟩
      | fail)
    all_goals first
      | with_reducible rfl
      | (conv => whnf
         try left
         conv => lhs; whnf
         first
           | rfl
           | exact congrArg (AV.int .i64) (by omega)
           | skip)
  · rintro i ⟨hi, hall⟩
    refine vc2_sound hR _ _ _ _ _ ?_
    conv => whnf
    repeat' ((first
      | contradiction
      | (refine And.intro (fun hb => ?_) (fun hb => ?_) <;> first | contradiction | ((try simp only [SB, reduceCtorEq] at hb); try (exfalso; first | contradiction | omega)))
      | refine And.intro rfl ?_
      | refine ⟨_, IntWalk.i64_in _ (by omega), ?_⟩
      | rw [ints_at (by omega)]
      | rw [ints_at0 (by omega)]
      | rw [ints_at' (by omega) (by omega)]
      | refine And.intro (lens_all rfl) ?_
      | refine And.intro (show _ ≤ _ ∧ (_ + 1) * _ ≤ _ ∧ _ + 1 ≤ _ by first | omega | (simp; omega)) ?_
      | refine And.intro (show 1 * _ ≤ _ ∧ 1 ≤ _ by omega) ?_
      | refine And.intro (by first | omega | (simp; omega) | (show _ ∧ _; simp; done)) ?_
      | refine ⟨_, _, RIn_mk, ?_⟩
      | fail) <;> conv => whnf)
    · refine ⟨i + 1, ⟨by omega, fun j hj hl => ?_⟩, by omega, [], rfl, rfl, trivial, ?_⟩
      · by_cases hji : j = i
        · subst hji; exact hb
        · exact hall j (by omega) hl
      · repeat' (first
          | exact trivial
          | refine ⟨?_, ?_⟩
          | fail)
        all_goals first
          | with_reducible rfl
          | (conv => whnf
             try left
             conv => lhs; whnf
             first
               | rfl
               | exact congrArg (AV.int .i64) (by omega)
               | skip)
    · refine ⟨.inl rfl, ?_⟩
      conv => whnf
      refine ⟨[], ⟨rfl, trivial⟩, ?_, rfl, rfl⟩
      conv => whnf
      left
      conv => lhs; whnf
      exact congrArg AV.bool (lettersB_not (by omega) hb).symm
    · refine ⟨.inl rfl, ?_⟩
      conv => whnf
      refine ⟨[], ⟨rfl, trivial⟩, ?_, rfl, rfl⟩
      conv => whnf
      left
      conv => lhs; whnf
      exact congrArg AV.bool (lettersB_of hall (by omega)).symm

theorem s_impl_areLetters : PureSound Try.prog 174 RLetters := by
  have hR : Rely Try.prog (ctxOf [(72, .pure RIn)]) := rely_cons b_impl_inRange.has s_impl_inRange (rely_nil mixed)
  refine pure_of_aw b_impl_areLetters ?_
  rintro xs r objs ⟨l, n, rfl, hn1, hn2, rfl, rfl⟩ ⟨w, own, vs, hrel⟩
  have hl : l.length ≤ 9223372036854775807 := by
    obtain ⟨v, hv⟩ := rels_at hrel (i := 0) rfl
    simpa [length_ints] using rel_len hv
  clear hrel
  refine ⟨by simp, vc2_sound hR _ _ _ _ _ ?_⟩
  conv => whnf
  refine Lp.intro (α := Nat) (fun i => i ≤ l.length ∧ ∀ j, j < i → j < l.length → 0 ≤ l.getD j 0 ∧ l.getD j 0 ≤ n - 1) (fun i => l.length - i) (fun i => [(1, .int .i64 n), (7, .val (ints l)), (8, .int .i64 (ints l).length), (9, .int .i64 i)]) (fun _ => []) ?_ ?_
  · refine ⟨0, ⟨by omega, by omega⟩, [], rfl, rfl, trivial, ?_⟩
    repeat' (first
      | exact trivial
      | refine ⟨?_, ?_⟩
      | fail)
    all_goals first
      | with_reducible rfl
      | (conv => whnf
         try left
         conv => lhs; whnf
         first
           | rfl
           | exact congrArg (AV.int .i64) (by omega)
           | skip)
  · rintro i ⟨hi, hall⟩
    refine vc2_sound hR _ _ _ _ _ ?_
    conv => whnf
    repeat' ((first
      | contradiction
      | (refine And.intro (fun hb => ?_) (fun hb => ?_) <;> first | contradiction | ((try simp only [SB, reduceCtorEq] at hb); try (exfalso; first | contradiction | omega)))
      | refine And.intro rfl ?_
      | refine ⟨_, IntWalk.i64_in _ (by omega), ?_⟩
      | rw [ints_at (by omega)]
      | rw [ints_at0 (by omega)]
      | rw [ints_at' (by omega) (by omega)]
      | refine And.intro (lens_all rfl) ?_
      | refine And.intro (show _ ≤ _ ∧ (_ + 1) * _ ≤ _ ∧ _ + 1 ≤ _ by first | omega | (simp; omega)) ?_
      | refine And.intro (show 1 * _ ≤ _ ∧ 1 ≤ _ by omega) ?_
      | refine And.intro (by first | omega | (simp; omega) | (show _ ∧ _; simp; done)) ?_
      | refine ⟨_, _, RIn_mk, ?_⟩
      | fail) <;> conv => whnf)
    · refine ⟨i + 1, ⟨by omega, fun j hj hl => ?_⟩, by omega, [], rfl, rfl, trivial, ?_⟩
      · by_cases hji : j = i
        · subst hji; exact hb
        · exact hall j (by omega) hl
      · repeat' (first
          | exact trivial
          | refine ⟨?_, ?_⟩
          | fail)
        all_goals first
          | with_reducible rfl
          | (conv => whnf
             try left
             conv => lhs; whnf
             first
               | rfl
               | exact congrArg (AV.int .i64) (by omega)
               | skip)
    · refine ⟨.inl rfl, ?_⟩
      conv => whnf
      refine ⟨[], ⟨rfl, trivial⟩, ?_, rfl, rfl⟩
      conv => whnf
      left
      conv => lhs; whnf
      exact congrArg AV.bool (lettersB_not (by omega) hb).symm
    · refine ⟨.inl rfl, ?_⟩
      conv => whnf
      refine ⟨[], ⟨rfl, trivial⟩, ?_, rfl, rfl⟩
      conv => whnf
      left
      conv => lhs; whnf
      exact congrArg AV.bool (lettersB_of hall (by omega)).symm

def RIsLetters (xs : List AV) (r : AV) (objs : List AObj) : Prop := ∃ n, xs = [.int .i64 n] ∧ r = .bool (decide (1 ≤ n ∧ n ≤ 8)) ∧ objs = []
theorem RIsLetters_mk {n : Int} : RIsLetters [.int .i64 n] (.bool (decide (1 ≤ n ∧ n ≤ 8))) [] := ⟨n, rfl, rfl, rfl⟩

theorem s_impl_isLetters : PureSound Try.prog 173 RIsLetters := by
  have hR : Rely Try.prog (ctxOf [(72, .pure RIn)]) := rely_cons b_impl_inRange.has s_impl_inRange (rely_nil mixed)
  refine pure_of_aw b_impl_isLetters ?_
  rintro xs r objs ⟨n, rfl, rfl, rfl⟩ -
  refine ⟨by simp, vc2_sound hR _ _ _ _ _ ?_⟩
  conv => whnf
  repeat' ((first
    | contradiction
    | (refine And.intro (fun hb => ?_) (fun hb => ?_) <;> first | contradiction | ((try simp only [SB, reduceCtorEq] at hb); try (exfalso; first | contradiction | omega)))
    | refine And.intro rfl ?_
    | refine ⟨_, IntWalk.i64_in _ (by omega), ?_⟩
    | rw [ints_at (by omega)]
    | rw [ints_at0 (by omega)]
    | rw [ints_at' (by omega) (by omega)]
    | refine And.intro (lens_all rfl) ?_
    | refine And.intro (show _ ≤ _ ∧ (_ + 1) * _ ≤ _ ∧ _ + 1 ≤ _ by first | omega | (simp; omega)) ?_
    | refine And.intro (show 1 * _ ≤ _ ∧ 1 ≤ _ by omega) ?_
    | refine And.intro (by first | omega | (simp; omega) | (show _ ∧ _; simp; done)) ?_
    | refine ⟨_, _, RIn_mk, ?_⟩
    | fail) <;> conv => whnf)
  all_goals
    refine ⟨.inl rfl, ?_⟩
    conv => whnf
    refine ⟨[], ⟨rfl, trivial⟩, ?_, rfl, rfl⟩
    conv => whnf
    left
    conv => lhs; whnf
    try exact congrArg AV.bool (by simp_all)

/-- a word: its stem, its loop -/
abbrev word (s l : List Int) : AV := .agg [.val (ints s), .val (ints l)]
def wordOk (s l : List Int) (n : Int) : Bool := decide (1 ≤ n ∧ n ≤ 8) && decide (s.length ≤ 40) && decide (1 ≤ l.length ∧ l.length ≤ 40) && lettersB s n && lettersB l n

def RWordOk (xs : List AV) (r : AV) (objs : List AObj) : Prop := ∃ s l n, xs = [word s l, .int .i64 n] ∧ r = .bool (wordOk s l n) ∧ objs = []
theorem RWordOk_mk {s l : List Int} {n : Int} : RWordOk [word s l, .int .i64 n] (.bool (wordOk s l n)) [] := ⟨s, l, n, rfl, rfl, rfl⟩

theorem s_spec_WordOk : PureSound Try.prog 29 RWordOk := by
  have hR : Rely Try.prog (ctxOf [(69, .pure RIn), (83, .pure RLetters)]) := rely_cons b_spec_l1In.has s_spec_l1In (rely_cons b_spec_l3Letters.has s_spec_l3Letters (rely_nil mixed))
  refine pure_of_aw b_spec_WordOk ?_
  rintro xs r objs ⟨s, l, n, rfl, rfl, rfl⟩ -
  refine ⟨by simp, vc2_sound hR _ _ _ _ _ ?_⟩
  conv => whnf
  repeat' ((first
    | contradiction
    | (refine And.intro (fun hb => ?_) (fun hb => ?_) <;> first | contradiction | ((try simp only [SB, reduceCtorEq] at hb); try (exfalso; first | contradiction | omega)))
    | refine And.intro rfl ?_
    | refine ⟨_, IntWalk.i64_in _ (by omega), ?_⟩
    | rw [ints_at (by omega)]
    | rw [ints_at0 (by omega)]
    | rw [ints_at' (by omega) (by omega)]
    | refine And.intro (lens_all rfl) ?_
    | refine And.intro (show _ ≤ _ ∧ (_ + 1) * _ ≤ _ ∧ _ + 1 ≤ _ by first | omega | (simp; omega)) ?_
    | refine And.intro (show 1 * _ ≤ _ ∧ 1 ≤ _ by omega) ?_
    | refine And.intro (by first | omega | (simp; omega) | (show _ ∧ _; simp; done)) ?_
    | refine ⟨_, _, RIn_mk, ?_⟩
    | refine ⟨_, _, RLetters_mk (by omega) (by omega), ?_⟩
    | fail) <;> conv => whnf)
  all_goals
    refine ⟨.inl rfl, ?_⟩
    conv => whnf
    refine ⟨[], ⟨rfl, trivial⟩, ?_, rfl, rfl⟩
    conv => whnf
    left
    conv => lhs; whnf
    refine congrArg AV.bool ?_
    simp_all [wordOk]
  all_goals omega

theorem s_impl_WordOk : PureSound Try.prog 123 RWordOk := by
  have hR : Rely Try.prog (ctxOf [(72, .pure RIn), (174, .pure RLetters), (173, .pure RIsLetters)]) :=
    rely_cons b_impl_inRange.has s_impl_inRange (rely_cons b_impl_areLetters.has s_impl_areLetters (rely_cons b_impl_isLetters.has s_impl_isLetters (rely_nil mixed)))
  refine pure_of_aw b_impl_WordOk ?_
  rintro xs r objs ⟨s, l, n, rfl, rfl, rfl⟩ -
  refine ⟨by simp, vc2_sound hR _ _ _ _ _ ?_⟩
  conv => whnf
  repeat' ((first
    | contradiction
    | (refine And.intro (fun hb => ?_) (fun hb => ?_) <;> first | contradiction | ((try simp only [SB, reduceCtorEq] at hb); try (exfalso; first | contradiction | omega)))
    | refine And.intro rfl ?_
    | refine ⟨_, IntWalk.i64_in _ (by omega), ?_⟩
    | rw [ints_at (by omega)]
    | rw [ints_at0 (by omega)]
    | rw [ints_at' (by omega) (by omega)]
    | refine And.intro (lens_all rfl) ?_
    | refine And.intro (show _ ≤ _ ∧ (_ + 1) * _ ≤ _ ∧ _ + 1 ≤ _ by first | omega | (simp; omega)) ?_
    | refine And.intro (show 1 * _ ≤ _ ∧ 1 ≤ _ by omega) ?_
    | refine And.intro (by first | omega | (simp; omega) | (show _ ∧ _; simp; done)) ?_
    | refine ⟨_, _, RIn_mk, ?_⟩
    | refine ⟨_, _, RLetters_mk (by omega) (by omega), ?_⟩
    | refine ⟨_, _, RIsLetters_mk, ?_⟩
    | fail) <;> conv => whnf)
  all_goals
    refine ⟨.inl rfl, ?_⟩
    conv => whnf
    refine ⟨[], ⟨rfl, trivial⟩, ?_, rfl, rfl⟩
    conv => whnf
    left
    conv => lhs; whnf
    refine congrArg AV.bool ?_
    simp_all [wordOk]
  all_goals omega

def RRight (xs : List AV) (r : AV) (objs : List AObj) : Prop := ∃ s l, xs = [word s l] ∧ r = .bool (wordOk s l 8) ∧ objs = []
theorem RRight_mk {s l : List Int} : RRight [word s l] (.bool (wordOk s l 8)) [] := ⟨s, l, rfl, rfl, rfl⟩

theorem s_spec_l3Right : PureSound Try.prog 62 RRight := by
  have hR : Rely Try.prog (ctxOf [(29, .pure RWordOk)]) := rely_cons b_spec_WordOk.has s_spec_WordOk (rely_nil mixed)
  refine pure_of_aw b_spec_l3Right ?_
  rintro xs r objs ⟨s, l, rfl, rfl, rfl⟩ -
  refine ⟨by simp, vc2_sound hR _ _ _ _ _ ?_⟩
  conv => whnf
  repeat' ((first
    | contradiction
    | (refine And.intro (fun hb => ?_) (fun hb => ?_) <;> first | contradiction | ((try simp only [SB, reduceCtorEq] at hb); try (exfalso; first | contradiction | omega)))
    | refine And.intro rfl ?_
    | refine ⟨_, IntWalk.i64_in _ (by omega), ?_⟩
    | rw [ints_at (by omega)]
    | rw [ints_at0 (by omega)]
    | rw [ints_at' (by omega) (by omega)]
    | refine And.intro (lens_all rfl) ?_
    | refine And.intro (show _ ≤ _ ∧ (_ + 1) * _ ≤ _ ∧ _ + 1 ≤ _ by first | omega | (simp; omega)) ?_
    | refine And.intro (show 1 * _ ≤ _ ∧ 1 ≤ _ by omega) ?_
    | refine And.intro (by first | omega | (simp; omega) | (show _ ∧ _; simp; done)) ?_
    | refine ⟨_, _, RWordOk_mk, ?_⟩
    | fail) <;> conv => whnf)
  all_goals
    refine ⟨.inl rfl, ?_⟩
    conv => whnf
    refine ⟨[], ⟨rfl, trivial⟩, ?_, rfl, rfl⟩
    conv => whnf
    left
    conv => lhs; whnf
    try exact congrArg AV.bool (by simp_all)

theorem s_impl_isRight : PureSound Try.prog 65 RRight := by
  have hR : Rely Try.prog (ctxOf [(123, .pure RWordOk)]) := rely_cons b_impl_WordOk.has s_impl_WordOk (rely_nil mixed)
  refine pure_of_aw b_impl_isRight ?_
  rintro xs r objs ⟨s, l, rfl, rfl, rfl⟩ -
  refine ⟨by simp, vc2_sound hR _ _ _ _ _ ?_⟩
  conv => whnf
  repeat' ((first
    | contradiction
    | (refine And.intro (fun hb => ?_) (fun hb => ?_) <;> first | contradiction | ((try simp only [SB, reduceCtorEq] at hb); try (exfalso; first | contradiction | omega)))
    | refine And.intro rfl ?_
    | refine ⟨_, IntWalk.i64_in _ (by omega), ?_⟩
    | rw [ints_at (by omega)]
    | rw [ints_at0 (by omega)]
    | rw [ints_at' (by omega) (by omega)]
    | refine And.intro (lens_all rfl) ?_
    | refine And.intro (show _ ≤ _ ∧ (_ + 1) * _ ≤ _ ∧ _ + 1 ≤ _ by first | omega | (simp; omega)) ?_
    | refine And.intro (show 1 * _ ≤ _ ∧ 1 ≤ _ by omega) ?_
    | refine And.intro (by first | omega | (simp; omega) | (show _ ∧ _; simp; done)) ?_
    | refine ⟨_, _, RWordOk_mk, ?_⟩
    | fail) <;> conv => whnf)
  all_goals
    refine ⟨.inl rfl, ?_⟩
    conv => whnf
    refine ⟨[], ⟨rfl, trivial⟩, ?_, rfl, rfl⟩
    conv => whnf
    left
    conv => lhs; whnf
    try exact congrArg AV.bool (by simp_all)

end Go.Proofs.Ytpfbkblgefddlaa.Ct
