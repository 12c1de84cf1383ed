/- The laws' comparisons of words. -/
import Derived.Test.YtpfbkblgefddlaaCtWord1
namespace Go.Proofs.Ytpfbkblgefddlaa.Ct
set_option linter.unusedSimpArgs false
set_option linter.unusedVariables false
open Go Go.Proofs Go.Proofs.Ytpfbkblgefddlaa.Av

def c_laws_eqIntS : ICode := (.seq (.reg [⟨(some 4), .mv, [(.c (.bool false))], none⟩]) (.seq (.seq (.reg [⟨(some 6), .mv, [(.t 0)], none⟩, ⟨(some 7), .len, [(.t 6)], none⟩, ⟨(some 8), .mv, [(.t 1)], none⟩, ⟨(some 9), .len, [(.t 8)], none⟩, ⟨(some 10), (.bin .neq), [(.t 7), (.t 9)], none⟩]) (.cond (.t 10) (.seq (.reg [⟨(some 4), .mv, [(.c (.bool false))], none⟩]) .ret) .skip)) (.seq (.seq (.reg [⟨(some 5), .mv, [(.c (.int .i64 0))], none⟩]) (.block 0 (.loop (.seq (.seq (.reg [⟨(some 11), .mv, [(.t 5)], none⟩, ⟨(some 12), .mv, [(.t 0)], none⟩, ⟨(some 13), .len, [(.t 12)], none⟩, ⟨(some 14), (.bin .lss), [(.t 11), (.t 13)], none⟩]) (.cond (.t 14) .skip (.exit 0))) (.seq (.block 1 (.seq (.drw [⟨(some 17), .mv, [(.t 0)], none⟩, ⟨(some 18), .mv, [(.t 5)], none⟩, ⟨(some 19), (.iadr 1), [(.t 17), (.t 18)], none⟩, ⟨(some 20), .ld1, [(.t 19)], none⟩, ⟨(some 21), .mv, [(.t 1)], none⟩, ⟨(some 22), .mv, [(.t 5)], none⟩, ⟨(some 23), (.iadr 1), [(.t 21), (.t 22)], none⟩, ⟨(some 24), .ld1, [(.t 23)], none⟩, ⟨(some 25), (.bin .neq), [(.t 20), (.t 24)], none⟩] [[], [], [0, 1], [0, 1, 2], [], [], [4, 5], [4, 5, 6], [0, 1, 2, 3, 4, 5, 6, 7]] true true) (.cond (.t 25) (.seq (.reg [⟨(some 4), .mv, [(.c (.bool false))], none⟩]) .ret) .skip))) (.reg [⟨(some 15), .mv, [(.t 5)], none⟩, ⟨(some 16), (.bin .add), [(.t 15), (.c (.int .i64 1))], none⟩, ⟨(some 5), .mv, [(.t 16)], none⟩])))))) (.seq (.reg [⟨(some 4), .mv, [(.c (.bool true))], none⟩]) .ret))))
theorem b_laws_eqIntS : Body Try.prog 67 26 c_laws_eqIntS [(.t 4)] := body_mk Try.func67 (by kernel_rfl) (by decide)

def c_laws_eqWord : ICode := (.seq (.reg [⟨(some 2), (.box 2), [(.t 0)], none⟩, ⟨(some 3), (.box 2), [(.t 1)], none⟩, ⟨(some 4), .mv, [(.c (.bool false))], none⟩]) (.seq (.seq (.reg [⟨(some 5), (.fadr 0), [(.t 2)], none⟩, ⟨(some 6), .ld1, [(.t 5)], none⟩, ⟨(some 7), (.fadr 0), [(.t 3)], none⟩, ⟨(some 8), .ld1, [(.t 7)], none⟩, ⟨(some 9), (.call 67), [(.t 6), (.t 8)], none⟩, ⟨(some 10), .not, [(.t 9)], none⟩]) (.cond (.t 10) (.seq (.reg [⟨(some 4), .mv, [(.c (.bool false))], none⟩]) .ret) .skip)) (.seq (.seq (.reg [⟨(some 11), (.fadr 1), [(.t 2)], none⟩, ⟨(some 12), .ld1, [(.t 11)], none⟩, ⟨(some 13), (.fadr 1), [(.t 3)], none⟩, ⟨(some 14), .ld1, [(.t 13)], none⟩, ⟨(some 15), (.call 67), [(.t 12), (.t 14)], none⟩, ⟨(some 16), .not, [(.t 15)], none⟩]) (.cond (.t 16) (.seq (.reg [⟨(some 4), .mv, [(.c (.bool false))], none⟩]) .ret) .skip)) (.seq (.reg [⟨(some 4), .mv, [(.c (.bool true))], none⟩]) .ret))))
theorem b_laws_eqWord : Body Try.prog 17 17 c_laws_eqWord [(.t 4)] := body_mk Try.func17 (by kernel_rfl) (by decide)


def REqIntS (xs : List AV) (r : AV) (objs : List AObj) : Prop := ∃ a b, xs = [.val (ints a), .val (ints b)] ∧ r = .bool (decide (a = b)) ∧ objs = []
theorem REqIntS_eq {xs : List AV} {a b : List Int} (h : xs = [.val (ints a), .val (ints b)]) : REqIntS xs (.bool (decide (a = b))) [] := ⟨a, b, h, rfl, rfl⟩

theorem eq_of_getD {a b : List Int} (h : a.length = b.length) (hj : ∀ j, j < a.length → a.getD j 0 = b.getD j 0) : a = b := by
  apply List.ext_getElem h
  intro i h1 h2
  have := hj i h1
  simpa [List.getD_eq_getElem?_getD, List.getElem?_eq_getElem h1, List.getElem?_eq_getElem h2] using this

theorem s_laws_eqIntS : PureSound Try.prog 67 REqIntS := by
  have hR : Rely Try.prog (ctxOf []) := rely_nil mixed
  refine pure_of_aw b_laws_eqIntS ?_
  rintro xs r objs ⟨a, b, rfl, rfl, rfl⟩ ⟨w, own, vs, hrel⟩
  have hl : (ints a).length ≤ 9223372036854775807 := by
    obtain ⟨v, hv⟩ := rels_at hrel (i := 0) rfl
    exact rel_len hv
  rw [length_ints] at hl
  clear hrel
  refine ⟨by simp, vc2_sound hR _ _ _ _ _ ?_⟩
  conv => whnf
  repeat' ((first
    | contradiction
    | (refine And.intro (fun hb => ?_) (fun hb => ?_) <;> first | contradiction | ((try simp only [SB, reduceCtorEq] at hb); try (exfalso; first | contradiction | omega)))
    | refine And.intro rfl ?_
    | refine ⟨_, IntWalk.i64_in _ (by omega), ?_⟩
    | rw [ints_at (by omega)]
    | rw [ints_at0 (by omega)]
    | rw [ints_at' (by omega) (by omega)]
    | refine And.intro (lens_all rfl) ?_
    | refine And.intro (show _ ≤ _ ∧ (_ + 1) * _ ≤ _ ∧ _ + 1 ≤ _ by first | omega | (simp; omega)) ?_
    | refine And.intro (show 1 * _ ≤ _ ∧ 1 ≤ _ by omega) ?_
    | refine And.intro (by first | omega | (simp; omega) | (show _ ∧ _; simp; done)) ?_
    | fail) <;> conv => whnf)
  · refine ⟨.inl rfl, ?_⟩
    conv => whnf
    refine ⟨[], ⟨rfl, trivial⟩, ?_, rfl, rfl⟩
    conv => whnf
    left
    conv => lhs; whnf
    refine congrArg AV.bool (Eq.symm (decide_eq_false ?_))
    intro h; subst h; exact hb rfl
  · refine Lp.intro (α := Nat) (fun i => i ≤ a.length ∧ ∀ j, j < i → a.getD j 0 = b.getD j 0) (fun i => a.length - i) (fun i => [(0, .val (ints a)), (1, .val (ints b)), (5, .int .i64 i)]) (fun _ => []) ?_ ?_
    · refine ⟨0, ⟨by omega, by omega⟩, [], rfl, rfl, trivial, ?_⟩
      repeat' (first
        | exact trivial
        | refine ⟨?_, ?_⟩
        | fail)
      all_goals first
        | with_reducible rfl
        | (conv => whnf
           try left
           conv => lhs; whnf
           first
             | rfl
             | exact congrArg (AV.int .i64) (by omega)
             | skip)
    · rintro i ⟨hi, hall⟩
      refine vc2_sound hR _ _ _ _ _ ?_
      conv => whnf
      repeat' ((first
        | contradiction
        | (refine And.intro (fun hb => ?_) (fun hb => ?_) <;> first | contradiction | ((try simp only [SB, reduceCtorEq] at hb); try (exfalso; first | contradiction | omega)))
        | refine And.intro rfl ?_
        | refine ⟨_, IntWalk.i64_in _ (by omega), ?_⟩
        | rw [ints_at (by omega)]
        | rw [ints_at0 (by omega)]
        | rw [ints_at' (by omega) (by omega)]
        | refine And.intro (lens_all rfl) ?_
        | refine And.intro (show _ ≤ _ ∧ (_ + 1) * _ ≤ _ ∧ _ + 1 ≤ _ by first | omega | (simp; omega)) ?_
        | refine And.intro (show 1 * _ ≤ _ ∧ 1 ≤ _ by omega) ?_
        | refine And.intro (by first | omega | (simp; omega) | (show _ ∧ _; simp; done)) ?_
        | fail) <;> conv => whnf)
      · refine ⟨.inl rfl, ?_⟩
        conv => whnf
        refine ⟨[], ⟨rfl, trivial⟩, ?_, rfl, rfl⟩
        conv => whnf
        left
        conv => lhs; whnf
        refine congrArg AV.bool (Eq.symm (decide_eq_false ?_))
        intro h; subst h; exact hb rfl
      · refine ⟨i + 1, ⟨by omega, fun j hj => ?_⟩, by omega, [], rfl, rfl, trivial, ?_⟩
        · by_cases hji : j = i
          · subst hji; exact hb
          · exact hall j (by omega)
        · repeat' (first
            | exact trivial
            | refine ⟨?_, ?_⟩
            | fail)
          all_goals first
            | with_reducible rfl
            | (conv => whnf
               try left
               conv => lhs; whnf
               first
                 | rfl
                 | exact congrArg (AV.int .i64) (by omega)
                 | skip)
      · refine ⟨.inl rfl, ?_⟩
        conv => whnf
        refine ⟨[], ⟨rfl, trivial⟩, ?_, rfl, rfl⟩
        conv => whnf
        left
        conv => lhs; whnf
        refine congrArg AV.bool (Eq.symm (decide_eq_true ?_))
        exact eq_of_getD (by omega) (fun j hj => hall j (by omega))

def REqWord (xs : List AV) (r : AV) (objs : List AObj) : Prop := ∃ s l s' l', xs = [word s l, word s' l'] ∧ r = .bool (decide (s = s') && decide (l = l')) ∧ objs = []
theorem REqWord_eq {xs : List AV} {s l s' l' : List Int} (h : xs = [word s l, word s' l']) : REqWord xs (.bool (decide (s = s') && decide (l = l'))) [] := ⟨s, l, s', l', h, rfl, rfl⟩

theorem s_laws_eqWord : PureSound Try.prog 17 REqWord := by
  have hR : Rely Try.prog (ctxOf [(67, .pure REqIntS)]) := rely_cons b_laws_eqIntS.has s_laws_eqIntS (rely_nil mixed)
  refine pure_of_aw b_laws_eqWord ?_
  rintro xs r objs ⟨s, l, s', l', rfl, rfl, rfl⟩ -
  refine ⟨by simp, vc2_sound hR _ _ _ _ _ ?_⟩
  conv => whnf
  repeat' ((first
    | contradiction
    | (refine And.intro (fun hb => ?_) (fun hb => ?_) <;> first | contradiction | ((try simp only [SB, reduceCtorEq] at hb); try (exfalso; first | contradiction | omega)))
    | refine And.intro rfl ?_
    | refine ⟨_, IntWalk.i64_in _ (by omega), ?_⟩
    | rw [ints_at (by omega)]
    | rw [ints_at0 (by omega)]
    | rw [ints_at' (by omega) (by omega)]
    | refine And.intro (lens_all rfl) ?_
    | refine And.intro (show _ ≤ _ ∧ (_ + 1) * _ ≤ _ ∧ _ + 1 ≤ _ by first | omega | (simp; omega)) ?_
    | refine And.intro (show 1 * _ ≤ _ ∧ 1 ≤ _ by omega) ?_
    | refine And.intro (by first | omega | (simp; omega) | (show _ ∧ _; simp; done)) ?_
    | refine ⟨_, _, REqIntS_eq rfl, ?_⟩
    | fail) <;> conv => whnf)
  all_goals
    refine ⟨.inl rfl, ?_⟩
    conv => whnf
    refine ⟨[], ⟨rfl, trivial⟩, ?_, rfl, rfl⟩
    conv => whnf
    left
    conv => lhs; whnf
    refine congrArg AV.bool ?_
    simp_all

end Go.Proofs.Ytpfbkblgefddlaa.Ct
