/- AskEmpty, the reference's and the program's; the laws' helpers for results. -/
import Derived.Test.YtpfbkblgefddlaaCtAWordI
import Derived.Test.YtpfbkblgefddlaaCtEqW
import Derived.Test.YtpfbkblgefddlaaCtMark
namespace Go.Proofs.Ytpfbkblgefddlaa.Ct
set_option linter.unusedSimpArgs false
set_option linter.unusedVariables false
open Go Go.Proofs Go.Proofs.Ytpfbkblgefddlaa.Av Go.Proofs.Ytpfbkblgefddlaa.Pl

def c_spec_l16Found : ICode := (.seq (.reg [⟨(some 2), (.box 2), [(.t 0)], none⟩, ⟨(some 4), (.alc [(.int .i64 0), .snil, .snil]), [], none⟩]) (.seq (.seq (.reg [⟨(some 5), .mv, [(.t 1)], none⟩]) (.cond (.t 5) (.seq (.reg [⟨(some 6), (.ldn 2), [(.t 2)], none⟩, ⟨(some 7), (.bld [(.int .i64 0), .snil, .snil] [(0, 1), (1, 2)]), [(.c (.int .i64 2)), (.t 6)], none⟩, ⟨none, (.st 3), [(.t 4), (.t 7)], none⟩]) .ret) .skip)) (.seq (.reg [⟨(some 8), (.bld [(.int .i64 0), .snil, .snil] [(0, 1)]), [(.c (.int .i64 1))], none⟩, ⟨none, (.st 3), [(.t 4), (.t 8)], none⟩]) .ret)))
theorem b_spec_l16Found : Body Try.prog 128 9 c_spec_l16Found [(.cn 4 3)] := body_mk Try.func128 (by kernel_rfl) (by decide)

def c_spec_AskEmpty : ICode := (.seq (.reg [⟨(some 1), (.box 4), [(.t 0)], none⟩, ⟨(some 2), (.alc [(.int .i64 0), .snil, .snil]), [], none⟩]) (.seq (.seq (.reg [⟨(some 5), (.ldn 4), [(.t 1)], none⟩, ⟨(some 6), (.call 70), [(.t 5)], none⟩, ⟨(some 7), .not, [(.t 6)], none⟩]) (.cond (.t 7) (.seq (.reg [⟨(some 8), (.bld [(.int .i64 0), .snil, .snil] [(0, 1)]), [(.c (.int .i64 4))], none⟩, ⟨none, (.st 3), [(.t 2), (.t 8)], none⟩]) .ret) .skip)) (.seq (.reg [⟨(some 10), (.ldn 4), [(.t 1)], none⟩, ⟨(some 11), (.call 47), [(.t 10)], none⟩, ⟨(some 9), .mv, [(.t 11)], none⟩, ⟨(some 12), (.ext 0), [(.t 9)], none⟩, ⟨(some 13), (.ext 1), [(.t 9)], none⟩, ⟨(some 3), (.alc [.snil, .snil]), [], none⟩, ⟨none, (.st 2), [(.t 3), (.t 12)], none⟩, ⟨(some 4), .mv, [(.t 13)], none⟩]) (.seq (.reg [⟨(some 14), (.ldn 2), [(.t 3)], none⟩, ⟨(some 15), .mv, [(.t 4)], none⟩, ⟨(some 16), (.call 128), [(.t 14), (.t 15)], none⟩, ⟨none, (.st 3), [(.t 2), (.t 16)], none⟩]) .ret))))
theorem b_spec_AskEmpty : Body Try.prog 57 17 c_spec_AskEmpty [(.cn 2 3)] := body_mk Try.func57 (by kernel_rfl) (by decide)

def c_impl_AskEmpty : ICode := (.seq (.reg [⟨(some 1), (.box 4), [(.t 0)], none⟩, ⟨(some 2), (.alc [(.int .i64 0), .snil, .snil]), [], none⟩]) (.seq (.seq (.reg [⟨(some 5), (.ldn 4), [(.t 1)], none⟩, ⟨(some 6), (.call 73), [(.t 5)], none⟩, ⟨(some 7), .not, [(.t 6)], none⟩]) (.cond (.t 7) (.seq (.reg [⟨(some 8), (.bld [(.int .i64 0), .snil, .snil] [(0, 1)]), [(.c (.int .i64 4))], none⟩, ⟨none, (.st 3), [(.t 2), (.t 8)], none⟩]) .ret) .skip)) (.seq (.reg [⟨(some 10), (.ldn 4), [(.t 1)], none⟩, ⟨(some 11), (.call 49), [(.t 10)], none⟩, ⟨(some 9), .mv, [(.t 11)], none⟩, ⟨(some 12), (.ext 0), [(.t 9)], none⟩, ⟨(some 13), (.ext 1), [(.t 9)], none⟩, ⟨(some 3), (.alc [.snil, .snil]), [], none⟩, ⟨none, (.st 2), [(.t 3), (.t 12)], none⟩, ⟨(some 4), .mv, [(.t 13)], none⟩]) (.seq (.seq (.reg [⟨(some 14), .mv, [(.t 4)], none⟩, ⟨(some 15), .not, [(.t 14)], none⟩]) (.cond (.t 15) (.seq (.reg [⟨(some 16), (.bld [(.int .i64 0), .snil, .snil] [(0, 1)]), [(.c (.int .i64 1))], none⟩, ⟨none, (.st 3), [(.t 2), (.t 16)], none⟩]) .ret) .skip)) (.seq (.reg [⟨(some 17), (.ldn 2), [(.t 3)], none⟩, ⟨(some 18), (.bld [(.int .i64 0), .snil, .snil] [(0, 1), (1, 2)]), [(.c (.int .i64 2)), (.t 17)], none⟩, ⟨none, (.st 3), [(.t 2), (.t 18)], none⟩]) .ret)))))
theorem b_impl_AskEmpty : Body Try.prog 58 19 c_impl_AskEmpty [(.cn 2 3)] := body_mk Try.func58 (by kernel_rfl) (by decide)

def c_laws_eqResult : ICode := (.seq (.reg [⟨(some 2), (.box 3), [(.t 0)], none⟩, ⟨(some 3), (.box 3), [(.t 1)], none⟩, ⟨(some 4), .mv, [(.c (.bool false))], none⟩]) (.seq (.seq (.reg [⟨(some 5), (.fadr 0), [(.t 2)], none⟩, ⟨(some 6), .ld1, [(.t 5)], none⟩, ⟨(some 7), (.fadr 0), [(.t 3)], none⟩, ⟨(some 8), .ld1, [(.t 7)], none⟩, ⟨(some 9), (.bin .neq), [(.t 6), (.t 8)], none⟩]) (.cond (.t 9) (.seq (.reg [⟨(some 4), .mv, [(.c (.bool false))], none⟩]) .ret) .skip)) (.seq (.seq (.reg [⟨(some 10), (.fadr 1), [(.t 2)], none⟩, ⟨(some 11), (.ldn 2), [(.t 10)], none⟩, ⟨(some 12), (.fadr 1), [(.t 3)], none⟩, ⟨(some 13), (.ldn 2), [(.t 12)], none⟩, ⟨(some 14), (.call 17), [(.t 11), (.t 13)], none⟩, ⟨(some 15), .not, [(.t 14)], none⟩]) (.cond (.t 15) (.seq (.reg [⟨(some 4), .mv, [(.c (.bool false))], none⟩]) .ret) .skip)) (.seq (.reg [⟨(some 4), .mv, [(.c (.bool true))], none⟩]) .ret))))
theorem b_laws_eqResult : Body Try.prog 56 16 c_laws_eqResult [(.t 4)] := body_mk Try.func56 (by kernel_rfl) (by decide)

def c_laws_markResult : ICode := (.seq (.reg [⟨(some 2), (.box 3), [(.t 0)], none⟩, ⟨(some 4), .mv, [(.c (.int .i64 0))], none⟩]) (.seq (.reg [⟨(some 5), (.fadr 1), [(.t 2)], none⟩, ⟨(some 6), (.ldn 2), [(.t 5)], none⟩, ⟨(some 7), .mv, [(.t 1)], none⟩, ⟨(some 8), (.call 25), [(.t 6), (.t 7)], none⟩, ⟨(some 1), .mv, [(.t 8)], none⟩]) (.seq (.reg [⟨(some 9), .mv, [(.t 1)], none⟩, ⟨(some 4), .mv, [(.t 9)], none⟩]) .ret)))
theorem b_laws_markResult : Body Try.prog 59 10 c_laws_markResult [(.t 4)] := body_mk Try.func59 (by kernel_rfl) (by decide)

def c_laws_heldResult : ICode := (.seq (.reg [⟨(some 2), (.box 3), [(.t 0)], none⟩, ⟨(some 4), .mv, [(.c (.int .i64 0))], none⟩]) (.seq (.reg [⟨(some 5), (.fadr 1), [(.t 2)], none⟩, ⟨(some 6), (.ldn 2), [(.t 5)], none⟩, ⟨(some 7), .mv, [(.t 1)], none⟩, ⟨(some 8), (.call 26), [(.t 6), (.t 7)], none⟩, ⟨(some 1), .mv, [(.t 8)], none⟩]) (.seq (.seq (.reg [⟨(some 9), .mv, [(.t 1)], none⟩, ⟨(some 10), (.bin .lss), [(.t 9), (.c (.int .i64 0))], none⟩]) (.cond (.t 10) (.seq (.reg [⟨(some 4), .mv, [(.c (.int .i64 (-1)))], none⟩]) .ret) .skip)) (.seq (.reg [⟨(some 11), .mv, [(.t 1)], none⟩, ⟨(some 4), .mv, [(.t 11)], none⟩]) .ret))))
theorem b_laws_heldResult : Body Try.prog 60 12 c_laws_heldResult [(.t 4)] := body_mk Try.func60 (by kernel_rfl) (by decide)


/-- a result: its code, its word -/
def resR (c : Int) (w : List Int × List Int) : AV := .agg [.int .i64 c, .ref 0 0 w.1.length, .ref 1 0 w.2.length]
def resO (w : List Int × List Int) : List AObj := [.arr 1 (ints w.1), .arr 1 (ints w.2)]
/-- what is answered -/
noncomputable def sayA (a : AutoD) : Int × (List Int × List Int) := open Classical in if AutoOk a then (if (autoW a).2 = true then (2, (autoW a).1) else (1, ([], []))) else (4, ([], []))

theorem RAWord_at {xs : List AV} {a : AutoD} (hx : xs = [.agg (autoRow a)]) (h : AutoOk a) : RAWord xs (wordR (autoW a)) (wordO (autoW a)) := ⟨a, hx, by rw [if_pos h], by rw [if_pos h]⟩

def GFound : GFun := fun xs objs Q => ∃ (s l : List Int) (ok : Bool), xs = [.agg [.ref 0 0 s.length, .ref 1 0 l.length], .bool ok] ∧ objs = [.arr 1 (ints s), .arr 1 (ints l)] ∧
  (ok = true → Q (.agg [.int .i64 2, .ref 0 0 s.length, .ref 1 0 l.length]) [some (.arr 1 (ints s)), some (.arr 1 (ints l))]) ∧ (ok = false → Q (.agg [.int .i64 1, .snil, .snil]) [some (.arr 1 (ints s)), some (.arr 1 (ints l))])
theorem GFound_mk {s l : List Int} {ok : Bool} {Q : AV → List (Option AObj) → Prop} (h1 : ok = true → Q (.agg [.int .i64 2, .ref 0 0 s.length, .ref 1 0 l.length]) [some (.arr 1 (ints s)), some (.arr 1 (ints l))])
    (h2 : ok = false → Q (.agg [.int .i64 1, .snil, .snil]) [some (.arr 1 (ints s)), some (.arr 1 (ints l))]) : GFound [.agg [.ref 0 0 s.length, .ref 1 0 l.length], .bool ok] [.arr 1 (ints s), .arr 1 (ints l)] Q := ⟨s, l, ok, rfl, rfl, h1, h2⟩

theorem s_spec_l16Found : GenSound Try.prog 128 2 GFound := by
  have hR : Rely Try.prog (ctxOf []) := rely_nil mixed
  refine gen_of_aw b_spec_l16Found ?_
  rintro xs objs Q - ⟨s, l, ok, rfl, rfl, h1, h2⟩ -
  refine ⟨by simp, vc2_sound hR _ _ _ _ _ ?_⟩
  cases ok
  · conv => whnf
    repeat' ((first
      | contradiction
      | (refine And.intro (fun hb => ?_) (fun hb => ?_) <;> first | contradiction | ((try simp only [SB, reduceCtorEq] at hb); try (exfalso; first | contradiction | omega)))
      | refine And.intro rfl ?_
      | refine ⟨_, IntWalk.i64_in _ (by omega), ?_⟩
      | rw [ints_at (by omega)]
      | rw [ints_at0 (by omega)]
      | rw [ints_at' (by omega) (by omega)]
      | refine And.intro (lens_all rfl) ?_
      | refine And.intro (show _ ≤ _ ∧ (_ + 1) * _ ≤ _ ∧ _ + 1 ≤ _ by first | omega | (simp; omega)) ?_
      | refine And.intro (show 1 * _ ≤ _ ∧ 1 ≤ _ by omega) ?_
      | refine And.intro (by first | omega | (simp; omega) | (show _ ∧ _; simp; done)) ?_
      | fail) <;> conv => whnf)
    refine ⟨.inl rfl, ?_⟩
    conv => whnf
    refine ⟨Nat.le_refl 3, [some 0, some 1], .agg [.int .i64 1, .snil, .snil], [some (.arr 1 (ints s)), some (.arr 1 (ints l))], ⟨rfl, And.intro (And.intro rfl rfl) (And.intro (And.intro rfl rfl) trivial)⟩, ?_, rfl, h2 rfl⟩
    exact ⟨.inl rfl, .inl rfl, .inl rfl, trivial⟩
  · conv => whnf
    repeat' ((first
      | contradiction
      | (refine And.intro (fun hb => ?_) (fun hb => ?_) <;> first | contradiction | ((try simp only [SB, reduceCtorEq] at hb); try (exfalso; first | contradiction | omega)))
      | refine And.intro rfl ?_
      | refine ⟨_, IntWalk.i64_in _ (by omega), ?_⟩
      | rw [ints_at (by omega)]
      | rw [ints_at0 (by omega)]
      | rw [ints_at' (by omega) (by omega)]
      | refine And.intro (lens_all rfl) ?_
      | refine And.intro (show _ ≤ _ ∧ (_ + 1) * _ ≤ _ ∧ _ + 1 ≤ _ by first | omega | (simp; omega)) ?_
      | refine And.intro (show 1 * _ ≤ _ ∧ 1 ≤ _ by omega) ?_
      | refine And.intro (by first | omega | (simp; omega) | (show _ ∧ _; simp; done)) ?_
      | fail) <;> conv => whnf)
    refine ⟨.inl rfl, ?_⟩
    conv => whnf
    refine ⟨Nat.le_refl 3, [some 0, some 1], .agg [.int .i64 2, .ref 0 0 s.length, .ref 1 0 l.length], [some (.arr 1 (ints s)), some (.arr 1 (ints l))], ⟨rfl, And.intro (And.intro rfl rfl) (And.intro (And.intro rfl rfl) trivial)⟩, ?_, rfl, h1 rfl⟩
    exact ⟨.inl rfl, rfl, rfl, trivial⟩

def RAsk (xs : List AV) (r : AV) (objs : List AObj) : Prop := ∃ a, xs = [.agg (autoRow a)] ∧ r = resR (sayA a).1 (sayA a).2 ∧ objs = resO (sayA a).2
theorem RAsk_eq {xs : List AV} {a : AutoD} (hx : xs = [.agg (autoRow a)]) : RAsk xs (resR (sayA a).1 (sayA a).2) (resO (sayA a).2) := ⟨a, hx, rfl, rfl⟩

set_option maxHeartbeats 2000000 in
theorem s_spec_AskEmpty : PureSound Try.prog 57 RAsk := by
  have hR : Rely Try.prog (ctxOf [(70, .pure RAutoOk), (47, .pure RAWord), (128, .gen 2 GFound)]) :=
    rely_cons b_spec_AutoOk.has s_spec_AutoOk (rely_cons b_spec_AutoWord.has s_spec_AutoWord (rely_cons b_spec_l16Found.has s_spec_l16Found (rely_nil mixed)))
  refine pure_of_aw b_spec_AskEmpty ?_
  rintro xs r objs ⟨a, rfl, rfl, rfl⟩ -
  refine ⟨by simp, vc2_sound hR _ _ _ _ _ ?_⟩
  unfold sayA
  by_cases ha : AutoOk a
  · have hg : ∀ xs, xs = [.agg (autoRow a)] → RAWord xs (wordR (autoW a)) (wordO (autoW a)) := fun xs h => RAWord_at h ha
    rw [if_pos ha]
    generalize autoW a = g at *
    obtain ⟨⟨s, l⟩, ok⟩ := g
    cases ok
    · conv => whnf
      repeat' ((first
        | contradiction
        | (refine And.intro (fun hb => ?_) (fun hb => ?_) <;> first | contradiction | ((try simp only [SB, reduceCtorEq] at hb); try (exfalso; first | contradiction | omega)))
        | refine And.intro rfl ?_
        | refine ⟨_, IntWalk.i64_in _ (by omega), ?_⟩
        | rw [ints_at (by omega)]
        | rw [ints_at0 (by omega)]
        | rw [ints_at' (by omega) (by omega)]
        | refine And.intro (lens_all rfl) ?_
        | refine And.intro (show _ ≤ _ ∧ (_ + 1) * _ ≤ _ ∧ _ + 1 ≤ _ by first | omega | (simp; omega)) ?_
        | refine And.intro (show 1 * _ ≤ _ ∧ 1 ≤ _ by omega) ?_
        | refine And.intro (by first | omega | (simp; omega) | (show _ ∧ _; simp; done)) ?_
        | refine ⟨_, _, RAutoOk_mk, ?_⟩
        | refine ⟨_, _, hg _ rfl, ?_⟩
        | refine ⟨GFound_mk (s := s) (l := l) (ok := false) (fun h => by cases h) (fun _ => ?_)⟩
        | fail) <;> conv => whnf)
      refine ⟨.inl rfl, ?_⟩
      conv => whnf
      exact ⟨Nat.le_refl 3, [none, none], ⟨rfl, And.intro rfl (And.intro rfl trivial)⟩, ⟨.inl rfl, ⟨rfl, rfl, rfl⟩, ⟨rfl, rfl, rfl⟩, trivial⟩, rfl, rfl⟩
    · conv => whnf
      repeat' ((first
        | contradiction
        | (refine And.intro (fun hb => ?_) (fun hb => ?_) <;> first | contradiction | ((try simp only [SB, reduceCtorEq] at hb); try (exfalso; first | contradiction | omega)))
        | refine And.intro rfl ?_
        | refine ⟨_, IntWalk.i64_in _ (by omega), ?_⟩
        | rw [ints_at (by omega)]
        | rw [ints_at0 (by omega)]
        | rw [ints_at' (by omega) (by omega)]
        | refine And.intro (lens_all rfl) ?_
        | refine And.intro (show _ ≤ _ ∧ (_ + 1) * _ ≤ _ ∧ _ + 1 ≤ _ by first | omega | (simp; omega)) ?_
        | refine And.intro (show 1 * _ ≤ _ ∧ 1 ≤ _ by omega) ?_
        | refine And.intro (by first | omega | (simp; omega) | (show _ ∧ _; simp; done)) ?_
        | refine ⟨_, _, RAutoOk_mk, ?_⟩
        | refine ⟨_, _, hg _ rfl, ?_⟩
        | refine ⟨GFound_mk (s := s) (l := l) (ok := true) (fun _ => ?_) (fun h => by cases h)⟩
        | fail) <;> conv => whnf)
      refine ⟨.inl rfl, ?_⟩
      conv => whnf
      exact ⟨Nat.le_refl 3, [some 2, some 3], ⟨rfl, And.intro (And.intro rfl rfl) (And.intro (And.intro rfl rfl) trivial)⟩, ⟨.inl rfl, rfl, rfl, trivial⟩, rfl, by simp [resO, AObj.nov, ints_nov]⟩
  · rw [if_neg ha]
    conv => whnf
    repeat' ((first
      | contradiction
      | (refine And.intro (fun hb => ?_) (fun hb => ?_) <;> first | contradiction | ((try simp only [SB, reduceCtorEq] at hb); try (exfalso; first | contradiction | omega)))
      | refine And.intro rfl ?_
      | refine ⟨_, IntWalk.i64_in _ (by omega), ?_⟩
      | rw [ints_at (by omega)]
      | rw [ints_at0 (by omega)]
      | rw [ints_at' (by omega) (by omega)]
      | refine And.intro (lens_all rfl) ?_
      | refine And.intro (show _ ≤ _ ∧ (_ + 1) * _ ≤ _ ∧ _ + 1 ≤ _ by first | omega | (simp; omega)) ?_
      | refine And.intro (show 1 * _ ≤ _ ∧ 1 ≤ _ by omega) ?_
      | refine And.intro (by first | omega | (simp; omega) | (show _ ∧ _; simp; done)) ?_
      | refine ⟨_, _, RAutoOk_mk, ?_⟩
      | fail) <;> conv => whnf)
    refine ⟨.inl rfl, ?_⟩
    conv => whnf
    exact ⟨Nat.le_refl 3, [none, none], ⟨rfl, And.intro rfl (And.intro rfl trivial)⟩, ⟨.inl rfl, ⟨rfl, rfl, rfl⟩, ⟨rfl, rfl, rfl⟩, trivial⟩, rfl, rfl⟩

set_option maxHeartbeats 2000000 in
theorem s_impl_AskEmpty : PureSound Try.prog 58 RAsk := by
  have hR : Rely Try.prog (ctxOf [(73, .pure RAutoOk), (49, .pure RAWord)]) :=
    rely_cons b_impl_AutoOk.has s_impl_AutoOk (rely_cons b_impl_AutoWord.has s_impl_AutoWord (rely_nil mixed))
  refine pure_of_aw b_impl_AskEmpty ?_
  rintro xs r objs ⟨a, rfl, rfl, rfl⟩ -
  refine ⟨by simp, vc2_sound hR _ _ _ _ _ ?_⟩
  unfold sayA
  by_cases ha : AutoOk a
  · have hg : ∀ xs, xs = [.agg (autoRow a)] → RAWord xs (wordR (autoW a)) (wordO (autoW a)) := fun xs h => RAWord_at h ha
    rw [if_pos ha]
    generalize autoW a = g at *
    obtain ⟨⟨s, l⟩, ok⟩ := g
    cases ok
    · conv => whnf
      repeat' ((first
        | contradiction
        | (refine And.intro (fun hb => ?_) (fun hb => ?_) <;> first | contradiction | ((try simp only [SB, reduceCtorEq] at hb); try (exfalso; first | contradiction | omega)))
        | refine And.intro rfl ?_
        | refine ⟨_, IntWalk.i64_in _ (by omega), ?_⟩
        | rw [ints_at (by omega)]
        | rw [ints_at0 (by omega)]
        | rw [ints_at' (by omega) (by omega)]
        | refine And.intro (lens_all rfl) ?_
        | refine And.intro (show _ ≤ _ ∧ (_ + 1) * _ ≤ _ ∧ _ + 1 ≤ _ by first | omega | (simp; omega)) ?_
        | refine And.intro (show 1 * _ ≤ _ ∧ 1 ≤ _ by omega) ?_
        | refine And.intro (by first | omega | (simp; omega) | (show _ ∧ _; simp; done)) ?_
        | refine ⟨_, _, RAutoOk_mk, ?_⟩
        | refine ⟨_, _, hg _ rfl, ?_⟩
        | fail) <;> conv => whnf)
      refine ⟨.inl rfl, ?_⟩
      conv => whnf
      exact ⟨Nat.le_refl 3, [none, none], ⟨rfl, And.intro rfl (And.intro rfl trivial)⟩, ⟨.inl rfl, ⟨rfl, rfl, rfl⟩, ⟨rfl, rfl, rfl⟩, trivial⟩, rfl, rfl⟩
    · conv => whnf
      repeat' ((first
        | contradiction
        | (refine And.intro (fun hb => ?_) (fun hb => ?_) <;> first | contradiction | ((try simp only [SB, reduceCtorEq] at hb); try (exfalso; first | contradiction | omega)))
        | refine And.intro rfl ?_
        | refine ⟨_, IntWalk.i64_in _ (by omega), ?_⟩
        | rw [ints_at (by omega)]
        | rw [ints_at0 (by omega)]
        | rw [ints_at' (by omega) (by omega)]
        | refine And.intro (lens_all rfl) ?_
        | refine And.intro (show _ ≤ _ ∧ (_ + 1) * _ ≤ _ ∧ _ + 1 ≤ _ by first | omega | (simp; omega)) ?_
        | refine And.intro (show 1 * _ ≤ _ ∧ 1 ≤ _ by omega) ?_
        | refine And.intro (by first | omega | (simp; omega) | (show _ ∧ _; simp; done)) ?_
        | refine ⟨_, _, RAutoOk_mk, ?_⟩
        | refine ⟨_, _, hg _ rfl, ?_⟩
        | fail) <;> conv => whnf)
      refine ⟨.inl rfl, ?_⟩
      conv => whnf
      exact ⟨Nat.le_refl 3, [some 2, some 3], ⟨rfl, And.intro (And.intro rfl rfl) (And.intro (And.intro rfl rfl) trivial)⟩, ⟨.inl rfl, rfl, rfl, trivial⟩, rfl, by simp [resO, AObj.nov, ints_nov]⟩
  · rw [if_neg ha]
    conv => whnf
    repeat' ((first
      | contradiction
      | (refine And.intro (fun hb => ?_) (fun hb => ?_) <;> first | contradiction | ((try simp only [SB, reduceCtorEq] at hb); try (exfalso; first | contradiction | omega)))
      | refine And.intro rfl ?_
      | refine ⟨_, IntWalk.i64_in _ (by omega), ?_⟩
      | rw [ints_at (by omega)]
      | rw [ints_at0 (by omega)]
      | rw [ints_at' (by omega) (by omega)]
      | refine And.intro (lens_all rfl) ?_
      | refine And.intro (show _ ≤ _ ∧ (_ + 1) * _ ≤ _ ∧ _ + 1 ≤ _ by first | omega | (simp; omega)) ?_
      | refine And.intro (show 1 * _ ≤ _ ∧ 1 ≤ _ by omega) ?_
      | refine And.intro (by first | omega | (simp; omega) | (show _ ∧ _; simp; done)) ?_
      | refine ⟨_, _, RAutoOk_mk, ?_⟩
      | fail) <;> conv => whnf)
    refine ⟨.inl rfl, ?_⟩
    conv => whnf
    exact ⟨Nat.le_refl 3, [none, none], ⟨rfl, And.intro rfl (And.intro rfl trivial)⟩, ⟨.inl rfl, ⟨rfl, rfl, rfl⟩, ⟨rfl, rfl, rfl⟩, trivial⟩, rfl, rfl⟩

/-! ### the laws' helpers -/

abbrev resV (c : Int) (s l : List Int) : AV := .agg [.int .i64 c, .val (ints s), .val (ints l)]
def REqRes (xs : List AV) (r : AV) (objs : List AObj) : Prop := ∃ c s l c' s' l', xs = [resV c s l, resV c' s' l'] ∧ r = .bool (decide (c = c') && (decide (s = s') && decide (l = l'))) ∧ objs = []
theorem REqRes_eq {xs : List AV} {c c' : Int} {s l s' l' : List Int} (h : xs = [resV c s l, resV c' s' l']) : REqRes xs (.bool (decide (c = c') && (decide (s = s') && decide (l = l')))) [] := ⟨c, s, l, c', s', l', h, rfl, rfl⟩
theorem s_laws_eqResult : PureSound Try.prog 56 REqRes := by
  have hR : Rely Try.prog (ctxOf [(17, .pure REqWord)]) := rely_cons b_laws_eqWord.has s_laws_eqWord (rely_nil mixed)
  refine pure_of_aw b_laws_eqResult ?_
  rintro xs r objs ⟨c, s, l, c', s', l', rfl, rfl, rfl⟩ -
  refine ⟨by simp, vc2_sound hR _ _ _ _ _ ?_⟩
  conv => whnf
  repeat' ((first
    | contradiction
    | (refine And.intro (fun hb => ?_) (fun hb => ?_) <;> first | contradiction | ((try simp only [SB, reduceCtorEq] at hb); try (exfalso; first | contradiction | omega)))
    | refine And.intro rfl ?_
    | refine ⟨_, IntWalk.i64_in _ (by omega), ?_⟩
    | rw [ints_at (by omega)]
    | rw [ints_at0 (by omega)]
    | rw [ints_at' (by omega) (by omega)]
    | refine And.intro (lens_all rfl) ?_
    | refine And.intro (show _ ≤ _ ∧ (_ + 1) * _ ≤ _ ∧ _ + 1 ≤ _ by first | omega | (simp; omega)) ?_
    | refine And.intro (show 1 * _ ≤ _ ∧ 1 ≤ _ by omega) ?_
    | refine And.intro (by first | omega | (simp; omega) | (show _ ∧ _; simp; done)) ?_
    | refine ⟨_, _, REqWord_eq rfl, ?_⟩
    | fail) <;> conv => whnf)
  all_goals
    refine ⟨.inl rfl, ?_⟩
    conv => whnf
    refine ⟨[], ⟨rfl, trivial⟩, ?_, rfl, rfl⟩
    conv => whnf
    left
    conv => lhs; whnf
    refine congrArg AV.bool ?_
    simp_all

def GMarkRes : GFun := fun xs objs Q => ∃ c s l k, xs = [.agg [.int .i64 c, .ref 0 0 s.length, .ref 1 0 l.length], .int .i64 k] ∧ objs = [.arr 1 (ints s), .arr 1 (ints l)] ∧ s.length ≤ 1073741824 ∧ l.length ≤ 1073741824 ∧ 0 ≤ k ∧ k ≤ 1073741824 ∧
  Q (.int .i64 (k + s.length + l.length)) [some (.arr 1 (ints (marks k s.length))), some (.arr 1 (ints (marks (k + s.length) l.length)))]
theorem GMarkRes_mk {c : Int} {s l : List Int} {k : Int} {Q : AV → List (Option AObj) → Prop} (h1 : s.length ≤ 1073741824) (h1' : l.length ≤ 1073741824) (h2 : 0 ≤ k) (h3 : k ≤ 1073741824)
    (hq : Q (.int .i64 (k + s.length + l.length)) [some (.arr 1 (ints (marks k s.length))), some (.arr 1 (ints (marks (k + s.length) l.length)))]) :
    GMarkRes [.agg [.int .i64 c, .ref 0 0 s.length, .ref 1 0 l.length], .int .i64 k] [.arr 1 (ints s), .arr 1 (ints l)] Q := ⟨c, s, l, k, rfl, rfl, h1, h1', h2, h3, hq⟩
theorem s_laws_markResult : GenSound Try.prog 59 2 GMarkRes := by
  have hR : Rely Try.prog (ctxOf [(25, .gen 2 GMarkWord)]) := rely_cons b_laws_markWord.has s_laws_markWord (rely_nil mixed)
  refine gen_of_aw b_laws_markResult ?_
  rintro xs objs Q - ⟨c, s, l, k, rfl, rfl, h1, h1', h2, h3, hq⟩ -
  refine ⟨by simp, vc2_sound hR _ _ _ _ _ ?_⟩
  conv => whnf
  repeat' ((first
    | contradiction
    | (refine And.intro (fun hb => ?_) (fun hb => ?_) <;> first | contradiction | ((try simp only [SB, reduceCtorEq] at hb); try (exfalso; first | contradiction | omega)))
    | refine And.intro rfl ?_
    | refine ⟨_, IntWalk.i64_in _ (by omega), ?_⟩
    | rw [ints_at (by omega)]
    | rw [ints_at0 (by omega)]
    | rw [ints_at' (by omega) (by omega)]
    | refine And.intro (lens_all rfl) ?_
    | refine And.intro (show _ ≤ _ ∧ (_ + 1) * _ ≤ _ ∧ _ + 1 ≤ _ by first | omega | (simp; omega)) ?_
    | refine And.intro (show 1 * _ ≤ _ ∧ 1 ≤ _ by omega) ?_
    | refine And.intro (by first | omega | (simp; omega) | (show _ ∧ _; simp; done)) ?_
    | refine ⟨GMarkWord_mk (by omega) (by omega) (by omega) (by omega) ?_⟩
    | fail) <;> conv => whnf)
  refine ⟨.inl rfl, ?_⟩
  conv => whnf
  exact ⟨[some 0, some 1], .int .i64 (k + s.length + l.length), [some (.arr 1 (ints (marks k s.length))), some (.arr 1 (ints (marks (k + s.length) l.length)))], ⟨rfl, And.intro (And.intro rfl rfl) (And.intro (And.intro rfl rfl) trivial)⟩, .inl rfl, rfl, hq⟩

def RHeldRes (xs : List AV) (r : AV) (objs : List AObj) : Prop := ∃ c s l k, xs = [resV c s l, .int .i64 k] ∧ s.length ≤ 1073741824 ∧ l.length ≤ 1073741824 ∧ 0 ≤ k ∧ k ≤ 1073741824 ∧ r = .int .i64 (heldW s l k) ∧ objs = []
theorem RHeldRes_eq {xs : List AV} {c : Int} {s l : List Int} {k : Int} (h : xs = [resV c s l, .int .i64 k]) (h1 : s.length ≤ 1073741824) (h1' : l.length ≤ 1073741824) (h2 : 0 ≤ k) (h3 : k ≤ 1073741824) : RHeldRes xs (.int .i64 (heldW s l k)) [] :=
  ⟨c, s, l, k, h, h1, h1', h2, h3, rfl, rfl⟩
theorem s_laws_heldResult : PureSound Try.prog 60 RHeldRes := by
  have hR : Rely Try.prog (ctxOf [(26, .pure RHeldWord)]) := rely_cons b_laws_heldWord.has s_laws_heldWord (rely_nil mixed)
  refine pure_of_aw b_laws_heldResult ?_
  rintro xs r objs ⟨c, s, l, k, rfl, h1, h1', h2, h3, rfl, rfl⟩ -
  have hm : 0 ≤ heldW s l k ∨ heldW s l k = -1 := by
    unfold heldW
    split
    · exact .inr rfl
    · split
      · exact .inr rfl
      · exact .inl (by omega)
  refine ⟨by simp, vc2_sound hR _ _ _ _ _ ?_⟩
  conv => whnf
  repeat' ((first
    | contradiction
    | (refine And.intro (fun hb => ?_) (fun hb => ?_) <;> first | contradiction | ((try simp only [SB, reduceCtorEq] at hb); try (exfalso; first | contradiction | omega)))
    | refine And.intro rfl ?_
    | refine ⟨_, IntWalk.i64_in _ (by omega), ?_⟩
    | rw [ints_at (by omega)]
    | rw [ints_at0 (by omega)]
    | rw [ints_at' (by omega) (by omega)]
    | refine And.intro (lens_all rfl) ?_
    | refine And.intro (show _ ≤ _ ∧ (_ + 1) * _ ≤ _ ∧ _ + 1 ≤ _ by first | omega | (simp; omega)) ?_
    | refine And.intro (show 1 * _ ≤ _ ∧ 1 ≤ _ by omega) ?_
    | refine And.intro (by first | omega | (simp; omega) | (show _ ∧ _; simp; done)) ?_
    | refine ⟨_, _, RHeldWord_eq (s := s) (l := l) (k := k) rfl (by omega) (by omega) (by omega) (by omega), ?_⟩
    | fail) <;> conv => whnf)
  all_goals
    refine ⟨.inl rfl, ?_⟩
    conv => whnf
    refine ⟨[], ⟨rfl, trivial⟩, ?_, rfl, rfl⟩
    conv => whnf
    left
    conv => lhs; whnf
    try exact congrArg (AV.int .i64) (by omega)

end Go.Proofs.Ytpfbkblgefddlaa.Ct
