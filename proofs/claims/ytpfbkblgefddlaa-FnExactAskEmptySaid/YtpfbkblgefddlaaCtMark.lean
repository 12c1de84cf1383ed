/- The laws' marks: lists of numbers are written over, and read again. -/
import Derived.Test.YtpfbkblgefddlaaCtEqW
import Derived.Test.YtpfbkblgefddlaaAvVc2
namespace Go.Proofs.Ytpfbkblgefddlaa.Ct
set_option linter.unusedSimpArgs false
set_option linter.unusedVariables false
open Go Go.Proofs Go.Proofs.Ytpfbkblgefddlaa.Av

def c_laws_markIntS : ICode := (.seq (.reg [⟨(some 4), .mv, [(.c (.int .i64 0))], none⟩]) (.seq (.seq (.reg [⟨(some 5), .mv, [(.c (.int .i64 0))], none⟩]) (.block 0 (.loop (.seq (.seq (.reg [⟨(some 6), .mv, [(.t 5)], none⟩, ⟨(some 7), .mv, [(.t 0)], none⟩, ⟨(some 8), .len, [(.t 7)], none⟩, ⟨(some 9), (.bin .lss), [(.t 6), (.t 8)], none⟩]) (.cond (.t 9) .skip (.exit 0))) (.seq (.block 1 (.seq (.reg [⟨(some 12), .mv, [(.t 0)], none⟩, ⟨(some 13), .mv, [(.t 5)], none⟩, ⟨(some 14), .mv, [(.t 1)], none⟩, ⟨(some 15), (.iadr 1), [(.t 12), (.t 13)], none⟩, ⟨none, (.st 1), [(.t 15), (.t 14)], none⟩]) (.reg [⟨(some 16), .mv, [(.t 1)], none⟩, ⟨(some 17), (.bin .add), [(.t 16), (.c (.int .i64 1))], none⟩, ⟨(some 1), .mv, [(.t 17)], none⟩]))) (.reg [⟨(some 10), .mv, [(.t 5)], none⟩, ⟨(some 11), (.bin .add), [(.t 10), (.c (.int .i64 1))], none⟩, ⟨(some 5), .mv, [(.t 11)], none⟩])))))) (.seq (.reg [⟨(some 18), .mv, [(.t 1)], none⟩, ⟨(some 4), .mv, [(.t 18)], none⟩]) .ret)))
theorem b_laws_markIntS : Body Try.prog 79 19 c_laws_markIntS [(.t 4)] := body_mk Try.func79 (by kernel_rfl) (by decide)

def c_laws_heldIntS : ICode := (.seq (.reg [⟨(some 4), .mv, [(.c (.int .i64 0))], none⟩]) (.seq (.seq (.reg [⟨(some 5), .mv, [(.c (.int .i64 0))], none⟩]) (.block 0 (.loop (.seq (.seq (.reg [⟨(some 6), .mv, [(.t 5)], none⟩, ⟨(some 7), .mv, [(.t 0)], none⟩, ⟨(some 8), .len, [(.t 7)], none⟩, ⟨(some 9), (.bin .lss), [(.t 6), (.t 8)], none⟩]) (.cond (.t 9) .skip (.exit 0))) (.seq (.block 1 (.seq (.seq (.reg [⟨(some 12), .mv, [(.t 0)], none⟩, ⟨(some 13), .mv, [(.t 5)], none⟩, ⟨(some 14), (.iadr 1), [(.t 12), (.t 13)], none⟩, ⟨(some 15), .ld1, [(.t 14)], none⟩, ⟨(some 16), .mv, [(.t 1)], none⟩, ⟨(some 17), (.bin .neq), [(.t 15), (.t 16)], none⟩]) (.cond (.t 17) (.seq (.reg [⟨(some 4), .mv, [(.c (.int .i64 (-1)))], none⟩]) .ret) .skip)) (.reg [⟨(some 18), .mv, [(.t 1)], none⟩, ⟨(some 19), (.bin .add), [(.t 18), (.c (.int .i64 1))], none⟩, ⟨(some 1), .mv, [(.t 19)], none⟩]))) (.reg [⟨(some 10), .mv, [(.t 5)], none⟩, ⟨(some 11), (.bin .add), [(.t 10), (.c (.int .i64 1))], none⟩, ⟨(some 5), .mv, [(.t 11)], none⟩])))))) (.seq (.reg [⟨(some 20), .mv, [(.t 1)], none⟩, ⟨(some 4), .mv, [(.t 20)], none⟩]) .ret)))
theorem b_laws_heldIntS : Body Try.prog 80 21 c_laws_heldIntS [(.t 4)] := body_mk Try.func80 (by kernel_rfl) (by decide)

def c_laws_markWord : ICode := (.seq (.reg [⟨(some 2), (.box 2), [(.t 0)], none⟩, ⟨(some 4), .mv, [(.c (.int .i64 0))], none⟩]) (.seq (.reg [⟨(some 5), (.fadr 0), [(.t 2)], none⟩, ⟨(some 6), .ld1, [(.t 5)], none⟩, ⟨(some 7), .mv, [(.t 1)], none⟩, ⟨(some 8), (.call 79), [(.t 6), (.t 7)], none⟩, ⟨(some 1), .mv, [(.t 8)], none⟩]) (.seq (.reg [⟨(some 9), (.fadr 1), [(.t 2)], none⟩, ⟨(some 10), .ld1, [(.t 9)], none⟩, ⟨(some 11), .mv, [(.t 1)], none⟩, ⟨(some 12), (.call 79), [(.t 10), (.t 11)], none⟩, ⟨(some 1), .mv, [(.t 12)], none⟩]) (.seq (.reg [⟨(some 13), .mv, [(.t 1)], none⟩, ⟨(some 4), .mv, [(.t 13)], none⟩]) .ret))))
theorem b_laws_markWord : Body Try.prog 25 14 c_laws_markWord [(.t 4)] := body_mk Try.func25 (by kernel_rfl) (by decide)

def c_laws_heldWord : ICode := (.seq (.reg [⟨(some 2), (.box 2), [(.t 0)], none⟩, ⟨(some 4), .mv, [(.c (.int .i64 0))], none⟩]) (.seq (.reg [⟨(some 5), (.fadr 0), [(.t 2)], none⟩, ⟨(some 6), .ld1, [(.t 5)], none⟩, ⟨(some 7), .mv, [(.t 1)], none⟩, ⟨(some 8), (.call 80), [(.t 6), (.t 7)], none⟩, ⟨(some 1), .mv, [(.t 8)], none⟩]) (.seq (.seq (.reg [⟨(some 9), .mv, [(.t 1)], none⟩, ⟨(some 10), (.bin .lss), [(.t 9), (.c (.int .i64 0))], none⟩]) (.cond (.t 10) (.seq (.reg [⟨(some 4), .mv, [(.c (.int .i64 (-1)))], none⟩]) .ret) .skip)) (.seq (.reg [⟨(some 11), (.fadr 1), [(.t 2)], none⟩, ⟨(some 12), .ld1, [(.t 11)], none⟩, ⟨(some 13), .mv, [(.t 1)], none⟩, ⟨(some 14), (.call 80), [(.t 12), (.t 13)], none⟩, ⟨(some 1), .mv, [(.t 14)], none⟩]) (.seq (.seq (.reg [⟨(some 15), .mv, [(.t 1)], none⟩, ⟨(some 16), (.bin .lss), [(.t 15), (.c (.int .i64 0))], none⟩]) (.cond (.t 16) (.seq (.reg [⟨(some 4), .mv, [(.c (.int .i64 (-1)))], none⟩]) .ret) .skip)) (.seq (.reg [⟨(some 17), .mv, [(.t 1)], none⟩, ⟨(some 4), .mv, [(.t 17)], none⟩]) .ret))))))
theorem b_laws_heldWord : Body Try.prog 26 18 c_laws_heldWord [(.t 4)] := body_mk Try.func26 (by kernel_rfl) (by decide)


/-- numbers from k on -/
def marks (k : Int) (n : Nat) : List Int := (List.range n).map fun i => k + (i : Nat)

@[simp] theorem length_marks (k : Int) (n : Nat) : (marks k n).length = n := by simp [marks]
theorem marks_at {k : Int} {n i : Nat} (h : i < n) : (marks k n).getD i 0 = k + i := by simp [marks, h]

theorem set_step {l : List Int} {k : Int} {i : Nat} (hi : i < l.length) : (ints (marks k i ++ l.drop i)).set i [.int .i64 (k + i)] = ints (marks k (i + 1) ++ l.drop (i + 1)) := by
  have e : l.drop i = l.getD i 0 :: l.drop (i + 1) := by
    rw [List.drop_eq_getElem_cons hi]
    simp [List.getD_eq_getElem?_getD, List.getElem?_eq_getElem hi]
  rw [e]
  simp [ints, marks, List.range_succ, List.set_append]

theorem marks_get {l : List Int} {k : Int} {i : Nat} (hi : i < l.length) : (ints (marks k i ++ l.drop i))[0 + ((i : Nat) : Int).toNat]? = some [.int .i64 (l.getD i 0)] := by
  rw [Nat.zero_add]
  have e : l.drop i = l.getD i 0 :: l.drop (i + 1) := by
    rw [List.drop_eq_getElem_cons hi]
    simp [List.getD_eq_getElem?_getD, List.getElem?_eq_getElem hi]
  rw [e]
  simp [ints, marks, List.getElem?_append]

/-- a list is handed over, and written over -/
def GMarkIntS : GFun := fun xs objs Q => ∃ l k, xs = [.ref 0 0 l.length, .int .i64 k] ∧ objs = [.arr 1 (ints l)] ∧ l.length ≤ 1073741824 ∧ 0 ≤ k ∧ k ≤ 4611686018427387904 ∧ Q (.int .i64 (k + l.length)) [some (.arr 1 (ints (marks k l.length)))]
theorem GMarkIntS_mk {l : List Int} {k : Int} {Q : AV → List (Option AObj) → Prop} (h1 : l.length ≤ 1073741824) (h2 : 0 ≤ k) (h3 : k ≤ 4611686018427387904) (hq : Q (.int .i64 (k + l.length)) [some (.arr 1 (ints (marks k l.length)))]) :
    GMarkIntS [.ref 0 0 l.length, .int .i64 k] [.arr 1 (ints l)] Q := ⟨l, k, rfl, rfl, h1, h2, h3, hq⟩

theorem s_laws_markIntS : GenSound Try.prog 79 1 GMarkIntS := by
  have hR : Rely Try.prog (ctxOf []) := rely_nil mixed
  refine gen_of_aw b_laws_markIntS ?_
  rintro xs objs Q - ⟨l, k, rfl, rfl, h1, h2, h3, hq⟩ -
  refine ⟨by simp, vc2_sound hR _ _ _ _ _ ?_⟩
  conv => whnf
  repeat' ((first
    | contradiction
    | (refine And.intro (fun hb => ?_) (fun hb => ?_) <;> first | contradiction | ((try simp only [SB, reduceCtorEq] at hb); try (exfalso; first | contradiction | omega)))
    | refine And.intro rfl ?_
    | refine ⟨_, IntWalk.i64_in _ (by omega), ?_⟩
    | rw [ints_at (by omega)]
    | rw [ints_at0 (by omega)]
    | rw [ints_at' (by omega) (by omega)]
    | refine And.intro (lens_all rfl) ?_
    | refine And.intro (show _ ≤ _ ∧ (_ + 1) * _ ≤ _ ∧ _ + 1 ≤ _ by first | omega | (simp; omega)) ?_
    | refine And.intro (show 1 * _ ≤ _ ∧ 1 ≤ _ by omega) ?_
    | refine And.intro (by first | omega | (simp; omega) | (show _ ∧ _; simp; done)) ?_
    | fail) <;> conv => whnf)
  refine Lp.intro (α := Nat) (fun i => i ≤ l.length) (fun i => l.length - i) (fun i => [(0, .ref 0 0 l.length), (1, .int .i64 (k + i)), (5, .int .i64 i)]) (fun i => [some (.arr 1 (ints (marks k i ++ l.drop i)))]) ?_ ?_
  · refine ⟨0, by omega, [some 0], rfl, rfl, And.intro (And.intro rfl ?_) trivial, ?_⟩
    · simp [marks]
    · repeat' (first
        | exact trivial
        | refine ⟨?_, ?_⟩
        | fail)
      all_goals first
        | with_reducible rfl
        | (conv => whnf
           try left
           conv => lhs; whnf
           first
             | rfl
             | exact congrArg (AV.int .i64) (by omega)
             | skip)
  · intro i hi
    refine vc2_sound hR _ _ _ _ _ ?_
    conv => whnf
    repeat' ((first
      | contradiction
      | (refine And.intro (fun hb => ?_) (fun hb => ?_) <;> first | contradiction | ((try simp only [SB, reduceCtorEq] at hb); try (exfalso; first | contradiction | omega)))
      | refine And.intro rfl ?_
      | refine ⟨_, IntWalk.i64_in _ (by omega), ?_⟩
      | rw [ints_at (by omega)]
      | rw [ints_at0 (by omega)]
      | rw [ints_at' (by omega) (by omega)]
      | refine And.intro (lens_all rfl) ?_
      | refine And.intro (show _ ≤ _ ∧ (_ + 1) * _ ≤ _ ∧ _ + 1 ≤ _ by first | omega | (simp; omega)) ?_
      | refine And.intro (show 1 * _ ≤ _ ∧ 1 ≤ _ by omega) ?_
      | refine And.intro (by first | omega | (simp; omega) | (show _ ∧ _; simp; done)) ?_
      | rw [marks_get (by omega)]
      | fail) <;> conv => whnf)
    · refine ⟨i + 1, by omega, by omega, [some 0], rfl, rfl, And.intro (And.intro rfl ?_) trivial, ?_⟩
      · show (ints _).set (0 + ((i : Nat) : Int).toNat) _ = _
        rw [Nat.zero_add]
        exact set_step (by omega)
      · repeat' (first
          | exact trivial
          | refine ⟨?_, ?_⟩
          | fail)
        all_goals first
          | with_reducible rfl
          | (conv => whnf
             try left
             conv => lhs; whnf
             first
               | rfl
               | exact congrArg (AV.int .i64) (by omega)
               | skip)
    · have hil : i = l.length := by omega
      refine ⟨.inl rfl, ?_⟩
      conv => whnf
      subst hil
      refine ⟨[some 0], .int .i64 (k + l.length), [some (.arr 1 (ints (marks k l.length)))], ⟨rfl, And.intro (And.intro rfl ?_) trivial⟩, .inl rfl, rfl, hq⟩
      simp

def heldI (l : List Int) (k : Int) : Int := if l = marks k l.length then k + l.length else -1
def RHeldIntS (xs : List AV) (r : AV) (objs : List AObj) : Prop := ∃ l k, xs = [.val (ints l), .int .i64 k] ∧ l.length ≤ 1073741824 ∧ 0 ≤ k ∧ k ≤ 4611686018427387904 ∧ r = .int .i64 (heldI l k) ∧ objs = []
theorem RHeldIntS_eq {xs : List AV} {l : List Int} {k : Int} (h : xs = [.val (ints l), .int .i64 k]) (h1 : l.length ≤ 1073741824) (h2 : 0 ≤ k) (h3 : k ≤ 4611686018427387904) : RHeldIntS xs (.int .i64 (heldI l k)) [] := ⟨l, k, h, h1, h2, h3, rfl, rfl⟩

theorem heldI_marks (k : Int) (n : Nat) : heldI (marks k n) k = k + n := by simp [heldI, length_marks]

theorem s_laws_heldIntS : PureSound Try.prog 80 RHeldIntS := by
  have hR : Rely Try.prog (ctxOf []) := rely_nil mixed
  refine pure_of_aw b_laws_heldIntS ?_
  rintro xs r objs ⟨l, k, rfl, h1, h2, h3, rfl, rfl⟩ -
  refine ⟨by simp, vc2_sound hR _ _ _ _ _ ?_⟩
  conv => whnf
  repeat' ((first
    | contradiction
    | (refine And.intro (fun hb => ?_) (fun hb => ?_) <;> first | contradiction | ((try simp only [SB, reduceCtorEq] at hb); try (exfalso; first | contradiction | omega)))
    | refine And.intro rfl ?_
    | refine ⟨_, IntWalk.i64_in _ (by omega), ?_⟩
    | rw [ints_at (by omega)]
    | rw [ints_at0 (by omega)]
    | rw [ints_at' (by omega) (by omega)]
    | refine And.intro (lens_all rfl) ?_
    | refine And.intro (show _ ≤ _ ∧ (_ + 1) * _ ≤ _ ∧ _ + 1 ≤ _ by first | omega | (simp; omega)) ?_
    | refine And.intro (show 1 * _ ≤ _ ∧ 1 ≤ _ by omega) ?_
    | refine And.intro (by first | omega | (simp; omega) | (show _ ∧ _; simp; done)) ?_
    | fail) <;> conv => whnf)
  refine Lp.intro (α := Nat) (fun i => i ≤ l.length ∧ ∀ j, j < i → l.getD j 0 = k + j) (fun i => l.length - i) (fun i => [(0, .val (ints l)), (1, .int .i64 (k + i)), (5, .int .i64 i)]) (fun _ => []) ?_ ?_
  · refine ⟨0, ⟨by omega, by omega⟩, [], rfl, rfl, trivial, ?_⟩
    repeat' (first
      | exact trivial
      | refine ⟨?_, ?_⟩
      | fail)
    all_goals first
      | with_reducible rfl
      | (conv => whnf
         try left
         conv => lhs; whnf
         first
           | rfl
           | exact congrArg (AV.int .i64) (by omega)
           | skip)
  · rintro i ⟨hi, hall⟩
    refine vc2_sound hR _ _ _ _ _ ?_
    conv => whnf
    repeat' ((first
      | contradiction
      | (refine And.intro (fun hb => ?_) (fun hb => ?_) <;> first | contradiction | ((try simp only [SB, reduceCtorEq] at hb); try (exfalso; first | contradiction | omega)))
      | refine And.intro rfl ?_
      | refine ⟨_, IntWalk.i64_in _ (by omega), ?_⟩
      | rw [ints_at (by omega)]
      | rw [ints_at0 (by omega)]
      | rw [ints_at' (by omega) (by omega)]
      | refine And.intro (lens_all rfl) ?_
      | refine And.intro (show _ ≤ _ ∧ (_ + 1) * _ ≤ _ ∧ _ + 1 ≤ _ by first | omega | (simp; omega)) ?_
      | refine And.intro (show 1 * _ ≤ _ ∧ 1 ≤ _ by omega) ?_
      | refine And.intro (by first | omega | (simp; omega) | (show _ ∧ _; simp; done)) ?_
      | fail) <;> conv => whnf)
    · refine ⟨.inl rfl, ?_⟩
      conv => whnf
      refine ⟨[], ⟨rfl, trivial⟩, ?_, rfl, rfl⟩
      conv => whnf
      left
      conv => lhs; whnf
      refine congrArg (AV.int .i64) ?_
      unfold heldI
      rw [if_neg]
      intro he
      have : l.getD i 0 = (marks k l.length).getD i 0 := congrArg (fun z => z.getD i 0) he
      rw [marks_at (by omega)] at this
      contradiction
    · refine ⟨i + 1, ⟨by omega, fun j hj => ?_⟩, by omega, [], rfl, rfl, ?_, ?_⟩
      · by_cases hji : j = i
        · subst hji; assumption
        · exact hall j (by omega)
      · repeat' (first | exact trivial | exact rfl | exact Or.inl rfl | refine And.intro ?_ ?_)
      · repeat' (first
          | exact trivial
          | refine ⟨?_, ?_⟩
          | fail)
        all_goals first
          | with_reducible rfl
          | (conv => whnf
             try left
             conv => lhs; whnf
             first
               | rfl
               | exact congrArg (AV.int .i64) (by omega)
               | skip)
    · refine ⟨.inl rfl, ?_⟩
      conv => whnf
      refine ⟨[], ⟨rfl, trivial⟩, ?_, rfl, rfl⟩
      conv => whnf
      left
      conv => lhs; whnf
      refine congrArg (AV.int .i64) ?_
      have hil : i = l.length := by omega
      unfold heldI
      rw [if_pos, hil]
      refine eq_of_getD (by rw [length_marks]) (fun j hj => ?_)
      rw [marks_at hj]
      exact hall j (by omega)

def GMarkWord : GFun := fun xs objs Q => ∃ s l k, xs = [.agg [.ref 0 0 s.length, .ref 1 0 l.length], .int .i64 k] ∧ objs = [.arr 1 (ints s), .arr 1 (ints l)] ∧ s.length ≤ 1073741824 ∧ l.length ≤ 1073741824 ∧ 0 ≤ k ∧ k ≤ 1073741824 ∧
  Q (.int .i64 (k + s.length + l.length)) [some (.arr 1 (ints (marks k s.length))), some (.arr 1 (ints (marks (k + s.length) l.length)))]
theorem GMarkWord_mk {s l : List Int} {k : Int} {Q : AV → List (Option AObj) → Prop} (h1 : s.length ≤ 1073741824) (h1' : l.length ≤ 1073741824) (h2 : 0 ≤ k) (h3 : k ≤ 1073741824)
    (hq : Q (.int .i64 (k + s.length + l.length)) [some (.arr 1 (ints (marks k s.length))), some (.arr 1 (ints (marks (k + s.length) l.length)))]) :
    GMarkWord [.agg [.ref 0 0 s.length, .ref 1 0 l.length], .int .i64 k] [.arr 1 (ints s), .arr 1 (ints l)] Q := ⟨s, l, k, rfl, rfl, h1, h1', h2, h3, hq⟩

set_option maxHeartbeats 2000000 in
theorem s_laws_markWord : GenSound Try.prog 25 2 GMarkWord := by
  have hR : Rely Try.prog (ctxOf [(79, .gen 1 GMarkIntS)]) := rely_cons b_laws_markIntS.has s_laws_markIntS (rely_nil mixed)
  refine gen_of_aw b_laws_markWord ?_
  rintro xs objs Q - ⟨s, l, k, rfl, rfl, h1, h1', h2, h3, hq⟩ -
  refine ⟨by simp, vc2_sound hR _ _ _ _ _ ?_⟩
  conv => whnf
  repeat' ((first
    | contradiction
    | (refine And.intro (fun hb => ?_) (fun hb => ?_) <;> first | contradiction | ((try simp only [SB, reduceCtorEq] at hb); try (exfalso; first | contradiction | omega)))
    | refine And.intro rfl ?_
    | refine ⟨_, IntWalk.i64_in _ (by omega), ?_⟩
    | rw [ints_at (by omega)]
    | rw [ints_at0 (by omega)]
    | rw [ints_at' (by omega) (by omega)]
    | refine And.intro (lens_all rfl) ?_
    | refine And.intro (show _ ≤ _ ∧ (_ + 1) * _ ≤ _ ∧ _ + 1 ≤ _ by first | omega | (simp; omega)) ?_
    | refine And.intro (show 1 * _ ≤ _ ∧ 1 ≤ _ by omega) ?_
    | refine And.intro (by first | omega | (simp; omega) | (show _ ∧ _; simp; done)) ?_
    | refine ⟨GMarkIntS_mk (by omega) (by omega) (by omega) ?_⟩
    | fail) <;> conv => whnf)
  refine ⟨.inl rfl, ?_⟩
  conv => whnf
  exact ⟨[some 0, some 1], .int .i64 (k + s.length + l.length), [some (.arr 1 (ints (marks k s.length))), some (.arr 1 (ints (marks (k + s.length) l.length)))], ⟨rfl, And.intro (And.intro rfl rfl) (And.intro (And.intro rfl rfl) trivial)⟩, .inl rfl, rfl, hq⟩

def heldW (s l : List Int) (k : Int) : Int := if heldI s k < 0 then -1 else if heldI l (heldI s k) < 0 then -1 else heldI l (heldI s k)
def RHeldWord (xs : List AV) (r : AV) (objs : List AObj) : Prop := ∃ s l k, xs = [word s l, .int .i64 k] ∧ s.length ≤ 1073741824 ∧ l.length ≤ 1073741824 ∧ 0 ≤ k ∧ k ≤ 1073741824 ∧ r = .int .i64 (heldW s l k) ∧ objs = []
theorem RHeldWord_eq {xs : List AV} {s l : List Int} {k : Int} (h : xs = [word s l, .int .i64 k]) (h1 : s.length ≤ 1073741824) (h1' : l.length ≤ 1073741824) (h2 : 0 ≤ k) (h3 : k ≤ 1073741824) : RHeldWord xs (.int .i64 (heldW s l k)) [] :=
  ⟨s, l, k, h, h1, h1', h2, h3, rfl, rfl⟩

theorem heldI_le {l : List Int} {k : Int} : heldI l k ≤ k + l.length ∨ heldI l k = -1 := by
  unfold heldI; split <;> simp

theorem s_laws_heldWord : PureSound Try.prog 26 RHeldWord := by
  have hR : Rely Try.prog (ctxOf [(80, .pure RHeldIntS)]) := rely_cons b_laws_heldIntS.has s_laws_heldIntS (rely_nil mixed)
  refine pure_of_aw b_laws_heldWord ?_
  rintro xs r objs ⟨s, l, k, rfl, h1, h1', h2, h3, rfl, rfl⟩ -
  refine ⟨by simp, vc2_sound hR _ _ _ _ _ ?_⟩
  have hs := heldI_le (l := s) (k := k)
  conv => whnf
  repeat' ((first
    | contradiction
    | (refine And.intro (fun hb => ?_) (fun hb => ?_) <;> first | contradiction | ((try simp only [SB, reduceCtorEq] at hb); try (exfalso; first | contradiction | omega)))
    | refine And.intro rfl ?_
    | refine ⟨_, IntWalk.i64_in _ (by omega), ?_⟩
    | rw [ints_at (by omega)]
    | rw [ints_at0 (by omega)]
    | rw [ints_at' (by omega) (by omega)]
    | refine And.intro (lens_all rfl) ?_
    | refine And.intro (show _ ≤ _ ∧ (_ + 1) * _ ≤ _ ∧ _ + 1 ≤ _ by first | omega | (simp; omega)) ?_
    | refine And.intro (show 1 * _ ≤ _ ∧ 1 ≤ _ by omega) ?_
    | refine And.intro (by first | omega | (simp; omega) | (show _ ∧ _; simp; done)) ?_
    | refine ⟨_, _, RHeldIntS_eq (l := s) (k := k) rfl (by omega) (by omega) (by omega), ?_⟩
    | refine ⟨_, _, RHeldIntS_eq (l := l) (k := heldI s k) rfl (by omega) (by omega) (by omega), ?_⟩
    | fail) <;> conv => whnf)
  all_goals
    refine ⟨.inl rfl, ?_⟩
    conv => whnf
    refine ⟨[], ⟨rfl, trivial⟩, ?_, rfl, rfl⟩
    conv => whnf
    left
    conv => lhs; whnf
    refine congrArg (AV.int .i64) ?_
    unfold heldW
    first
    | (rw [if_pos (by omega)])
    | (rw [if_neg (by omega), if_pos (by omega)])
    | (rw [if_neg (by omega), if_neg (by omega)])

theorem heldW_marks (k : Int) (a b : Nat) (hk : 0 ≤ k) : heldW (marks k a) (marks (k + a) b) k = k + a + b := by
  unfold heldW
  rw [heldI_marks, if_neg (by omega), heldI_marks, if_neg (by omega)]

end Go.Proofs.Ytpfbkblgefddlaa.Ct
